/- Layer 27: a terminal is asked for. No condition · Layer 27: a variable is looked for. No condition but the number of variables · Layer 27: a session that is asked; for all sessions and requests; the bytes lie in memory, the lengths are small · The machine: a struct with arrays is equal to itself; over any program; no condition · The machine: two structs compared (flat ones and nested ones; bools, numbers, strings); over any program; no condition · Layer 27: sessions handed from one package to another one; the document's Same; for all sessions; no condition but the number of variables · Layer 19: programs handed from one package to another one; for all programs; the lengths are small · Layer 19: are programs more than are looked at; for all programs; no condition but what memory holds · Layer 27: requests that are handed in, are they more than is looked at; a call that answers some thing with a row of ours. No condition · Layer 4: Encode; no condition but the sizes that can be · Layer 27: the document's examples; global 0 holds a number · Layer 27: the document's examples; global 0 holds a number. -/
import Derived.Test.YtdplnedpbkpgpaaGreatDoorSwC
import Derived.Test.YtdplnedpbkpgpaaGreatDoorSwA
import Derived.ChangeKeysEq
import Derived.Test.YtdplnedpbkpgpaaGreatDoorEngG
import Derived.Test.YtdplnedpbkpgpaaGreatDoorEngAC
import Derived.Test.YtdplnedpbkpgpaaGreatDoorEngK
namespace Go.Proofs.YtdplnedpbkpgpaaGreatDoor
set_option linter.all false
set_option maxRecDepth 100000
open Go.RowKit

section
variable (s : SS) (A : Option Addr) (cap : Nat) (m : RQ) (pA : Option Addr) (pc : Nat) (ps : List PR) (w : World) (g : Nat)
theorem ok_any27 (a : AC) (hB : AskAt w g s A cap m pA ps.length pc a) : Calls Tryz.prog 95 #[.pointer (some ⟨g, 0, none⟩)] w (AskPost w g A cap m pA ps.length pc (s, { a with ok := true })) := by
  refine Hs.enter Tryz.func95 [g] [g] [.b true 88 (askSC s A cap m pA ps.length pc a)] [.c (.p 0 0)] (Mem.ask hB) (by kernel_rfl) (by kernel_rfl) ?_
  refine Hs.run0 300 (fun _ => by kernel_rfl) ?_
  exact Hs.ret (v := .tuple #[]) Tryz.func95 (by kernel_rfl) fun w' H => H.askE rfl (by kernel_rfl)
set_option maxHeartbeats 8000000 in
theorem pty_any27 (hB : AskAt w g s A cap m pA ps.length pc noA) (hm : RdU w m.mA m.mc m.modes) (hb : ∀ x ∈ m.modes, 0 ≤ x ∧ x < 256) (hf : ∀ a, m.mA = some a → 0 < m.modes.length → a.block ≠ g) : Calls Tryz.prog 52 #[.pointer (some ⟨g, 0, none⟩)] w (AskPost w g A cap m pA ps.length pc (ptyM s m)) := by
  refine Hs.enter Tryz.func52 [g] [g] [.b true 88 (askSC s A cap m pA ps.length pc noA)] [.c (.p 0 0)] (Mem.ask hB) (by kernel_rfl) (by kernel_rfl) ?_
  unfold ptyM
  refine Hs.run0 300 (fun _ => by kernel_rfl) ?_
  refine Hs.bool 9 s.pty (by kernel_rfl) (fun h1 => ?_) (fun h1 => ?_)
  · refine Hs.rung0 [5] 300 (fun _ => by kernel_rfl) ?_
    refine Hs.condT (by kernel_rfl) ?_
    refine Hs.run0 300 (fun _ => by kernel_rfl) ?_
    rw [if_pos h1]
    exact Hs.ret (v := .tuple #[]) Tryz.func52 (by kernel_rfl) fun w' H => H.askE rfl (by kernel_rfl)
  rw [if_neg (by rw [h1]; decide)]
  refine Hs.rung0 [5] 300 (fun _ => by kernel_rfl) ?_
  refine Hs.cond s.st (by kernel_rfl) (fun h2 => ?_) (fun h2 => ?_)
  · rw [if_pos h2]
    refine Hs.run0 300 (fun _ => by kernel_rfl) ?_
    exact Hs.ret (v := .tuple #[]) Tryz.func52 (by kernel_rfl) fun w' H => H.askE rfl (by kernel_rfl)
  rw [if_neg (by rw [h2]; decide)]
  refine Hs.run0 300 (fun _ => by kernel_rfl) ?_
  refine Hs.any [0] (by kernel_rfl) ?_
  obtain ⟨z, hz⟩ : ∃ z, z = modesD tDef m.modes := ⟨_, rfl⟩
  rw [← hz]
  obtain ⟨t2, e2⟩ := z
  dsimp only
  refine Hs.run0 300 (fun _ => by kernel_rfl) ?_
  apply Hs.share1 (β' := [g])
  · intro K
    refine Hs.branch2 5 10 (by kernel_rfl) ?_ ?_
    · refine Hs.callV (fun w' H => default_any27 w') (by kernel_rfl) ?_
      refine Hs.run0 300 (fun _ => by kernel_rfl) ?_
      refine Hs.branch2 6 10 (by kernel_rfl) ?_ ?_
      · refine Hs.callV (v := .tuple #[t2.val, .int .i64 e2]) (fun w' H => by have := mdecode_any tDef m.mA m.mc m.modes w' ⟨hm.1.far H.only (fun a ha h0 hm => hf a ha h0 (List.mem_singleton.1 hm)), hm.2⟩ hb; rw [← hz] at this; exact this) (by kernel_rfl) ?_
        refine Hs.run1 300 (fun _ => by kernel_rfl) fun b1 => ?_
        exact K b1
      · refine Hs.run1 300 (fun _ => by kernel_rfl) fun b1 => ?_
        refine Hs.callV (v := .tuple #[t2.val, .int .i64 e2]) (fun w' H => by have := mdecode_any tDef m.mA m.mc m.modes w' ⟨hm.1.far H.only (fun a ha h0 hm => hf a ha h0 (List.mem_singleton.1 hm)), hm.2⟩ hb; rw [← hz] at this; exact this) (by kernel_rfl) ?_
        refine Hs.run0 300 (fun _ => by kernel_rfl) ?_
        exact Hs.eqM (K b1) (by kernel_rfl) (by kernel_rfl)
    · refine Hs.run1 300 (fun _ => by kernel_rfl) fun b1 => ?_
      refine Hs.callV (fun w' H => default_any27 w') (by kernel_rfl) ?_
      refine Hs.run0 300 (fun _ => by kernel_rfl) ?_
      refine Hs.callV (v := .tuple #[t2.val, .int .i64 e2]) (fun w' H => by have := mdecode_any tDef m.mA m.mc m.modes w' ⟨hm.1.far H.only (fun a ha h0 hm => hf a ha h0 (List.mem_singleton.1 hm)), hm.2⟩ hb; rw [← hz] at this; exact this) (by kernel_rfl) ?_
      refine Hs.run0 300 (fun _ => by kernel_rfl) ?_
      exact Hs.eqM (K b1) (by kernel_rfl) (by kernel_rfl)
  intro b1
  refine Hs.bool 28 (e2 != 0) (by kernel_rfl) (fun h3 => ?_) (fun h3 => ?_)
  · rw [if_pos (by simpa using h3)]
    refine Hs.rung0 [2] 300 (fun _ => by kernel_rfl) ?_
    refine Hs.condT (by kernel_rfl) ?_
    refine Hs.run0 300 (fun _ => by kernel_rfl) ?_
    exact Hs.ret (v := .tuple #[]) Tryz.func52 (by kernel_rfl) fun w' H => H.askE rfl (by kernel_rfl)
  rw [if_neg (by simpa using h3)]
  refine Hs.rung0 [2] 300 (fun _ => by kernel_rfl) ?_
  refine Hs.callV (v := .bool (rightB t2)) (fun w' H => (right_any t2 w').mono fun e w1 ⟨h1, h2⟩ => ⟨h1, only_of_below h2⟩) (by kernel_rfl) ?_
  refine Hs.rung0 [2] 300 (fun _ => by kernel_rfl) ?_
  refine Hs.cond (!rightB t2) (by kernel_rfl) (fun h4 => ?_) (fun h4 => ?_)
  · rw [if_neg (by simpa using h4)]
    refine Hs.run0 300 (fun _ => by kernel_rfl) ?_
    exact Hs.ret (v := .tuple #[]) Tryz.func52 (by kernel_rfl) fun w' H => H.askE rfl (by kernel_rfl)
  rw [if_pos (by simpa using h4)]
  obtain ⟨S2, hS⟩ : ∃ S2 : SS, S2 = { s with pty := true, term := m.text, c0 := m.cols, c1 := m.rows, c2 := m.width, c3 := m.height, t := t2 } := ⟨_, rfl⟩
  rw [← hS]
  subst hS
  refine Hs.run0 300 (fun _ => by kernel_rfl) ?_
  refine Hs.any [1] (by kernel_rfl) ?_
  refine Hs.run0 300 (fun _ => by kernel_rfl) ?_
  refine Hs.branch2 8 13 (by kernel_rfl) ?_ ?_
  · refine Hs.run0 300 (fun _ => by kernel_rfl) ?_
    refine Hs.callP 0 88 (askSC ({ s with pty := true, term := m.text, c0 := m.cols, c1 := m.rows, c2 := m.width, c3 := m.height, t := t2 } : SS) A cap m pA ps.length pc okA) (v := .tuple #[]) (fun w' H => (ok_any27 _ A cap m pA pc ps w' g noA (H.askB rfl (by kernel_rfl))).mono fun e w1 h => by rw [dens_ask]; exact h) (by kernel_rfl) (by kernel_rfl) ?_
    refine Hs.run0 300 (fun _ => by kernel_rfl) ?_
    exact Hs.ret (v := .tuple #[]) Tryz.func52 (by kernel_rfl) fun w' H => H.askE rfl (by kernel_rfl)
  · refine Hs.run0 300 (fun _ => by kernel_rfl) ?_
    refine Hs.callP 0 88 (askSC ({ s with pty := true, term := m.text, c0 := m.cols, c1 := m.rows, c2 := m.width, c3 := m.height, t := t2 } : SS) A cap m pA ps.length pc okA) (v := .tuple #[]) (fun w' H => (ok_any27 _ A cap m pA pc ps w' g noA (H.askB rfl (by kernel_rfl))).mono fun e w1 h => by rw [dens_ask]; exact h) (by kernel_rfl) (by kernel_rfl) ?_
    refine Hs.run0 300 (fun _ => by kernel_rfl) ?_
    exact Hs.ret (v := .tuple #[]) Tryz.func52 (by kernel_rfl) fun w' H => H.askE rfl (by kernel_rfl)
end
end Go.Proofs.YtdplnedpbkpgpaaGreatDoor

namespace Go.Proofs.YtdplnedpbkpgpaaGreatDoor
set_option linter.all false
set_option maxRecDepth 100000
open Go.RowKit
def envFV (b : Nat) : Value := .func (.func 97) #[] #[.pointer (some ⟨b, 0, none⟩)]
theorem Mem.env {w : World} {b g : Nat} {s : SS} {A : Option Addr} {cap : Nat} {m : RQ} {pA : Option Addr} {pl pc : Nat} {a : AC} (h : Blk w b 86 [.pointer (some ⟨g, 0, none⟩)]) (hB : AskAt w g s A cap m pA pl pc a) (hbg : b ≠ g) : Mem w [] [b, g] [.b false 86 [.p 1 0], .b false 88 (askSC s A cap m pA pl pc a)] w := by
  refine Mem.start _ _ _ _ rfl (fun k x hk => ?_) (fun k x y hk hw => ?_) (fun i j x y z hi hj ei ej => ?_)
  · match k, hk with
    | 0, hk => injection hk with hk; subst hk; exact h
    | 1, hk =>
      injection hk with hk
      subst hk
      show Blk w g 88 (dens [b, g] (askSC s A cap m pA pl pc a))
      rw [dens_ask]
      exact hB
  · match k, hk with
    | 0, hk => injection hk with hk; subst hk; cases hw
    | 1, hk => injection hk with hk; subst hk; cases hw
  · match i, j, hi, hj with
    | 0, 0, _, _ => rfl
    | 1, 1, _, _ => rfl
    | 0, 1, hi, hj =>
      injection hi with hi; injection hj with hj; subst hi; subst hj
      injection ei with ei; injection ej with ej
      exact absurd (ei.trans ej.symm) hbg
    | 1, 0, hi, hj =>
      injection hi with hi; injection hj with hj; subst hi; subst hj
      injection ei with ei; injection ej with ej
      exact absurd (ej.trans ei.symm) hbg
set_option maxHeartbeats 4000000 in
theorem indexV_any (s : SS) (A1 : Option Addr) (cap1 : Nat) (m : RQ) (pA : Option Addr) (pl pc : Nat) (a : AC) (b g : Nat) (hbg : b ≠ g) (A : Option Addr) (c : Nat) (ps : List VR) (w : World) (h : Blk w b 86 [.pointer (some ⟨g, 0, none⟩)]) (hB : AskAt w g s A1 cap1 m pA pl pc a) (hr : RdX cVar w A ps) (hl : ps.length ≤ maxLen) : Calls Tryz.prog 96 #[.slice A ps.length c, envFV b] w fun e w' => e = .returned (.int .i64 (varI m.text ps)) ∧ Only [] w w' := by
  have J : ∀ (d i : Nat), ps.length - i = d → i ≤ ps.length → (∀ x ∈ ps.take i, (x.n.toList == m.text.toList) = false) → ∀ (u : Nat → Value), Hs Tryz.prog 96 (fun e w' => e = .returned (.int .i64 (varI m.text ps)) ∧ Only [] w w') (Tryz.f96).ntmps w [] [b, g] ⟨.no, loopAt Tryz.f96 0, pins [(0, .c (.v (.slice A ps.length c))), (1, .c (.v (envFV b))), (7, .c (.v (.int .i64 ps.length))), (8, .c (.v (.int .i64 i)))] (.vals u), [.b false 86 [.p 1 0], .b false 88 (askSC s A1 cap1 m pA pl pc a)]⟩ := by
    intro d
    induction d with
    | zero =>
      intro i hd hi hno u
      obtain rfl : i = ps.length := by omega
      rw [List.take_length] at hno
      have e : varI m.text ps = -1 := by
        unfold varI
        have := idxS_app m.text [] ((ps.map VR.n)) 0 (fun s hs => by
          obtain ⟨x, hx, rfl⟩ := List.mem_map.1 hs
          exact hno x hx)
        rw [List.append_nil] at this
        rw [this]
        rfl
      rw [e]
      refine Hs.run0 300 (fun _ => by kernel_rfl) ?_
      refine Hs.condP ((ps.length : Int) < (ps.length : Int)) (by kernel_rfl) (fun h => by omega) (fun _ => ?_)
      refine Hs.run0 300 (fun _ => by kernel_rfl) ?_
      exact Hs.ret (v := .int .i64 (-1)) Tryz.func96 (by kernel_rfl) fun w' H => ⟨rfl, H.only⟩
    | succ d ih =>
      intro i hd hi hno u
      have hil : i < ps.length := by omega
      obtain ⟨x, hx⟩ : ∃ x, ps[i]? = some x := ⟨_, List.getElem?_eq_getElem hil⟩
      obtain ⟨ab, aoff, hA, _, _⟩ := hr (by omega)
      have hih := fun h u => ih (i + 1) (by omega) (by omega) h u
      clear ih
      rw [hA] at hih hr ⊢
      refine Hs.run0 300 (fun _ => by kernel_rfl) ?_
      refine Hs.condP ((i : Int) < (ps.length : Int)) (by kernel_rfl) (fun _ => ?_) (fun h => by omega)
      refine Hs.run0 300 (fun _ => by kernel_rfl) ?_
      refine Hs.idx (b := ab) (off := aoff) (len := ps.length) (c := c) (i := i) elemVr hil (by kernel_rfl) ?_
      refine Hs.ldx (cf := cVar) (size := 2) (E := 59) (b := ab) (off := aoff) (i := i) (l := ps) (x := x) cVar_len (.g x.sc) (by kernel_rfl) (fun w' H => hr.only H.only) hx (by kernel_rfl) (by kernel_rfl) rfl (by kernel_rfl) ?_
      refine Hs.inl Tryz.func97 [.g x.sc, .c (.p 0 0)] (by kernel_rfl) (by kernel_rfl) ?_
      refine Hs.run1 300 (fun _ => by kernel_rfl) fun b2 => ?_
      refine Hs.any [0, 1, 2] (by kernel_rfl) ?_
      refine Hs.run0 300 (fun _ => by kernel_rfl) ?_
      refine Hs.retI Tryz.func97 (by kernel_rfl) (by kernel_rfl) (by kernel_rfl) ?_
      refine Hs.run0 300 (fun _ => by kernel_rfl) ?_
      refine Hs.cond (x.n.toList == m.text.toList) (by kernel_rfl) (fun h1 => ?_) (fun h1 => ?_)
      · have e : varI m.text ps = i := by
          unfold varI
          have e2 : (ps.map VR.n) = ((ps.take i).map VR.n) ++ (x.n :: ((ps.drop (i + 1)).map VR.n)) := by
            have e3 : ps = ps.take i ++ x :: ps.drop (i + 1) := by
              have h3 := List.drop_eq_getElem_cons hil
              rw [List.getElem?_eq_getElem hil] at hx
              injection hx with hx
              rw [hx] at h3
              rw [← h3, List.take_append_drop]
            rw [← List.map_cons, ← List.map_append, ← e3]
          rw [e2, idxS_app m.text _ _ 0 (fun s hs => by
            obtain ⟨y, hy, rfl⟩ := List.mem_map.1 hs
            exact hno y hy), idx_yes (by rw [← h1]; exact Bool.beq_comm)]
          rw [List.length_map, List.length_take]
          omega
        rw [e]
        refine Hs.run0 300 (fun _ => by kernel_rfl) ?_
        exact Hs.ret (v := .int .i64 i) Tryz.func96 (by kernel_rfl) fun w' H => ⟨rfl, H.only⟩
      · refine Hs.run0 300 (fun _ => by kernel_rfl) ?_
        refine Hs.slot 8 (.c (.v (.int .i64 (i + 1 : Nat)))) rfl ((by kernel_rfl : _ = Value.int .i64 (IntKind.i64.wrap ((i : Int) + 1))).trans (wrap_nextJ hl)) ?_
        refine Hs.loop (by kernel_rfl) ?_
        exact Hs.goto (loopAt Tryz.f96 0) [0, 1] [.b false 86 [.p 1 0], .b false 88 (askSC s A1 cap1 m pA pl pc a)] [(0, .c (.v (.slice (some ⟨ab, aoff, none⟩) ps.length c))), (1, .c (.v (envFV b))), (7, .c (.v (.int .i64 ps.length))), (8, .c (.v (.int .i64 (i + 1 : Nat))))] (by kernel_rfl) (by decide) (by kernel_rfl) (by kernel_rfl) (fun _ => (by kernel_rfl)) (fun u => hih (by
          rw [List.take_add_one, hx]
          intro y hy
          rcases List.mem_append.1 hy with hy | hy
          · exact hno y hy
          · rw [Option.mem_toList] at hy
            injection hy with hy
            subst hy
            exact h1) u)
  refine Hs.enter Tryz.func96 [] [b, g] [.b false 86 [.p 1 0], .b false 88 (askSC s A1 cap1 m pA pl pc a)] [.c (.v (.slice A ps.length c)), .c (.v (envFV b))] (Mem.env h hB hbg) (by kernel_rfl) (by kernel_rfl) ?_
  refine Hs.run0 300 (fun _ => by kernel_rfl) ?_
  refine Hs.loop (by kernel_rfl) ?_
  exact Hs.goto (loopAt Tryz.f96 0) [0, 1] [.b false 86 [.p 1 0], .b false 88 (askSC s A1 cap1 m pA pl pc a)] [(0, .c (.v (.slice A ps.length c))), (1, .c (.v (envFV b))), (7, .c (.v (.int .i64 ps.length))), (8, .c (.v (.int .i64 (0 : Nat))))] (by kernel_rfl) (by decide) (by kernel_rfl) (by kernel_rfl) (fun _ => (by kernel_rfl)) (fun u => J ps.length 0 (by omega) (by omega) (by simp) u)
end Go.Proofs.YtdplnedpbkpgpaaGreatDoor

namespace Go.Proofs.YtdplnedpbkpgpaaGreatDoor
set_option linter.all false
set_option maxRecDepth 100000
open Go.RowKit
def mAo (m : RQ) : Option Addr := if m.modes.length = 0 then none else m.mA
theorem RQ.ok.stable2 {w w' : World} {m : RQ} (h1 : ∀ a, mAo m = some a → w'.heap[a.block]? = w.heap[a.block]?) (h2 : w.heap.size ≤ w'.heap.size) (h : m.ok w) : m.ok w' :=
  ⟨fun h0 => by
    obtain ⟨b, off, e, hlt, hc⟩ := h.modes h0
    exact ⟨b, off, e, Nat.lt_of_lt_of_le hlt h2, fun i x hx => (World.cell?_of_block (w := w) (show w'.heap[b]? = w.heap[b]? from h1 ⟨b, off, none⟩ (by unfold mAo; rw [if_neg (by omega)]; exact e))).trans (hc i x hx)⟩, h.mle, h.mmax, h.bytes, h.nums, h.text, h.value, h.lang⟩
theorem cell_step {w w' : World} {v : Value} (O : Only [] w w') (h : w.cell? ⟨0, 0, none⟩ = some v) : w'.cell? ⟨0, 0, none⟩ = some v := by
  rw [← h]
  exact World.cell?_of_block (w := w) (w' := w') (O.block 0 (block_lt_of_cell h) (by simp))
theorem dec_q {w w' : World} {nm : ByteArray} {l : List Int} {e : Ending} (h : RDecPost w nm l e w') : ∃ x : RQ × Int, e = .returned (.tuple #[x.1.val, .int .i64 x.2]) ∧ Only [] w w' ∧ (x.1.ok w' ∧ DecR nm l x.1 x.2) ∧ ∀ a, mAo x.1 = some a → w.heap.size ≤ a.block ∧ a.block < w'.heap.size := by
  obtain ⟨O, m, E, he, hok, hnew, _, hD⟩ := h
  refine ⟨(m, E), he, O, ⟨hok, hD⟩, fun a ha => ?_⟩
  unfold mAo at ha
  split at ha
  · cases ha
  · rename_i h0
    have h0' : ¬ m.modes.length = 0 := h0
    obtain ⟨b, off, e1, hlt, _⟩ := hok.modes (by omega)
    have ha' : m.mA = some a := ha
    refine ⟨hnew a ha', ?_⟩
    rw [ha'] at e1
    injection e1 with e1
    rw [e1]
    exact hlt
theorem long_le27 {n : Nat} (h : longE n = 0) : n ≤ 1024 := by
  unfold longE at h
  split at h
  · cases h
  · omega
theorem dec_text {nm : ByteArray} {l : List Int} {m : RQ} (h : DecR nm l m 0) (h4 : m.kind = 4) : m.text.size ≤ 1024 := by
  unfold DecR at h
  split at h
  · exact absurd h.1 (by decide)
  · rename_i k hk
    obtain ⟨h1, h2, _⟩ := kindL_range hk
    have hk4 := decK_kind h1 h2 h
    obtain rfl : k = 4 := by omega
    unfold DecK at h
    split at h
    · rename_i hn; exact absurd h.1.symm hn
    · obtain ⟨fs, hf, h⟩ := h
      split at h
      · rename_i hq
        rw [← h.2] at hq
        exact long_le27 hq
      · rename_i hn; exact absurd h.1.symm hn
theorem own_ge {w w' : World} {β : List Nat} {hp : List HB} {T : Nat} {cs : List SC} (H : Mem w [] β hp w') (k : Nat) (hk : hp[k]? = some (.b true T cs)) : w.heap.size ≤ nm β k := (H.own k _ _ hk rfl rfl).resolve_left (by simp)
theorem own_apart {w w' : World} {β : List Nat} {hp : List HB} {T : Nat} {cs : List SC} {A : Option Addr} {Q : World → Prop} {st : ∀ w w' : World, (∀ a, A = some a → w'.heap[a.block]? = w.heap[a.block]?) → w.heap.size ≤ w'.heap.size → Q w → Q w'} (H : Mem w [] β hp w') (i j : Nat) (hi : hp[i]? = some (.q true A Q st)) (hj : hp[j]? = some (.b true T cs)) (hij : i ≠ j) (a : Addr) (ha : A = some a) : a.block ≠ nm β j := fun he =>
  hij (H.inj i j _ _ a.block hi hj (by show Option.map Addr.block A = _; rw [ha]; rfl) (by show some (nm β j) = _; rw [he]))
theorem startS_env (s : SS) (nm : ByteArray) (ps : List PR) : (startS s nm ps).1.env = s.env := by
  unfold startS
  split
  · rfl
  · split <;> rfl
theorem ptyM_env (s : SS) (m : RQ) : (ptyM s m).1.env = s.env := by
  unfold ptyM
  repeat' split
  all_goals rfl
theorem sizeM_env (s : SS) (m : RQ) : (sizeM s m).1.env = s.env := by
  unfold sizeM
  repeat' split
  all_goals rfl
theorem sigM_env (s : SS) (m : RQ) : (sigM s m).1.env = s.env := by
  unfold sigM
  repeat' split
  all_goals rfl
def SS.valL (s : SS) (A : Option Addr) (n cap : Nat) : Value := .agg (#[.bool s.pty, .string s.term, .int .u32 s.c0, .int .u32 s.c1, .int .u32 s.c2, .int .u32 s.c3, .int .u8 (s.t.ch 0), .int .u8 (s.t.ch 1), .int .u8 (s.t.ch 2), .int .u8 (s.t.ch 3), .int .u8 (s.t.ch 4), .int .u8 (s.t.ch 5), .int .u8 (s.t.ch 6), .int .u8 (s.t.ch 7), .int .u8 (s.t.ch 8), .int .u8 (s.t.ch 9), .int .u8 (s.t.ch 10), .int .u8 (s.t.ch 11), .int .u8 (s.t.ch 12), .int .u8 (s.t.ch 13), .int .u8 (s.t.ch 14), .int .u8 (s.t.ch 15), .int .u8 (s.t.ch 16), .int .u8 (s.t.ch 17), .int .u8 (s.t.ch 18), .int .u64 s.t.fl, .int .u32 s.t.inn, .int .u32 s.t.out, .int .i64 s.t.mn, .int .i64 s.t.tm, .slice A n cap, .bool s.st])
theorem var_len (l : List VR) : (l.flatMap cVar).length = l.length * 2 := by
  induction l with
  | nil => rfl
  | cons x l ih => rw [List.flatMap_cons, List.length_append, ih, cVar_len, List.length_cons]; omega
theorem splice_var : ∀ (l : List VR) (i : Nat), i < l.length → ∀ v : ByteArray, splice (l.flatMap cVar) (i * 2 + 1) [.string v] = (l.set i ⟨((l.map VR.n)[i]?).getD ⟨#[]⟩, v⟩).flatMap cVar
  | x :: l, 0, _, v => by simp [splice, cVar]
  | x :: l, i + 1, h, v => by
    have ih := splice_var l i (by simpa using h) v
    have e : (i + 1) * 2 + 1 = i * 2 + 1 + 1 + 1 := by omega
    simp only [List.flatMap_cons, List.set_cons_succ, List.map_cons, List.getElem?_cons_succ]
    rw [← ih, e]
    simp [splice, cVar]
theorem idxS_lt (nm : ByteArray) : ∀ (l : List ByteArray) (k : Int), 0 ≤ k → idxS nm l k < k + l.length
  | [], k, h => by
    show (-1 : Int) < k + ((0 : Nat) : Int)
    omega
  | s :: l, k, h => by
    have ih := idxS_lt nm l (k + 1) (by omega)
    unfold idxS
    rw [List.length_cons]
    split
    · omega
    · omega
theorem varI_lt {nm : ByteArray} {l : List VR} {i : Nat} (h : varI nm l = i) : i < l.length := by
  have := idxS_lt nm (l.map VR.n) 0 (Int.le_refl _)
  unfold varI at h
  rw [h, List.length_map] at this
  omega
theorem SS.val_env (s : SS) (l : List VR) (n : Nat) (h : l.length = n) (A : Option Addr) (cap : Nat) : s.valL A n cap = ({ s with env := l } : SS).val A cap := by
  subst h
  rfl
theorem own_ne {w w' : World} {β : List Nat} {hp : List HB} {T T' : Nat} {cs cs' : List SC} (H : Mem w [] β hp w') (i j : Nat) (hi : hp[i]? = some (.b true T cs)) (hj : hp[j]? = some (.b true T' cs')) (hij : i ≠ j) : nm β i ≠ nm β j := fun he =>
  hij (H.inj i j _ _ (nm β j) hi hj (by show some (nm β i) = _; rw [he]) rfl)
section
variable {P : Program} {f : FuncId} {R : Ending → World → Prop} {n : Nat} {β : List Nat} {m : SM} {w0 : World} {L : List Nat} {E size : Nat}
theorem Hs.stc2 (k : Nat) {g cap nl : Nat} {vs vs' : List Value} (hk : m.hp[k]? = some (.s (some ⟨g, 0, none⟩) cap nl E size vs)) (j : Nat) (hj : j < vs.length) {v : Value} (hv : v.cells = #[v]) (hone : v.oneCell' = true) {E' : TypeId} (hz : szB P E' = some 1)
    (hs : semOf n β m = some (unitS (Instr.storeAt E' (.pointer (some ⟨g, j, none⟩)) v))) (hrd : (rdOf m).contains k = false) (e : splice vs j [v] = vs')
    (h : Hs P f R n w0 L β (m.put (dstOf m) (.c (.v undef)) (m.hp.set k (.s (some ⟨g, 0, none⟩) cap nl E size vs')))) : Hs P f R n w0 L β m := by
  subst e
  exact Hs.stc k hk j hj hv hone hz hs hrd h
end
/-- What Ask answers. -/
def AskD (s : SS) (nam : ByteArray) (l : List Int) (ps : List PR) (w : World) : Ending → World → Prop := fun e w' => Only [] w w' ∧ ∃ (m : RQ) (E : Int) (A' : Option Addr) (cap' : Nat), DecR nam l m E ∧ e = .returned (.tuple #[(askM s m E ps).1.val A' cap', (askM s m E ps).2.val]) ∧ OwnX cVar 59 2 w' w.heap.size (.slice A' (askM s m E ps).1.env.length cap') (askM s m E ps).1.env
theorem askD_ok {s : SS} {nam : ByteArray} {l : List Int} {ps : List PR} {w w' : World} {m : RQ} {E : Int} {z : SS × AC} (hz : askM s m E ps = z) (hD : DecR nam l m E) {A' : Option Addr} {cap' : Nat} {β : List Nat} {hp : List HB} (H : Mem w [] β hp w') {vs : List Value} {nl : Nat} (hv : vs = z.1.env.flatMap cVar) (hn : z.1.env.length = nl) (hk : hp[3]? = some (.s A' cap' nl 59 2 vs)) {v : Value} (he : v = z.1.val A' cap') : AskD s nam l ps w (.returned (.tuple #[v, z.2.val])) w' := by
  subst hz hv hn he
  exact ⟨H.only, m, E, A', cap', hD, rfl, H.fresh 3 rfl hk⟩
theorem rd_modes {w : World} {m : RQ} (h : m.ok w) : RdX cu8 w m.mA m.modes := rd_rdX h.modes
theorem Hs.fact27 {P : Program} {f : FuncId} {R : Ending → World → Prop} {n : Nat} {w0 : World} {L : List Nat} {β : List Nat} {m : SM} {p : Prop} (hp : ∀ w, Mem w0 L β m.hp w → p) (h : p → Hs P f R n w0 L β m) : Hs P f R n w0 L β m := ⟨fun w H W => (h (hp w H)).go w H W⟩
set_option maxHeartbeats 8000000 in
theorem ask_anyP27 (s : SS) (A : Option Addr) (cap : Nat) (nam : ByteArray) (B : Option Addr) (c : Nat) (l : List Int) (pA : Option Addr) (pc : Nat) (ps : List PR) (w : World) (i0 : Int) (h00 : w.cell? ⟨0, 0, none⟩ = some (.int .i64 i0)) (hs : RdX cVar w A s.env) (hse : s.env.length ≤ 1000000) (hd : Rd w B l) (hl : ∀ x ∈ l, 0 ≤ x ∧ x < 256) (hln : l.length ≤ 140737488355000) (hlc : l.length ≤ c) (hlm : c ≤ maxLen) (hal : ∀ a, B = some a → 0 < l.length → a.block < w.heap.size) (hr : RdX cPr w pA ps) (hpl : ps.length ≤ maxLen) :
    Calls Tryz.prog 11 #[s.val A cap, .string nam, .slice B l.length c, .slice pA ps.length pc] w (AskD s nam l ps w) := by
  have hw0 : 0 < w.heap.size := block_lt_of_cell h00
  refine Hs.enter Tryz.func11 [] [] [] [.g (s.sc A cap), .c (.v (.string nam)), .c (.v (.slice B l.length c)), .c (.v (.slice pA ps.length pc))] (Mem.start0 w) (by kernel_rfl) (by kernel_rfl) ?_
  refine Hs.run3 300 (fun _ => by kernel_rfl) fun b0 b1 b2 => ?_
  refine Hs.callS (cf := cVar) (E := 59) (size := 2) (fun A cap => .slice A s.env.length cap) s.env s.env.length rfl (fun w' H => cloneV_any s.env A cap w' (hs.only H.only) (by omega)) (by kernel_rfl) (by kernel_rfl) fun A' cap' h1 h2 => ?_
  refine Hs.run0 300 (fun _ => by kernel_rfl) ?_
  refine Hs.callQ (X := RQ × Int) (fun x => mAo x.1) (fun x => .tuple #[x.1.val, .int .i64 x.2]) (fun x w => x.1.ok w ∧ DecR nam l x.1 x.2) (fun x w w' h1 h2 h => ⟨h.1.stable2 h1 h2, h.2⟩) (fun w' H => (rdecode_anyP nam B l c i0 w' (cell_step H.only h00) (hd.only H.only) hl hln hlc hlm (fun a ha h0 => Nat.lt_of_lt_of_le (hal a ha h0) H.only.size)).mono fun e w1 h => dec_q h) (by kernel_rfl) (by kernel_rfl) fun x => ?_
  obtain ⟨m, E⟩ := x
  refine Hs.run1 300 (fun _ => by kernel_rfl) fun b5 => ?_
  refine Hs.fact27 (fun w' H => (H.atQ 4 (wr := true) (A := mAo m) (Q := fun w => m.ok w ∧ DecR nam l m E) (st := fun w w' h1 h2 h => ⟨h.1.stable2 h1 h2, h.2⟩) (by kernel_rfl)).2) fun hD => ?_
  refine Hs.cond (E != 0) (by kernel_rfl) (fun h3 => ?_) (fun h3 => ?_)
  · have hz : askM s m E ps = (s, noA) := by unfold askM; rw [if_pos (by simpa using h3)]
    refine Hs.run0 300 (fun _ => by kernel_rfl) ?_
    exact Hs.ret (v := .tuple #[s.val A' cap', noA.val]) Tryz.func11 (by kernel_rfl) fun w' H => askD_ok hz hD H rfl rfl (by kernel_rfl) rfl
  obtain rfl : E = 0 := by simpa using h3
  obtain ⟨k, hk1, hk2, hk⟩ := decR_kind27 hD
  have hz : askM s m 0 ps = kindM s m ps k := by unfold askM; rw [if_neg (by simp), hk]; rfl
  refine Hs.run1 300 (fun _ => by kernel_rfl) fun b6 => ?_
  refine Hs.any [5] (by kernel_rfl) ?_
  refine Hs.run0 300 (fun _ => by kernel_rfl) ?_
  refine Hs.callV (fun w' H => kinds_any27 w') (by kernel_rfl) ?_
  refine Hs.slot 34 (.c (.v (.int .i64 k))) rfl ((by kernel_rfl : _ = Value.int .i64 m.kind).trans (by rw [hk]; rfl)) ?_
  rcases k10 hk1 hk2 with rfl | rfl | rfl | rfl | rfl | rfl | rfl | rfl | rfl | rfl
  · replace hz : askM s m 0 ps = ptyM s m := hz
    obtain ⟨z, hzz⟩ : ∃ z, ptyM s m = z := ⟨_, rfl⟩
    rw [hzz] at hz
    have henv : z.1.env = s.env := (congrArg (fun z : SS × AC => z.1.env) hzz.symm).trans (ptyM_env s m)
    refine Hs.run0 300 (fun _ => by kernel_rfl) ?_
    refine Hs.callP 6 88 (askSC z.1 A' cap' m pA ps.length pc z.2) (v := .tuple #[]) (fun w' H => by
      have hq := (H.atQ 4 (wr := true) (A := mAo m) (Q := fun w => m.ok w ∧ DecR nam l m 0) (st := fun w w' h1 h2 h => ⟨h.1.stable2 h1 h2, h.2⟩) (by kernel_rfl)).1
      have hB := H.at (wr := true) (T := 88) (cs := askSC s A' cap' m pA ps.length pc noA) 6 (by kernel_rfl)
      rw [dens_ask] at hB
      have hg : ∀ a, m.mA = some a → 0 < m.modes.length → a.block ≠ b6 := fun a ha h0 => own_apart H (A := mAo m) (Q := fun w => m.ok w ∧ DecR nam l m 0) (st := fun w w' h1 h2 h => ⟨h.1.stable2 h1 h2, h.2⟩) (T := 88) (cs := askSC s A' cap' m pA ps.length pc noA) 4 6 (by kernel_rfl) (by kernel_rfl) (by decide) a (by unfold mAo; rw [if_neg (by omega)]; exact ha)
      exact (pty_any27 s A' cap' m pA pc ps w' b6 hB ⟨rd_modes hq, hq.mle, hq.mmax⟩ hq.bytes hg).mono fun e w1 h => by rw [hzz] at h; rw [dens_ask]; exact h) (by kernel_rfl) (by kernel_rfl) ?_
    refine Hs.run0 300 (fun _ => by kernel_rfl) ?_
    refine Hs.any [6] (by kernel_rfl) ?_
    refine Hs.run0 300 (fun _ => by kernel_rfl) ?_
    exact Hs.ret (v := .tuple #[z.1.val A' cap', z.2.val]) Tryz.func11 (by kernel_rfl) fun w' H => askD_ok hz hD H (vs := s.env.flatMap cVar) (nl := s.env.length) (by rw [henv]) (by rw [henv]) (by kernel_rfl) rfl
  · replace hz : askM s m 0 ps = envM s m := hz
    unfold envM at hz
    refine Hs.run0 300 (fun _ => by kernel_rfl) ?_
    refine Hs.inl Tryz.func53 [.c (.p 6 0)] (by kernel_rfl) (by kernel_rfl) ?_
    refine Hs.run1 300 (fun _ => by kernel_rfl) fun b7 => ?_
    refine Hs.cond s.st (by kernel_rfl) (fun h4 => ?_) (fun h4 => ?_)
    · rw [if_pos h4] at hz
      refine Hs.run0 300 (fun _ => by kernel_rfl) ?_
      refine Hs.retI Tryz.func53 (by kernel_rfl) (by kernel_rfl) (by kernel_rfl) ?_
      refine Hs.run0 300 (fun _ => by kernel_rfl) ?_
      refine Hs.any [6] (by kernel_rfl) ?_
      refine Hs.run0 300 (fun _ => by kernel_rfl) ?_
      exact Hs.ret (v := .tuple #[s.val A' cap', noA.val]) Tryz.func11 (by kernel_rfl) fun w' H => askD_ok hz hD H rfl rfl (by kernel_rfl) rfl
    rw [if_neg (by rw [h4]; decide)] at hz
    refine Hs.run0 300 (fun _ => by kernel_rfl) ?_
    refine Hs.callV (v := .int .i64 (varI m.text s.env)) (fun w' H => by
      have hB := H.at (wr := true) (T := 88) (cs := askSC s A' cap' m pA ps.length pc noA) 6 (by kernel_rfl)
      rw [dens_ask] at hB
      have hne : b7 ≠ b6 := own_ne H 7 6 (T := 86) (cs := [.p 6 0]) (T' := 88) (cs' := askSC s A' cap' m pA ps.length pc noA) (by kernel_rfl) (by kernel_rfl) (by decide)
      have hR : RdX cVar w' A' s.env := H.rdX 3 (A := A') (cap := cap') (E := 59) (size := 2) rfl (by kernel_rfl)
      have hP : Blk w' b7 86 [.pointer (some ⟨b6, 0, none⟩)] := H.at (wr := true) (T := 86) (cs := [.p 6 0]) 7 (by kernel_rfl)
      exact indexV_any s A' cap' m pA ps.length pc noA b7 b6 hne A' cap' s.env w' hP hB hR (by unfold maxLen; omega)) (by kernel_rfl) ?_
    refine Hs.run0 300 (fun _ => by kernel_rfl) ?_
    refine Hs.condP (varI m.text s.env ≥ 0) (by kernel_rfl) (fun h5 => ?_) (fun h5 => ?_)
    · rw [if_pos h5] at hz
      obtain ⟨i, hi⟩ : ∃ i : Nat, varI m.text s.env = i := ⟨_, (Int.toNat_of_nonneg h5).symm⟩
      have hil : i < s.env.length := varI_lt hi
      rw [hi, Int.toNat_natCast] at hz
      refine Hs.someS (A := A') (cap := cap') (nl := s.env.length) (E := 59) (size := 2) (vs := s.env.flatMap cVar) 3 (by kernel_rfl) (by omega) fun g hA => ?_
      subst hA
      refine Hs.run0 300 (fun _ => by kernel_rfl) ?_
      refine Hs.any [6, 7] (by kernel_rfl) ?_
      refine Hs.run0 300 (fun _ => by kernel_rfl) ?_
      refine Hs.slot 45 (.c (.v (.int .i64 i))) rfl ((by kernel_rfl : _ = Value.int .i64 (varI m.text s.env)).trans (congrArg (Value.int .i64) hi)) ?_
      refine Hs.idx (b := g) (off := 0) (c := cap') (len := s.env.length) (i := i) elemVr hil (by kernel_rfl) ?_
      refine Hs.run0 300 (fun _ => by kernel_rfl) ?_
      refine Hs.stc2 (E := 59) (size := 2) (g := g) (cap := cap') (nl := s.env.length) (vs := s.env.flatMap cVar) (E' := 9) 3 (by kernel_rfl) (0 + i * 2 + 1) (by rw [var_len]; omega) (v := .string m.value) rfl rfl (by kernel_rfl) (by kernel_rfl) (by kernel_rfl) (vs' := (s.env.set i ⟨((s.env.map VR.n)[i]?).getD ⟨#[]⟩, m.value⟩).flatMap cVar) (by rw [Nat.zero_add]; exact splice_var s.env i hil m.value) ?_
      refine Hs.run0 300 (fun _ => by kernel_rfl) ?_
      refine Hs.callP 6 88 (askSC s (some ⟨g, 0, none⟩) cap' m pA ps.length pc okA) (v := .tuple #[]) (fun w' H => (ok_any27 s (some ⟨g, 0, none⟩) cap' m pA pc ps w' b6 noA (by have := H.at (wr := true) (T := 88) (cs := askSC s (some ⟨g, 0, none⟩) cap' m pA ps.length pc noA) 6 (by kernel_rfl); rw [dens_ask] at this; exact this)).mono fun e w1 h => by rw [dens_ask]; exact h) (by kernel_rfl) (by kernel_rfl) ?_
      refine Hs.run0 300 (fun _ => by kernel_rfl) ?_
      refine Hs.retI Tryz.func53 (by kernel_rfl) (by kernel_rfl) (by kernel_rfl) ?_
      refine Hs.run0 300 (fun _ => by kernel_rfl) ?_
      refine Hs.any [6] (by kernel_rfl) ?_
      refine Hs.run0 300 (fun _ => by kernel_rfl) ?_
      exact Hs.ret (v := .tuple #[s.val (some ⟨g, 0, none⟩) cap', okA.val]) Tryz.func11 (by kernel_rfl) fun w' H => askD_ok hz hD H rfl List.length_set (by kernel_rfl) (SS.val_env s _ _ List.length_set _ _)
    rw [if_neg h5] at hz
    refine Hs.run0 300 (fun _ => by kernel_rfl) ?_
    refine Hs.condP ((s.env.length : Int) ≥ 16) (by kernel_rfl) (fun h6 => ?_) (fun h6 => ?_)
    · rw [if_pos h6] at hz
      refine Hs.run0 300 (fun _ => by kernel_rfl) ?_
      refine Hs.retI Tryz.func53 (by kernel_rfl) (by kernel_rfl) (by kernel_rfl) ?_
      refine Hs.run0 300 (fun _ => by kernel_rfl) ?_
      refine Hs.any [6] (by kernel_rfl) ?_
      refine Hs.run0 300 (fun _ => by kernel_rfl) ?_
      exact Hs.ret (v := .tuple #[s.val A' cap', noA.val]) Tryz.func11 (by kernel_rfl) fun w' H => askD_ok hz hD H rfl rfl (by kernel_rfl) rfl
    rw [if_neg h6] at hz
    refine Hs.run0 300 (fun _ => by kernel_rfl) ?_
    refine Hs.any [6, 7, 1022] (by kernel_rfl) ?_
    refine Hs.run1 300 (fun _ => by kernel_rfl) fun b8 => ?_
    refine Hs.app (cf := cVar) (c := 1) (ty := 39) 3 elemVr s.env [(⟨m.text, m.value⟩ : VR)] s.env.length 1 rfl rfl cVar_one cVar_len (A := A') (B := some ⟨b8, 0, none⟩) (cap := cap') (by kernel_rfl) (by kernel_rfl) (by kernel_rfl) (fun w' H => H.rdB (gs := [(⟨m.text, m.value⟩ : VR)]) 8 (wr := true) (T := 59) (cs := VR.sc ⟨m.text, m.value⟩) (by kernel_rfl) rfl) (by unfold maxLen; omega) (by rw [by_vr]; omega) fun A2 cap2 h7 => ?_
    refine Hs.runK [95] 1000 0 Tryz.func53 rfl (by kernel_rfl) (fun ν => by kernel_rfl) (fun ν => by kernel_rfl) fun ν hν => ?_
    obtain rfl := List.length_eq_zero_iff.1 hν
    refine Hs.retI Tryz.func53 (by kernel_rfl) (by kernel_rfl) (by kernel_rfl) ?_
    refine Hs.run0 300 (fun _ => by kernel_rfl) ?_
    refine Hs.any [6] (by kernel_rfl) ?_
    refine Hs.run0 300 (fun _ => by kernel_rfl) ?_
    exact Hs.ret (v := .tuple #[s.valL A2 (s.env.length + 1) cap2, okA.val]) Tryz.func11 (by kernel_rfl) fun w' H => askD_ok hz hD H (A' := A2) (cap' := cap2) (nl := s.env.length + 1) rfl (by show (s.env ++ [_]).length = _; rw [List.length_append]; rfl) (by kernel_rfl) (SS.val_env s (s.env ++ [⟨m.text, m.value⟩]) (s.env.length + 1) (by rw [List.length_append]; rfl) A2 cap2)
  · replace hz : askM s m 0 ps = startS s shellS ps := hz
    obtain ⟨z, hzz⟩ : ∃ z, startS s shellS ps = z := ⟨_, rfl⟩
    rw [hzz] at hz
    have henv : z.1.env = s.env := (congrArg (fun z : SS × AC => z.1.env) hzz.symm).trans (startS_env s shellS ps)
    refine Hs.run0 300 (fun _ => by kernel_rfl) ?_
    refine Hs.callP 6 88 (askSC z.1 A' cap' m pA ps.length pc z.2) (v := .tuple #[]) (fun w' H => (shell_any27 s A' cap' m pA pc ps w' b6 (by have := H.at (wr := true) (T := 88) (cs := askSC s A' cap' m pA ps.length pc noA) 6 (by kernel_rfl); rw [dens_ask] at this; exact this) (hr.only H.only) hpl (fun a ha h0 => by obtain ⟨b, off, e, hlt, _⟩ := hr h0; rw [ha] at e; injection e with e; have : w.heap.size ≤ b6 := own_ge H 6 (T := 88) (cs := askSC s A' cap' m pA ps.length pc noA) (by kernel_rfl); rw [e]; show b ≠ b6; omega)).mono fun e w1 h => by rw [hzz] at h; rw [dens_ask]; exact h) (by kernel_rfl) (by kernel_rfl) ?_
    refine Hs.run0 300 (fun _ => by kernel_rfl) ?_
    refine Hs.any [6] (by kernel_rfl) ?_
    refine Hs.run0 300 (fun _ => by kernel_rfl) ?_
    exact Hs.ret (v := .tuple #[z.1.val A' cap', z.2.val]) Tryz.func11 (by kernel_rfl) fun w' H => askD_ok hz hD H (vs := s.env.flatMap cVar) (nl := s.env.length) (by rw [henv]) (by rw [henv]) (by kernel_rfl) rfl
  · replace hz : askM s m 0 ps = startS s (cutS m.text) ps := hz
    obtain ⟨z, hzz⟩ : ∃ z, startS s (cutS m.text) ps = z := ⟨_, rfl⟩
    rw [hzz] at hz
    have henv : z.1.env = s.env := (congrArg (fun z : SS × AC => z.1.env) hzz.symm).trans (startS_env s (cutS m.text) ps)
    refine Hs.run0 300 (fun _ => by kernel_rfl) ?_
    refine Hs.callP 6 88 (askSC z.1 A' cap' m pA ps.length pc z.2) (v := .tuple #[]) (fun w' H => (exec_any27 s A' cap' m pA pc ps w' b6 i0 (cell_step H.only h00) (by have : w.heap.size ≤ b6 := own_ge H 6 (T := 88) (cs := askSC s A' cap' m pA ps.length pc noA) (by kernel_rfl); omega) (by have := dec_text hD hk; omega) (by have := H.at (wr := true) (T := 88) (cs := askSC s A' cap' m pA ps.length pc noA) 6 (by kernel_rfl); rw [dens_ask] at this; exact this) (hr.only H.only) hpl (fun a ha h0 => by obtain ⟨b, off, e, hlt, _⟩ := hr h0; rw [ha] at e; injection e with e; have : w.heap.size ≤ b6 := own_ge H 6 (T := 88) (cs := askSC s A' cap' m pA ps.length pc noA) (by kernel_rfl); rw [e]; show b ≠ b6; omega)).mono fun e w1 h => by rw [hzz] at h; rw [dens_ask]; exact h) (by kernel_rfl) (by kernel_rfl) ?_
    refine Hs.run0 300 (fun _ => by kernel_rfl) ?_
    refine Hs.any [6] (by kernel_rfl) ?_
    refine Hs.run0 300 (fun _ => by kernel_rfl) ?_
    exact Hs.ret (v := .tuple #[z.1.val A' cap', z.2.val]) Tryz.func11 (by kernel_rfl) fun w' H => askD_ok hz hD H (vs := s.env.flatMap cVar) (nl := s.env.length) (by rw [henv]) (by rw [henv]) (by kernel_rfl) rfl
  · replace hz : askM s m 0 ps = startS s m.text ps := hz
    obtain ⟨z, hzz⟩ : ∃ z, startS s m.text ps = z := ⟨_, rfl⟩
    rw [hzz] at hz
    have henv : z.1.env = s.env := (congrArg (fun z : SS × AC => z.1.env) hzz.symm).trans (startS_env s m.text ps)
    refine Hs.run0 300 (fun _ => by kernel_rfl) ?_
    refine Hs.callP 6 88 (askSC z.1 A' cap' m pA ps.length pc z.2) (v := .tuple #[]) (fun w' H => (subsystem_any27 s A' cap' m pA pc ps w' b6 (by have := H.at (wr := true) (T := 88) (cs := askSC s A' cap' m pA ps.length pc noA) 6 (by kernel_rfl); rw [dens_ask] at this; exact this) (hr.only H.only) hpl (fun a ha h0 => by obtain ⟨b, off, e, hlt, _⟩ := hr h0; rw [ha] at e; injection e with e; have : w.heap.size ≤ b6 := own_ge H 6 (T := 88) (cs := askSC s A' cap' m pA ps.length pc noA) (by kernel_rfl); rw [e]; show b ≠ b6; omega)).mono fun e w1 h => by rw [hzz] at h; rw [dens_ask]; exact h) (by kernel_rfl) (by kernel_rfl) ?_
    refine Hs.run0 300 (fun _ => by kernel_rfl) ?_
    refine Hs.any [6] (by kernel_rfl) ?_
    refine Hs.run0 300 (fun _ => by kernel_rfl) ?_
    exact Hs.ret (v := .tuple #[z.1.val A' cap', z.2.val]) Tryz.func11 (by kernel_rfl) fun w' H => askD_ok hz hD H (vs := s.env.flatMap cVar) (nl := s.env.length) (by rw [henv]) (by rw [henv]) (by kernel_rfl) rfl
  · replace hz : askM s m 0 ps = sizeM s m := hz
    obtain ⟨z, hzz⟩ : ∃ z, sizeM s m = z := ⟨_, rfl⟩
    rw [hzz] at hz
    have henv : z.1.env = s.env := (congrArg (fun z : SS × AC => z.1.env) hzz.symm).trans (sizeM_env s m)
    refine Hs.run0 300 (fun _ => by kernel_rfl) ?_
    refine Hs.callP 6 88 (askSC z.1 A' cap' m pA ps.length pc z.2) (v := .tuple #[]) (fun w' H => (resize_any27 s A' cap' m pA pc ps w' b6 (by have := H.at (wr := true) (T := 88) (cs := askSC s A' cap' m pA ps.length pc noA) 6 (by kernel_rfl); rw [dens_ask] at this; exact this)).mono fun e w1 h => by rw [hzz] at h; rw [dens_ask]; exact h) (by kernel_rfl) (by kernel_rfl) ?_
    refine Hs.run0 300 (fun _ => by kernel_rfl) ?_
    refine Hs.any [6] (by kernel_rfl) ?_
    refine Hs.run0 300 (fun _ => by kernel_rfl) ?_
    exact Hs.ret (v := .tuple #[z.1.val A' cap', z.2.val]) Tryz.func11 (by kernel_rfl) fun w' H => askD_ok hz hD H (vs := s.env.flatMap cVar) (nl := s.env.length) (by rw [henv]) (by rw [henv]) (by kernel_rfl) rfl
  · replace hz : askM s m 0 ps = ((s, noA) : SS × AC) := hz
    obtain ⟨z, hzz⟩ : ∃ z, ((s, noA) : SS × AC) = z := ⟨_, rfl⟩
    rw [hzz] at hz
    have henv : z.1.env = s.env := (congrArg (fun z : SS × AC => z.1.env) hzz.symm).trans (rfl)
    refine Hs.run0 300 (fun _ => by kernel_rfl) ?_
    refine Hs.callP 6 88 (askSC z.1 A' cap' m pA ps.length pc z.2) (v := .tuple #[]) (fun w' H => (nothing_any27 s A' cap' m pA pc ps w' b6 (by have := H.at (wr := true) (T := 88) (cs := askSC s A' cap' m pA ps.length pc noA) 6 (by kernel_rfl); rw [dens_ask] at this; exact this)).mono fun e w1 h => by rw [hzz] at h; rw [dens_ask]; exact h) (by kernel_rfl) (by kernel_rfl) ?_
    refine Hs.run0 300 (fun _ => by kernel_rfl) ?_
    refine Hs.any [6] (by kernel_rfl) ?_
    refine Hs.run0 300 (fun _ => by kernel_rfl) ?_
    exact Hs.ret (v := .tuple #[z.1.val A' cap', z.2.val]) Tryz.func11 (by kernel_rfl) fun w' H => askD_ok hz hD H (vs := s.env.flatMap cVar) (nl := s.env.length) (by rw [henv]) (by rw [henv]) (by kernel_rfl) rfl
  · replace hz : askM s m 0 ps = sigM s m := hz
    obtain ⟨z, hzz⟩ : ∃ z, sigM s m = z := ⟨_, rfl⟩
    rw [hzz] at hz
    have henv : z.1.env = s.env := (congrArg (fun z : SS × AC => z.1.env) hzz.symm).trans (sigM_env s m)
    refine Hs.run0 300 (fun _ => by kernel_rfl) ?_
    refine Hs.callP 6 88 (askSC z.1 A' cap' m pA ps.length pc z.2) (v := .tuple #[]) (fun w' H => (signal_any27 s A' cap' m pA pc ps w' b6 (by have := H.at (wr := true) (T := 88) (cs := askSC s A' cap' m pA ps.length pc noA) 6 (by kernel_rfl); rw [dens_ask] at this; exact this)).mono fun e w1 h => by rw [hzz] at h; rw [dens_ask]; exact h) (by kernel_rfl) (by kernel_rfl) ?_
    refine Hs.run0 300 (fun _ => by kernel_rfl) ?_
    refine Hs.any [6] (by kernel_rfl) ?_
    refine Hs.run0 300 (fun _ => by kernel_rfl) ?_
    exact Hs.ret (v := .tuple #[z.1.val A' cap', z.2.val]) Tryz.func11 (by kernel_rfl) fun w' H => askD_ok hz hD H (vs := s.env.flatMap cVar) (nl := s.env.length) (by rw [henv]) (by rw [henv]) (by kernel_rfl) rfl
  · replace hz : askM s m 0 ps = ((s, noA) : SS × AC) := hz
    obtain ⟨z, hzz⟩ : ∃ z, ((s, noA) : SS × AC) = z := ⟨_, rfl⟩
    rw [hzz] at hz
    have henv : z.1.env = s.env := (congrArg (fun z : SS × AC => z.1.env) hzz.symm).trans (rfl)
    refine Hs.run0 300 (fun _ => by kernel_rfl) ?_
    refine Hs.callP 6 88 (askSC z.1 A' cap' m pA ps.length pc z.2) (v := .tuple #[]) (fun w' H => (nothing_any27 s A' cap' m pA pc ps w' b6 (by have := H.at (wr := true) (T := 88) (cs := askSC s A' cap' m pA ps.length pc noA) 6 (by kernel_rfl); rw [dens_ask] at this; exact this)).mono fun e w1 h => by rw [hzz] at h; rw [dens_ask]; exact h) (by kernel_rfl) (by kernel_rfl) ?_
    refine Hs.run0 300 (fun _ => by kernel_rfl) ?_
    refine Hs.any [6] (by kernel_rfl) ?_
    refine Hs.run0 300 (fun _ => by kernel_rfl) ?_
    exact Hs.ret (v := .tuple #[z.1.val A' cap', z.2.val]) Tryz.func11 (by kernel_rfl) fun w' H => askD_ok hz hD H (vs := s.env.flatMap cVar) (nl := s.env.length) (by rw [henv]) (by rw [henv]) (by kernel_rfl) rfl
  · replace hz : askM s m 0 ps = ((s, noA) : SS × AC) := hz
    obtain ⟨z, hzz⟩ : ∃ z, ((s, noA) : SS × AC) = z := ⟨_, rfl⟩
    rw [hzz] at hz
    have henv : z.1.env = s.env := (congrArg (fun z : SS × AC => z.1.env) hzz.symm).trans (rfl)
    refine Hs.run0 300 (fun _ => by kernel_rfl) ?_
    refine Hs.callP 6 88 (askSC z.1 A' cap' m pA ps.length pc z.2) (v := .tuple #[]) (fun w' H => (nothing_any27 s A' cap' m pA pc ps w' b6 (by have := H.at (wr := true) (T := 88) (cs := askSC s A' cap' m pA ps.length pc noA) 6 (by kernel_rfl); rw [dens_ask] at this; exact this)).mono fun e w1 h => by rw [hzz] at h; rw [dens_ask]; exact h) (by kernel_rfl) (by kernel_rfl) ?_
    refine Hs.run0 300 (fun _ => by kernel_rfl) ?_
    refine Hs.any [6] (by kernel_rfl) ?_
    refine Hs.run0 300 (fun _ => by kernel_rfl) ?_
    exact Hs.ret (v := .tuple #[z.1.val A' cap', z.2.val]) Tryz.func11 (by kernel_rfl) fun w' H => askD_ok hz hD H (vs := s.env.flatMap cVar) (nl := s.env.length) (by rw [henv]) (by rw [henv]) (by kernel_rfl) rfl
theorem ask_any27 (s : SS) (A : Option Addr) (cap : Nat) (nam : ByteArray) (B : Option Addr) (c : Nat) (l : List Int) (pA : Option Addr) (pc : Nat) (ps : List PR) (w : World) (i0 : Int) (h00 : w.cell? ⟨0, 0, none⟩ = some (.int .i64 i0)) (hs : RdX cVar w A s.env) (hse : s.env.length ≤ 1000000) (hd : Rd w B l) (hl : ∀ x ∈ l, 0 ≤ x ∧ x < 256) (hln : l.length ≤ 140737488355000) (hlc : l.length ≤ c) (hlm : c ≤ maxLen) (hal : ∀ a, B = some a → a.block < w.heap.size) (hr : RdX cPr w pA ps) (hpl : ps.length ≤ maxLen) :
    Calls Tryz.prog 11 #[s.val A cap, .string nam, .slice B l.length c, .slice pA ps.length pc] w (AskD s nam l ps w) := ask_anyP27 s A cap nam B c l pA pc ps w i0 h00 hs hse hd hl hln hlc hlm (fun a ha _ => hal a ha) hr hpl
end Go.Proofs.YtdplnedpbkpgpaaGreatDoor

namespace Go.Proofs.YtdplnedpbkpgpaaGreatDoor
set_option linter.all false

section
variable (P : Program)
def selfA : Nat → TypeId → Value → Bool
  | 0, _, _ => false
  | m + 1, t, v => match P.underlying t with
    | some .bool => match v with
      | .bool _ => true
      | _ => false
    | some (.int _) => match v with
      | .int _ _ => true
      | _ => false
    | some .string => match v with
      | .string _ => true
      | _ => false
    | some (.struct fs) => match v with
      | .agg xs => !P.stoodInHeld t && fs.toList.all fun f => f.name != "_" && (match partS P f.type (xs.toList.map .v) f.offset with
        | some u => selfA m f.type (u.den [])
        | none => false)
      | _ => false
    | some (.array len e) => match v with
      | .agg xs => (P.info? e).isSome && (List.range len).all fun i => (match partS P e (xs.toList.map .v) (i * P.cellsOf e) with
        | some u => selfA m e (u.den [])
        | none => false)
      | _ => false
    | _ => false
end
section
variable {P : Program}
theorem selfA_run : ∀ (m : Nat) (t : TypeId) (v : Value), selfA P m t v = true → ∀ (d : Nat) (w : World), (Op.equalIn (d + m) t v v).run P w = .ok true w
  | 0, t, v, h, d, w => by simp [selfA] at h
  | m + 1, t, v, h, d, w => by
    rw [show d + (m + 1) = (d + m) + 1 by omega]
    unfold selfA at h
    split at h
    · rename_i hu
      split at h
      · rename_i b; rw [run_equalIn_bool' w (d + m) t b b hu]; simp
      · cases h
    · rename_i k hu
      split at h
      · rename_i k' a; rw [run_equalIn_int w (d + m) t k' k a a hu]; simp
      · cases h
    · rename_i hu
      split at h
      · rename_i s; rw [run_equalIn_string w (d + m) t s s hu]; simp
      · cases h
    · rename_i fs hu
      split at h
      · rename_i xs
        simp only [Bool.and_eq_true, Bool.not_eq_true'] at h
        have hf : P.fieldsOf t = fs := by unfold Program.fieldsOf; rw [hu]
        rw [run_equalIn_struct w (d + m) t xs xs (by rw [hf]; exact hu) h.1, hf]
        have key : ∀ l : List Field, (l.all fun f => f.name != "_" && (match partS P f.type (xs.toList.map .v) f.offset with | some u => selfA P m f.type (u.den []) | none => false)) = true → (Op.eqFields (d + m) xs xs l).run P w = .ok true w := by
          intro l
          induction l with
          | nil => intro _; simp [Op.eqFields]
          | cons f l ih =>
            intro hl
            simp only [List.all_cons, Bool.and_eq_true] at hl
            obtain ⟨⟨h1, h2⟩, h3⟩ := hl
            split at h2
            · rename_i u hp
              have hpart : (part f.type xs f.offset).run P w = .ok (u.den []) w := by
                have := run_part_S (β := []) (w := w) hp
                rwa [dens_v, Array.toArray_toList] at this
              have hself := selfA_run m f.type (u.den []) h2 d w
              have hne : f.name ≠ "_" := by simpa using h1
              simp only [Op.eqFields, hne, ne_eq, not_false_eq_true, if_true, Sem.run_bind, hpart, Result.andThen_ok, hself, Bool.not_true, Bool.false_eq_true, if_false]
              exact ih h3
            · cases h2
        exact key fs.toList h.2
      · cases h
    · rename_i len e hu
      split at h
      · rename_i xs
        simp only [Bool.and_eq_true] at h
        obtain ⟨i, hi⟩ := Option.isSome_iff_exists.1 h.1
        rw [run_equalIn_array w (d + m) xs xs hu hi]
        have key : ∀ l : List Nat, (l.all fun i => (match partS P e (xs.toList.map .v) (i * P.cellsOf e) with | some u => selfA P m e (u.den []) | none => false)) = true → (Op.eqItems (d + m) e (P.cellsOf e) xs xs l).run P w = .ok true w := by
          intro l
          induction l with
          | nil => intro _; simp [Op.eqItems]
          | cons f l ih =>
            intro hl
            simp only [List.all_cons, Bool.and_eq_true] at hl
            obtain ⟨h2, h3⟩ := hl
            split at h2
            · rename_i u hp
              have hpart : (part e xs (f * P.cellsOf e)).run P w = .ok (u.den []) w := by
                have := run_part_S (β := []) (w := w) hp
                rwa [dens_v, Array.toArray_toList] at this
              have hself := selfA_run m e (u.den []) h2 d w
              simp only [Op.eqItems, Sem.run_bind, hpart, Result.andThen_ok, hself, Bool.not_true, Bool.false_eq_true, if_false]
              exact ih h3
            · cases h2
        exact key (List.range len) h.2
      · cases h
    · cases h
variable {f : FuncId} {R : Ending → World → Prop} {n : Nat} {w0 : World} {L : List Nat} {β : List Nat} {m : SM}
theorem run_sameA {op : BinOp} {T : TypeId} {xs : Array Value} {b : Bool} (ho : op = .eql ∧ b = true ∨ op = .neq ∧ b = false) (hm : P.eqGuardType P.depth T = false) (h : selfA P 100 T (.agg xs) = true) (x y : Operand) (w : World) : ((do eqGuard op T x y (.agg xs) (.agg xs); binOp op T (.agg xs) (.agg xs)) : Sem Value).run P w = .ok (.bool b) w := by
  have hr := selfA_run 100 T (.agg xs) h 9900 w
  rcases ho with ⟨rfl, rfl⟩ | ⟨rfl, rfl⟩
  · simp only [Sem.run_bind, run_eqGuard_agg w _ T x y xs xs hm, Result.andThen_ok, run_eql_struct]
    rw [show (10000 : Nat) = 9900 + 100 from rfl, hr]; rfl
  · simp only [Sem.run_bind, run_eqGuard_agg w _ T x y xs xs hm, Result.andThen_ok, run_neq_struct]
    rw [show (10000 : Nat) = 9900 + 100 from rfl, hr]; rfl
/-- A struct against itself. -/
theorem Hs.sameA {op : BinOp} {T : TypeId} (xs : Array Value) (b : Bool) (hc : sameOf n β m = some (op, T, .agg xs, .agg xs)) (ho : op = .eql ∧ b = true ∨ op = .neq ∧ b = false) (hm : (!P.eqGuardType P.depth T && selfA P 100 T (.agg xs)) = true) (h : Hs P f R n w0 L β (m.put (dstOf m) (.c (.v (.bool b))) m.hp)) : Hs P f R n w0 L β m := by
  simp only [Bool.and_eq_true, Bool.not_eq_true'] at hm
  refine ⟨fun w H W => ?_⟩
  unfold sameOf at hc
  split at hc
  · rename_i o hcur
    split at hc
    · rename_i hg
      split at hc
      · rename_i op' T' x y z hop
        simp only [Option.some.injEq, Prod.mk.injEq] at hc
        obtain ⟨rfl, rfl, hx, hy⟩ := hc
        have hd : dstOf m = o.dst := by unfold dstOf; rw [hcur]
        rw [hd] at h
        refine Gs.val (v := .c (.v (.bool b))) hcur hg ?_ (h.go w H ?_)
        · have hr := run_sameA (P := P) ho hm.1 hm.2 x y w
          simp only [execOp, hop, hx, hy, Sem.run_bind] at hr ⊢
          simp only [hr, Result.andThen_ok, Sem.run_pure]
          rfl
        · simp only [SM.wf, SM.put, Bool.and_eq_true]
          exact ⟨putS_wf (SM.wf_sl W) rfl, SM.wf_hp W⟩
      · cases hc
    · cases hc
  · cases hc
end
end Go.Proofs.YtdplnedpbkpgpaaGreatDoor

namespace Go.Proofs.YtdplnedpbkpgpaaGreatDoor
set_option linter.all false

section
variable (P : Program)
def cmpL (rec : TypeId → Value → Value → Option Bool) (xs ys : Array Value) : List Field → Option Bool
  | [] => some true
  | f :: l => match f.name != "_" with
    | true => match partS P f.type (xs.toList.map .v) f.offset, partS P f.type (ys.toList.map .v) f.offset with
      | some u, some u' => match rec f.type (u.den []) (u'.den []), cmpL rec xs ys l with
        | some a, some b => some (a && b)
        | _, _ => none
      | _, _ => none
    | false => none
/-- What a comparison of two values answers. -/
def cmpB : Nat → TypeId → Value → Value → Option Bool
  | 0, _, _, _ => none
  | m + 1, t, v, v' => match P.underlying t with
    | some .bool => match v, v' with
      | .bool a, .bool b => some (a == b)
      | _, _ => none
    | some (.int _) => match v, v' with
      | .int k a, .int k' b => match decide (k = k') with
        | true => some (a == b)
        | false => none
      | _, _ => none
    | some (.struct fs) => match v, v' with
      | .agg xs, .agg ys => match P.stoodInHeld t with
        | false => cmpL P (cmpB m) xs ys fs.toList
        | true => none
      | _, _ => none
    | _ => none
end
section
variable {P : Program}
theorem cmpB_run : ∀ (m : Nat) (t : TypeId) (v v' : Value) (r : Bool), cmpB P m t v v' = some r → ∀ (d : Nat) (w : World), (Op.equalIn (d + m) t v v').run P w = .ok r w
  | 0, t, v, v', r, h, d, w => by simp [cmpB] at h
  | m + 1, t, v, v', r, h, d, w => by
    rw [show d + (m + 1) = (d + m) + 1 by omega]
    unfold cmpB at h
    split at h
    · rename_i hu
      split at h
      · rename_i a b
        injection h with h
        subst h
        rw [run_equalIn_bool' w (d + m) t a b hu]
      · cases h
    · rename_i k hu
      split at h
      · rename_i k1 a k2 b
        split at h
        · rename_i hk
          have hk : k1 = k2 := by simpa using hk
          subst hk
          injection h with h
          subst h
          rw [run_equalIn_int w (d + m) t k1 k a b hu]
        · cases h
      · cases h
    · rename_i fs hu
      split at h
      · rename_i xs ys
        split at h
        · rename_i hst
          have hf : P.fieldsOf t = fs := by unfold Program.fieldsOf; rw [hu]
          rw [run_equalIn_struct w (d + m) t xs ys (by rw [hf]; exact hu) hst, hf]
          have key : ∀ (l : List Field) (r : Bool), cmpL P (cmpB P m) xs ys l = some r → (Op.eqFields (d + m) xs ys l).run P w = .ok r w := by
            intro l
            induction l with
            | nil => intro r h; simp only [cmpL, Option.some.injEq] at h; subst h; simp [Op.eqFields]
            | cons f l ih =>
              intro r hl
              unfold cmpL at hl
              split at hl
              · rename_i h1
                split at hl
                · rename_i u u' hp hp'
                  split at hl
                  · rename_i a b ha hb
                    injection hl with hl
                    subst hl
                    have hpart : (part f.type xs f.offset).run P w = .ok (u.den []) w := by
                      have := run_part_S (β := []) (w := w) hp
                      rwa [dens_v, Array.toArray_toList] at this
                    have hpart' : (part f.type ys f.offset).run P w = .ok (u'.den []) w := by
                      have := run_part_S (β := []) (w := w) hp'
                      rwa [dens_v, Array.toArray_toList] at this
                    have hne : f.name ≠ "_" := by simpa using h1
                    have hc := cmpB_run m f.type (u.den []) (u'.den []) a ha d w
                    simp only [Op.eqFields, hne, ne_eq, not_false_eq_true, if_true, Sem.run_bind, hpart, hpart', Result.andThen_ok, hc]
                    cases a
                    · simp
                    · simp only [Bool.not_true, Bool.false_eq_true, if_false, Bool.true_and]
                      exact ih b hb
                  · cases hl
                · cases hl
              · cases hl
          exact key fs.toList r h
        · cases h
      · cases h
    · cases h
variable {f : FuncId} {R : Ending → World → Prop} {n : Nat} {w0 : World} {L : List Nat} {β : List Nat} {m : SM}
theorem run_cmp {op : BinOp} {T : TypeId} {xs ys : Array Value} {b r : Bool} (ho : op = .eql ∧ b = r ∨ op = .neq ∧ b = !r) (hm : P.eqGuardType P.depth T = false) (h : cmpB P 100 T (.agg xs) (.agg ys) = some r) (x y : Operand) (w : World) : ((do eqGuard op T x y (.agg xs) (.agg ys); binOp op T (.agg xs) (.agg ys)) : Sem Value).run P w = .ok (.bool b) w := by
  have hr := cmpB_run 100 T (.agg xs) (.agg ys) r h 9900 w
  rcases ho with ⟨rfl, rfl⟩ | ⟨rfl, rfl⟩
  · simp only [Sem.run_bind, run_eqGuard_agg w _ T x y xs ys hm, Result.andThen_ok, run_eql_struct]
    rw [show (10000 : Nat) = 9900 + 100 from rfl, hr]; rfl
  · simp only [Sem.run_bind, run_eqGuard_agg w _ T x y xs ys hm, Result.andThen_ok, run_neq_struct]
    rw [show (10000 : Nat) = 9900 + 100 from rfl, hr]; rfl
/-- Two structs compared. -/
theorem Hs.cmp {op : BinOp} {T : TypeId} (xs ys : Array Value) (r b : Bool) (hc : sameOf n β m = some (op, T, .agg xs, .agg ys)) (ho : op = .eql ∧ b = r ∨ op = .neq ∧ b = !r) (hm : (!P.eqGuardType P.depth T) = true) (hb : cmpB P 100 T (.agg xs) (.agg ys) = some r) (h : Hs P f R n w0 L β (m.put (dstOf m) (.c (.v (.bool b))) m.hp)) : Hs P f R n w0 L β m := by
  simp only [Bool.not_eq_true'] at hm
  refine ⟨fun w H W => ?_⟩
  unfold sameOf at hc
  split at hc
  · rename_i o hcur
    split at hc
    · rename_i hg
      split at hc
      · rename_i op' T' x y z hop
        simp only [Option.some.injEq, Prod.mk.injEq] at hc
        obtain ⟨rfl, rfl, hx, hy⟩ := hc
        have hd : dstOf m = o.dst := by unfold dstOf; rw [hcur]
        rw [hd] at h
        refine Gs.val (v := .c (.v (.bool b))) hcur hg ?_ (h.go w H ?_)
        · have hr := run_cmp (P := P) ho hm hb x y w
          simp only [execOp, hop, hx, hy, Sem.run_bind] at hr ⊢
          simp only [hr, Result.andThen_ok, Sem.run_pure]
          rfl
        · simp only [SM.wf, SM.put, Bool.and_eq_true]
          exact ⟨putS_wf (SM.wf_sl W) rfl, SM.wf_hp W⟩
      · cases hc
    · cases hc
  · cases hc
end
end Go.Proofs.YtdplnedpbkpgpaaGreatDoor

namespace Go.Proofs.YtdplnedpbkpgpaaGreatDoor
set_option linter.all false
set_option maxRecDepth 100000
open Go.RowKit
def sesSC (s : SS) (A : Option Addr) (n cap : Nat) : List SC := [.v (.bool s.pty), .v (.string s.term), .v (.int .u32 s.c0), .v (.int .u32 s.c1), .v (.int .u32 s.c2), .v (.int .u32 s.c3), .v (.int .u8 (s.t.ch 0)), .v (.int .u8 (s.t.ch 1)), .v (.int .u8 (s.t.ch 2)), .v (.int .u8 (s.t.ch 3)), .v (.int .u8 (s.t.ch 4)), .v (.int .u8 (s.t.ch 5)), .v (.int .u8 (s.t.ch 6)), .v (.int .u8 (s.t.ch 7)), .v (.int .u8 (s.t.ch 8)), .v (.int .u8 (s.t.ch 9)), .v (.int .u8 (s.t.ch 10)), .v (.int .u8 (s.t.ch 11)), .v (.int .u8 (s.t.ch 12)), .v (.int .u8 (s.t.ch 13)), .v (.int .u8 (s.t.ch 14)), .v (.int .u8 (s.t.ch 15)), .v (.int .u8 (s.t.ch 16)), .v (.int .u8 (s.t.ch 17)), .v (.int .u8 (s.t.ch 18)), .v (.int .u64 s.t.fl), .v (.int .u32 s.t.inn), .v (.int .u32 s.t.out), .v (.int .i64 s.t.mn), .v (.int .i64 s.t.tm), .v (.slice A n cap), .v (.bool s.st)]
theorem elemRv27 : ElemT Tryz.prog 29 76 2 (Tryz.prog.bytesOf 76) := elemT_of (z := .agg #[.string ⟨#[]⟩, .string ⟨#[]⟩]) (by kernel_rfl) (by kernel_rfl) (by decide) (by decide)
theorem by_rv27 : Tryz.prog.bytesOf 76 = 32 := by kernel_rfl
/-- A session of whatever package, its variables in new memory. -/
def SesPost (E : Nat) (s : SS) (w : World) : Ending → World → Prop := fun e w' => ∃ A' cap', e = .returned (s.val A' cap') ∧ Only [] w w' ∧ OwnX cVar E 2 w' w.heap.size (.slice A' s.env.length cap') s.env
def zS27 : SS := ⟨false, ⟨#[]⟩, 0, 0, 0, 0, zeroT, [], false⟩
theorem to27_any27 (s : SS) (A : Option Addr) (cap : Nat) (w : World) (hr : RdX cVar w A s.env) (hle : s.env.length ≤ 1000000) : Calls Tryz.prog 10 #[s.val A cap] w (SesPost 59 s w) := by
  have J : ∀ (d i : Nat), s.env.length - i = d → i ≤ s.env.length → ∀ (b0 b1 b2 : Nat) (A4 : Option Addr) (c4 : Nat) (u : Nat → Value), Hs Tryz.prog 10 (SesPost 59 s w) (Tryz.f10).ntmps w [] [b0, b1, b2, 0] ⟨.no, loopAt Tryz.f10 0, pins [(2, .c (.p 1 0)), (3, .c (.p 2 0)), (18, .c (.v (.slice A s.env.length cap))), (19, .c (.v (.int .i64 s.env.length))), (20, .c (.v (.int .i64 i)))] (.vals u), [.b true 31 (s.sc A cap), .b true 41 (sesSC zS27 none 0 0), .b true 41 (sesSC s A4 i c4), .s A4 c4 i 59 2 ((s.env.take i).flatMap cVar)]⟩ := by
    intro d
    induction d with
    | zero =>
      intro i hd hi b0 b1 b2 A4 c4 u
      obtain rfl : i = s.env.length := by omega
      refine Hs.run0 300 (fun _ => by kernel_rfl) ?_
      refine Hs.condP ((s.env.length : Int) < (s.env.length : Int)) (by kernel_rfl) (fun h => by omega) (fun _ => ?_)
      refine Hs.run0 300 (fun _ => by kernel_rfl) ?_
      exact Hs.ret (v := s.val A4 c4) Tryz.func10 (by kernel_rfl) fun w' H => ⟨A4, c4, rfl, H.only, H.fresh (l := s.env) (cf := cVar) 3 rfl (by rw [List.take_length]; rfl)⟩
    | succ d ih =>
      intro i hd hi b0 b1 b2 A4 c4 u
      have hil : i < s.env.length := by omega
      obtain ⟨x, hx⟩ : ∃ x, s.env[i]? = some x := ⟨_, List.getElem?_eq_getElem hil⟩
      have hti : (s.env.take i).length = i := by rw [List.length_take]; omega
      obtain ⟨ab, aoff, hA, _, _⟩ := hr (by omega)
      have hih := fun b0 b1 b2 A4 c4 u => ih (i + 1) (by omega) (by omega) b0 b1 b2 A4 c4 u
      clear ih
      rw [hA] at hih hr ⊢
      refine Hs.run0 300 (fun _ => by kernel_rfl) ?_
      refine Hs.condP ((i : Int) < (s.env.length : Int)) (by kernel_rfl) (fun _ => ?_) (fun h => by omega)
      refine Hs.run0 300 (fun _ => by kernel_rfl) ?_
      refine Hs.idx (b := ab) (off := aoff) (len := s.env.length) (c := cap) (i := i) elemRv27 hil (by kernel_rfl) ?_
      refine Hs.ldx (cf := cVar) (size := 2) (E := 76) (b := ab) (off := aoff) (i := i) (l := s.env) (x := x) cVar_len (.g x.sc) (by kernel_rfl) (fun w' H => hr.only H.only) hx (by kernel_rfl) (by kernel_rfl) rfl (by kernel_rfl) ?_
      refine Hs.run2 300 (fun _ => by kernel_rfl) fun b4 b5 => ?_
      refine Hs.app (cf := cVar) (c := 1) (ty := 39) 3 elemVr (s.env.take i) [x] i 1 hti rfl cVar_one cVar_len (A := A4) (B := some ⟨b5, 0, none⟩) (cap := c4) (by kernel_rfl) (by kernel_rfl) (by kernel_rfl) (fun w' H => H.rdB (cf := cVar) (wr := true) (T := 59) (cs := x.sc) (gs := [x]) 5 (by kernel_rfl) rfl) (by unfold maxLen; omega) (by rw [by_vr]; omega) fun A6 c6 h6 => ?_
      refine Hs.run0 300 (fun _ => by kernel_rfl) ?_
      refine Hs.slot 20 (.c (.v (.int .i64 (i + 1 : Nat)))) rfl ((by kernel_rfl : _ = Value.int .i64 (IntKind.i64.wrap ((i : Int) + 1))).trans (wrap_nextJ (Nat.le_trans hle (by unfold maxLen; omega)))) ?_
      refine Hs.loop (by kernel_rfl) ?_
      have e1 : s.env.take i ++ [x] = s.env.take (i + 1) := by rw [List.take_add_one, hx]; rfl
      rw [e1]
      exact Hs.goto (loopAt Tryz.f10 0) [0, 1, 2, 3] [.b true 31 (s.sc (some ⟨ab, aoff, none⟩) cap), .b true 41 (sesSC zS27 none 0 0), .b true 41 (sesSC s A6 (i + 1) c6), .s A6 c6 (i + 1) 59 2 ((s.env.take (i + 1)).flatMap cVar)] [(2, .c (.p 1 0)), (3, .c (.p 2 0)), (18, .c (.v (.slice (some ⟨ab, aoff, none⟩) s.env.length cap))), (19, .c (.v (.int .i64 s.env.length))), (20, .c (.v (.int .i64 (i + 1 : Nat))))] (by kernel_rfl) (by decide) (by kernel_rfl) (by kernel_rfl) (fun _ => (by kernel_rfl)) (fun u => hih b0 b1 b2 A6 c6 u)
  refine Hs.enter Tryz.func10 [] [] [] [.g (s.sc A cap)] (Mem.start0 w) (by kernel_rfl) (by kernel_rfl) ?_
  refine Hs.run3 300 (fun _ => by kernel_rfl) fun b0 b1 b2 => ?_
  refine Hs.nilS 59 2 (by kernel_rfl) ?_ (by kernel_rfl)
  refine Hs.loop (by kernel_rfl) ?_
  exact Hs.goto (loopAt Tryz.f10 0) [0, 1, 2, 3] [.b true 31 (s.sc A cap), .b true 41 (sesSC zS27 none 0 0), .b true 41 (sesSC s none 0 0), .s none 0 0 59 2 ((s.env.take 0).flatMap cVar)] [(2, .c (.p 1 0)), (3, .c (.p 2 0)), (18, .c (.v (.slice A s.env.length cap))), (19, .c (.v (.int .i64 s.env.length))), (20, .c (.v (.int .i64 (0 : Nat))))] (by kernel_rfl) (by decide) (by kernel_rfl) (by kernel_rfl) (fun _ => (by kernel_rfl)) (fun u => J s.env.length 0 (by omega) (by omega) b0 b1 b2 none 0 u)
theorem from27_any27 (s : SS) (A : Option Addr) (cap : Nat) (w : World) (hr : RdX cVar w A s.env) (hle : s.env.length ≤ 1000000) : Calls Tryz.prog 17 #[s.val A cap] w (SesPost 76 s w) := by
  have J : ∀ (d i : Nat), s.env.length - i = d → i ≤ s.env.length → ∀ (b0 b1 b2 : Nat) (A4 : Option Addr) (c4 : Nat) (u : Nat → Value), Hs Tryz.prog 17 (SesPost 76 s w) (Tryz.f17).ntmps w [] [b0, b1, b2, 0] ⟨.no, loopAt Tryz.f17 0, pins [(2, .c (.p 1 0)), (3, .c (.p 2 0)), (18, .c (.v (.slice A s.env.length cap))), (19, .c (.v (.int .i64 s.env.length))), (20, .c (.v (.int .i64 i)))] (.vals u), [.b true 41 (s.sc A cap), .b true 49 (sesSC zS27 none 0 0), .b true 49 (sesSC s A4 i c4), .s A4 c4 i 76 2 ((s.env.take i).flatMap cVar)]⟩ := by
    intro d
    induction d with
    | zero =>
      intro i hd hi b0 b1 b2 A4 c4 u
      obtain rfl : i = s.env.length := by omega
      refine Hs.run0 300 (fun _ => by kernel_rfl) ?_
      refine Hs.condP ((s.env.length : Int) < (s.env.length : Int)) (by kernel_rfl) (fun h => by omega) (fun _ => ?_)
      refine Hs.run0 300 (fun _ => by kernel_rfl) ?_
      exact Hs.ret (v := s.val A4 c4) Tryz.func17 (by kernel_rfl) fun w' H => ⟨A4, c4, rfl, H.only, H.fresh (l := s.env) (cf := cVar) 3 rfl (by rw [List.take_length]; rfl)⟩
    | succ d ih =>
      intro i hd hi b0 b1 b2 A4 c4 u
      have hil : i < s.env.length := by omega
      obtain ⟨x, hx⟩ : ∃ x, s.env[i]? = some x := ⟨_, List.getElem?_eq_getElem hil⟩
      have hti : (s.env.take i).length = i := by rw [List.length_take]; omega
      obtain ⟨ab, aoff, hA, _, _⟩ := hr (by omega)
      have hih := fun b0 b1 b2 A4 c4 u => ih (i + 1) (by omega) (by omega) b0 b1 b2 A4 c4 u
      clear ih
      rw [hA] at hih hr ⊢
      refine Hs.run0 300 (fun _ => by kernel_rfl) ?_
      refine Hs.condP ((i : Int) < (s.env.length : Int)) (by kernel_rfl) (fun _ => ?_) (fun h => by omega)
      refine Hs.run0 300 (fun _ => by kernel_rfl) ?_
      refine Hs.idx (b := ab) (off := aoff) (len := s.env.length) (c := cap) (i := i) elemVr hil (by kernel_rfl) ?_
      refine Hs.ldx (cf := cVar) (size := 2) (E := 59) (b := ab) (off := aoff) (i := i) (l := s.env) (x := x) cVar_len (.g x.sc) (by kernel_rfl) (fun w' H => hr.only H.only) hx (by kernel_rfl) (by kernel_rfl) rfl (by kernel_rfl) ?_
      refine Hs.run2 300 (fun _ => by kernel_rfl) fun b4 b5 => ?_
      refine Hs.app (cf := cVar) (c := 1) (ty := 29) 3 elemRv27 (s.env.take i) [x] i 1 hti rfl cVar_one cVar_len (A := A4) (B := some ⟨b5, 0, none⟩) (cap := c4) (by kernel_rfl) (by kernel_rfl) (by kernel_rfl) (fun w' H => H.rdB (cf := cVar) (wr := true) (T := 76) (cs := x.sc) (gs := [x]) 5 (by kernel_rfl) rfl) (by unfold maxLen; omega) (by rw [by_rv27]; omega) fun A6 c6 h6 => ?_
      refine Hs.run0 300 (fun _ => by kernel_rfl) ?_
      refine Hs.slot 20 (.c (.v (.int .i64 (i + 1 : Nat)))) rfl ((by kernel_rfl : _ = Value.int .i64 (IntKind.i64.wrap ((i : Int) + 1))).trans (wrap_nextJ (Nat.le_trans hle (by unfold maxLen; omega)))) ?_
      refine Hs.loop (by kernel_rfl) ?_
      have e1 : s.env.take i ++ [x] = s.env.take (i + 1) := by rw [List.take_add_one, hx]; rfl
      rw [e1]
      exact Hs.goto (loopAt Tryz.f17 0) [0, 1, 2, 3] [.b true 41 (s.sc (some ⟨ab, aoff, none⟩) cap), .b true 49 (sesSC zS27 none 0 0), .b true 49 (sesSC s A6 (i + 1) c6), .s A6 c6 (i + 1) 76 2 ((s.env.take (i + 1)).flatMap cVar)] [(2, .c (.p 1 0)), (3, .c (.p 2 0)), (18, .c (.v (.slice (some ⟨ab, aoff, none⟩) s.env.length cap))), (19, .c (.v (.int .i64 s.env.length))), (20, .c (.v (.int .i64 (i + 1 : Nat))))] (by kernel_rfl) (by decide) (by kernel_rfl) (by kernel_rfl) (fun _ => (by kernel_rfl)) (fun u => hih b0 b1 b2 A6 c6 u)
  refine Hs.enter Tryz.func17 [] [] [] [.g (s.sc A cap)] (Mem.start0 w) (by kernel_rfl) (by kernel_rfl) ?_
  refine Hs.run3 300 (fun _ => by kernel_rfl) fun b0 b1 b2 => ?_
  refine Hs.nilS 76 2 (by kernel_rfl) ?_ (by kernel_rfl)
  refine Hs.loop (by kernel_rfl) ?_
  exact Hs.goto (loopAt Tryz.f17 0) [0, 1, 2, 3] [.b true 41 (s.sc A cap), .b true 49 (sesSC zS27 none 0 0), .b true 49 (sesSC s none 0 0), .s none 0 0 76 2 ((s.env.take 0).flatMap cVar)] [(2, .c (.p 1 0)), (3, .c (.p 2 0)), (18, .c (.v (.slice A s.env.length cap))), (19, .c (.v (.int .i64 s.env.length))), (20, .c (.v (.int .i64 (0 : Nat))))] (by kernel_rfl) (by decide) (by kernel_rfl) (by kernel_rfl) (fun _ => (by kernel_rfl)) (fun u => J s.env.length 0 (by omega) (by omega) b0 b1 b2 none 0 u)
theorem rsame_any27 (s : SS) (A B : Option Addr) (cap cb : Nat) (w : World) (hr : RdX cVar w A s.env) (hq : RdX cVar w B s.env) (hle : s.env.length ≤ 1000000) : Calls Tryz.prog 16 #[s.val A cap, s.val B cb] w fun e w' => e = .returned (.bool true) ∧ Only [] w w' := by
  have J : ∀ (d i : Nat), s.env.length - i = d → i ≤ s.env.length → ∀ (b0 b1 : Nat) (u : Nat → Value), Hs Tryz.prog 16 (fun e w' => e = .returned (.bool true) ∧ Only [] w w') (Tryz.f16).ntmps w [] [b0, b1] ⟨.no, loopAt Tryz.f16 0, pins [(2, .c (.p 0 0)), (3, .c (.p 1 0)), (50, .c (.v (.int .i64 s.env.length))), (51, .c (.v (.int .i64 i)))] (.vals u), [.b true 49 (s.sc A cap), .b true 49 (s.sc B cb)]⟩ := by
    intro d
    induction d with
    | zero =>
      intro i hd hi b0 b1 u
      obtain rfl : i = s.env.length := by omega
      refine Hs.run0 300 (fun _ => by kernel_rfl) ?_
      refine Hs.condP ((s.env.length : Int) < (s.env.length : Int)) (by kernel_rfl) (fun h => by omega) (fun _ => ?_)
      refine Hs.run0 300 (fun _ => by kernel_rfl) ?_
      exact Hs.ret (v := .bool true) Tryz.func16 (by kernel_rfl) fun w' H => ⟨rfl, H.only⟩
    | succ d ih =>
      intro i hd hi b0 b1 u
      have hil : i < s.env.length := by omega
      obtain ⟨x, hx⟩ : ∃ x, s.env[i]? = some x := ⟨_, List.getElem?_eq_getElem hil⟩
      obtain ⟨ab, aoff, hA, _, _⟩ := hr (by omega)
      obtain ⟨bb, boff, hB, _, _⟩ := hq (by omega)
      have hih := fun b0 b1 u => ih (i + 1) (by omega) (by omega) b0 b1 u
      clear ih
      rw [hA, hB] at hih
      rw [hA] at hr ⊢
      rw [hB] at hq ⊢
      refine Hs.run0 300 (fun _ => by kernel_rfl) ?_
      refine Hs.condP ((i : Int) < (s.env.length : Int)) (by kernel_rfl) (fun _ => ?_) (fun h => by omega)
      refine Hs.run0 300 (fun _ => by kernel_rfl) ?_
      refine Hs.any [0, 1] (by kernel_rfl) ?_
      refine Hs.run0 300 (fun _ => by kernel_rfl) ?_
      refine Hs.takeIdx (rd := [0, 1]) 3 elemRv27 (b := ab) (off := aoff) (c := cap) (len := s.env.length) (i := i) hil (by kernel_rfl) ?_
      refine Hs.takeIdx (rd := [0, 1]) 8 elemRv27 (b := bb) (off := boff) (c := cb) (len := s.env.length) (i := i) hil (by kernel_rfl) ?_
      refine Hs.branch2 4 9 (by kernel_rfl) ?_ ?_
      · refine Hs.ldx (cf := cVar) (size := 2) (E := 76) (b := ab) (off := aoff) (i := i) (l := s.env) (x := x) cVar_len (.g x.sc) (by kernel_rfl) (fun w' H => hr.only H.only) hx (by kernel_rfl) (by kernel_rfl) rfl (by kernel_rfl) ?_
        refine Hs.run0 300 (fun _ => by kernel_rfl) ?_
        refine Hs.ldx (cf := cVar) (size := 2) (E := 76) (b := bb) (off := boff) (i := i) (l := s.env) (x := x) cVar_len (.g x.sc) (by kernel_rfl) (fun w' H => hq.only H.only) hx (by kernel_rfl) (by kernel_rfl) rfl (by kernel_rfl) ?_
        refine Hs.sel1 10 (by kernel_rfl) ?_
        refine Hs.same (op := .neq) (T := 76) #[.string x.n, .string x.v] false (by kernel_rfl) (.inr ⟨rfl, rfl⟩) (by kernel_rfl) ?_
        refine Hs.run0 300 (fun _ => by kernel_rfl) ?_
        refine Hs.condF (by kernel_rfl) ?_
        refine Hs.run0 300 (fun _ => by kernel_rfl) ?_
        refine Hs.slot 51 (.c (.v (.int .i64 (i + 1 : Nat)))) rfl ((by kernel_rfl : _ = Value.int .i64 (IntKind.i64.wrap ((i : Int) + 1))).trans (wrap_nextJ (Nat.le_trans hle (by unfold maxLen; omega)))) ?_
        refine Hs.loop (by kernel_rfl) ?_
        exact Hs.goto (loopAt Tryz.f16 0) [0, 1] [.b true 49 (s.sc (some ⟨ab, aoff, none⟩) cap), .b true 49 (s.sc (some ⟨bb, boff, none⟩) cb)] [(2, .c (.p 0 0)), (3, .c (.p 1 0)), (50, .c (.v (.int .i64 s.env.length))), (51, .c (.v (.int .i64 (i + 1 : Nat))))] (by kernel_rfl) (by decide) (by kernel_rfl) (by kernel_rfl) (fun _ => (by kernel_rfl)) (fun u => hih b0 b1 u)
      · refine Hs.ldx (cf := cVar) (size := 2) (E := 76) (b := bb) (off := boff) (i := i) (l := s.env) (x := x) cVar_len (.g x.sc) (by kernel_rfl) (fun w' H => hq.only H.only) hx (by kernel_rfl) (by kernel_rfl) rfl (by kernel_rfl) ?_
        refine Hs.run0 300 (fun _ => by kernel_rfl) ?_
        refine Hs.ldx (cf := cVar) (size := 2) (E := 76) (b := ab) (off := aoff) (i := i) (l := s.env) (x := x) cVar_len (.g x.sc) (by kernel_rfl) (fun w' H => hr.only H.only) hx (by kernel_rfl) (by kernel_rfl) rfl (by kernel_rfl) ?_
        refine Hs.sel1 10 (by kernel_rfl) ?_
        refine Hs.same (op := .neq) (T := 76) #[.string x.n, .string x.v] false (by kernel_rfl) (.inr ⟨rfl, rfl⟩) (by kernel_rfl) ?_
        refine Hs.run0 300 (fun _ => by kernel_rfl) ?_
        refine Hs.condF (by kernel_rfl) ?_
        refine Hs.run0 300 (fun _ => by kernel_rfl) ?_
        refine Hs.slot 51 (.c (.v (.int .i64 (i + 1 : Nat)))) rfl ((by kernel_rfl : _ = Value.int .i64 (IntKind.i64.wrap ((i : Int) + 1))).trans (wrap_nextJ (Nat.le_trans hle (by unfold maxLen; omega)))) ?_
        refine Hs.loop (by kernel_rfl) ?_
        exact Hs.goto (loopAt Tryz.f16 0) [0, 1] [.b true 49 (s.sc (some ⟨ab, aoff, none⟩) cap), .b true 49 (s.sc (some ⟨bb, boff, none⟩) cb)] [(2, .c (.p 0 0)), (3, .c (.p 1 0)), (50, .c (.v (.int .i64 s.env.length))), (51, .c (.v (.int .i64 (i + 1 : Nat))))] (by kernel_rfl) (by decide) (by kernel_rfl) (by kernel_rfl) (fun _ => (by kernel_rfl)) (fun u => hih b0 b1 u)
  refine Hs.enter Tryz.func16 [] [] [] [.g (s.sc A cap), .g (s.sc B cb)] (Mem.start0 w) (by kernel_rfl) (by kernel_rfl) ?_
  refine Hs.run2 300 (fun _ => by kernel_rfl) fun b0 b1 => ?_
  refine Hs.bool 11 (s.pty != s.pty) (by kernel_rfl) (fun h => by simp at h) (fun _ => ?_)
  refine Hs.rung0 [5] 300 (fun _ => by kernel_rfl) ?_
  refine Hs.bool 18 (!(s.term.toList == s.term.toList)) (by kernel_rfl) (fun h => by simp at h) (fun _ => ?_)
  refine Hs.rung0 [5, 12] 9 (fun _ => by kernel_rfl) ?_
  refine Hs.same (op := .neq) (T := 24) #[.int .u32 s.c0, .int .u32 s.c1, .int .u32 s.c2, .int .u32 s.c3] false (by kernel_rfl) (.inr ⟨rfl, rfl⟩) (by kernel_rfl) ?_
  refine Hs.rung0 [12, 19] 11 (fun _ => by kernel_rfl) ?_
  refine Hs.sameA (op := .neq) (T := 28) (TM.cells s.t).toArray false (by kernel_rfl) (.inr ⟨rfl, rfl⟩) (by kernel_rfl) ?_
  refine Hs.rung0 [19, 26] 300 (fun _ => by kernel_rfl) ?_
  refine Hs.bool 39 (s.st != s.st) (by kernel_rfl) (fun h => by simp at h) (fun _ => ?_)
  refine Hs.rung0 [26, 33] 300 (fun _ => by kernel_rfl) ?_
  refine Hs.cond ((s.env.length : Int) != (s.env.length : Int)) (by kernel_rfl) (fun h => by simp at h) (fun _ => ?_)
  refine Hs.run0 300 (fun _ => by kernel_rfl) ?_
  refine Hs.loop (by kernel_rfl) ?_
  exact Hs.goto (loopAt Tryz.f16 0) [0, 1] [.b true 49 (s.sc A cap), .b true 49 (s.sc B cb)] [(2, .c (.p 0 0)), (3, .c (.p 1 0)), (50, .c (.v (.int .i64 s.env.length))), (51, .c (.v (.int .i64 (0 : Nat))))] (by kernel_rfl) (by decide) (by kernel_rfl) (by kernel_rfl) (fun _ => (by kernel_rfl)) (fun u => J s.env.length 0 (by omega) (by omega) b0 b1 u)
end Go.Proofs.YtdplnedpbkpgpaaGreatDoor

namespace Go.Proofs.YtdplnedpbkpgpaaGreatDoor
set_option linter.all false
set_option maxRecDepth 100000
open Go.RowKit
/-- An operation, a program as it lies in memory. -/
structure OP9 where
  k : Int
  a : Int
  b : Int
  t : ByteArray
def cOP (x : OP9) : List Value := [.int .i64 x.k, .int .i64 x.a, .int .i64 x.b, .string x.t]
def OP9.sc (x : OP9) : List SC := [.v (.int .i64 x.k), .v (.int .i64 x.a), .v (.int .i64 x.b), .v (.string x.t)]
structure PG where
  n : ByteArray
  A : Option Addr
  c : Nat
  ops : List OP9
def cPG (x : PG) : List Value := [.string x.n, .slice x.A x.ops.length x.c]
def PG.sc (x : PG) : List SC := [.v (.string x.n), .v (.slice x.A x.ops.length x.c)]
def PG.m (x : PG) : ByteArray × List OP9 := (x.n, x.ops)
def PG.pr (x : PG) : PR := ⟨x.n, x.A, x.c, x.ops.length⟩
theorem cPG_pr (x : PG) : cPr x.pr = cPG x := rfl
theorem flat_pr (l : List PG) : (l.map PG.pr).flatMap cPr = l.flatMap cPG := by
  induction l with
  | nil => rfl
  | cons x l ih => rw [List.map_cons, List.flatMap_cons, List.flatMap_cons, ih, cPG_pr]
theorem rdX_pr {w : World} {A : Option Addr} {l : List PG} (h : RdX cPG w A l) : RdX cPr w A (l.map PG.pr) := fun h0 => by
  obtain ⟨b, off, e, h1, h2⟩ := h (by rw [List.length_map] at h0; exact h0)
  exact ⟨b, off, e, h1, by rw [flat_pr]; exact h2⟩
theorem cOP_len (x : OP9) : (cOP x).length = 4 := rfl
theorem cPG_len (x : PG) : (cPG x).length = 2 := rfl
theorem cOP_one (x : OP9) : ∀ u ∈ cOP x, u.oneCell' = true := by
  intro u hu
  simp only [cOP, List.mem_cons, List.not_mem_nil, or_false] at hu
  rcases hu with rfl | rfl | rfl | rfl <;> rfl
theorem cPG_one (x : PG) : ∀ u ∈ cPG x, u.oneCell' = true := by
  intro u hu
  simp only [cPG, List.mem_cons, List.not_mem_nil, or_false] at hu
  rcases hu with rfl | rfl <;> rfl
def PgOk (w : World) (x : PG) : Prop := RdX cOP w x.A x.ops ∧ x.ops.length ≤ x.c ∧ x.c ≤ maxLen
theorem PgOk.only {w w' : World} {x : PG} (h : PgOk w x) (O : Only [] w w') : PgOk w' x := ⟨h.1.only O, h.2⟩
/-- Programs in memory. -/
structure Pgs (w : World) (A : Option Addr) (c : Nat) (l : List PG) : Prop where
  rd : RdX cPG w A l
  le : l.length ≤ c
  max : c ≤ maxLen
  all : ∀ x ∈ l, PgOk w x
theorem Pgs.only {w w' : World} {A : Option Addr} {c : Nat} {l : List PG} (h : Pgs w A c l) (O : Only [] w w') : Pgs w' A c l := ⟨h.rd.only O, h.le, h.max, fun x hx => (h.all x hx).only O⟩
structure PgFew (l : List PG) : Prop where
  len : l.length ≤ 3518437208875
  ops : ∀ x ∈ l, x.ops.length ≤ 3518437208875
abbrev PX := Option Addr × Nat × List PG
def PgsP (ps : List PG) (z : PX) (w : World) : Prop := Pgs w z.1 z.2.1 z.2.2 ∧ z.2.2.map PG.m = ps.map PG.m
theorem PgsP.len {ps : List PG} {z : PX} {w : World} (h : PgsP ps z w) : z.2.2.length = ps.length := by simpa using congrArg List.length h.2
/-- Programs in new memory. -/
abbrev PgPost (ps : List PG) (w : World) : Ending → World → Prop := NewX w (fun z : PX => .slice z.1 ps.length z.2.1) (PgsP ps)
theorem Nx.pgs {ps : List PG} {w w1 w' : World} {L1 β : List Nat} {hp : List HB} {D1 : World → Prop} {A : Option Addr} {c : Nat} {outs : List PG} (C : Nx w w1 L1 D1) (H : Mem w1 L1 β hp w') (q : ∀ w, D1 w → PgsP ps (A, c, outs) w) : PgPost ps w (.returned (.slice A ps.length c)) w' :=
  ⟨(A, c, outs), rfl, C.only H, fun L hL => (C.fin H L fun x hx => .inl (hL x hx)).imp fun w h => q w h⟩
theorem elemLp : ElemT Tryz.prog 35 94 2 (Tryz.prog.bytesOf 94) := elemT_of (z := .agg #[.string ⟨#[]⟩, .slice none 0 0]) (by kernel_rfl) (by kernel_rfl) (by decide) (by decide)
theorem elemLp_by : Tryz.prog.bytesOf 94 = 40 := by kernel_rfl
theorem elemRo : ElemT Tryz.prog 92 96 4 (Tryz.prog.bytesOf 96) := elemT_of (z := .agg #[.int .i64 0, .int .i64 0, .int .i64 0, .string ⟨#[]⟩]) (by kernel_rfl) (by kernel_rfl) (by decide) (by decide)
theorem elemRo_by : Tryz.prog.bytesOf 96 = 40 := by kernel_rfl
theorem elemPo : ElemT Tryz.prog 79 97 4 (Tryz.prog.bytesOf 97) := elemT_of (z := .agg #[.int .i64 0, .int .i64 0, .int .i64 0, .string ⟨#[]⟩]) (by kernel_rfl) (by kernel_rfl) (by decide) (by decide)
theorem elemPo_by : Tryz.prog.bytesOf 97 = 40 := by kernel_rfl
theorem elemRp : ElemT Tryz.prog 54 106 2 (Tryz.prog.bytesOf 106) := elemT_of (z := .agg #[.string ⟨#[]⟩, .slice none 0 0]) (by kernel_rfl) (by kernel_rfl) (by decide) (by decide)
theorem elemRp_by : Tryz.prog.bytesOf 106 = 40 := by kernel_rfl
theorem elemPr_by : Tryz.prog.bytesOf 81 = 40 := by kernel_rfl
set_option maxHeartbeats 4000000 in
theorem to19_any (ps : List PG) (A : Option Addr) (c : Nat) (w : World) (h : Pgs w A c ps) (hf : PgFew ps) : Calls Tryz.prog 12 #[.slice A ps.length c] w (PgPost ps w) := by
  have hlen : ps.length ≤ maxLen := Nat.le_trans h.le h.max
  have hps := hf.len
  have J : ∀ (d i : Nat), ps.length - i = d → i ≤ ps.length → ∀ (outs : List PG) (A4 : Option Addr) (c4 : Nat) (w1 : World) (L1 : List Nat), Nx w w1 L1 (fun w => ∀ z ∈ outs, PgOk w z) → outs.map PG.m = (ps.take i).map PG.m → outs.length = i → ∀ (u : Nat → Value), Hs Tryz.prog 12 (PgPost ps w) (Tryz.f12).ntmps w1 L1 [0] ⟨.no, loopAt Tryz.f12 0, pins [(3, .c (.v (.slice A4 i c4))), (9, .c (.v (.slice A ps.length c))), (10, .c (.v (.int .i64 ps.length))), (11, .c (.v (.int .i64 i)))] (.vals u), [.s A4 c4 i 81 2 (outs.flatMap cPG)]⟩ := by
    intro d
    induction d with
    | zero =>
      intro i hd hi outs A4 c4 w1 L1 N ho hol u
      obtain rfl : i = ps.length := by omega
      rw [List.take_length] at ho
      refine Hs.run0 300 (fun _ => by kernel_rfl) ?_
      refine Hs.condP ((ps.length : Int) < (ps.length : Int)) (by kernel_rfl) (fun h => by omega) (fun _ => ?_)
      refine Hs.runR0 13 [] 300 (fun _ => by kernel_rfl) ?_
      refine Hs.freezeN 0 (cf := cPG) (size := 2) (A := A4) (cap := c4) (nl := ps.length) (E := 81) N hol (by kernel_rfl) (by kernel_rfl) fun w3 L3 N3 => ?_
      refine Hs.run0 300 (fun _ => by kernel_rfl) ?_
      exact Hs.ret (v := .slice A4 ps.length c4) Tryz.func12 (by kernel_rfl) fun w' H => N3.pgs (outs := outs) H fun w h => ⟨⟨h.1.1, h.1.2.1, h.1.2.2, h.2⟩, ho⟩
    | succ d ih =>
      intro i hd hi outs A4 c4 w1 L1 N ho hol u
      have hil : i < ps.length := by omega
      obtain ⟨x, hx⟩ : ∃ x, ps[i]? = some x := ⟨_, List.getElem?_eq_getElem hil⟩
      have hxm : x ∈ ps := List.mem_of_getElem? hx
      have hxo := h.all x hxm
      have hxl := hf.ops x hxm
      obtain ⟨ab, aoff, hA, _, _⟩ := h.rd (by omega)
      have hih := fun outs A4 c4 w1 L1 N e1 e2 u => ih (i + 1) (by omega) (by omega) outs A4 c4 w1 L1 N e1 e2 u
      clear ih
      have hrd := h.rd
      rw [hA] at hih hrd ⊢
      have K : ∀ (e j : Nat), x.ops.length - j = e → j ≤ x.ops.length → ∀ (g0 g : Nat) (A5 : Option Addr) (c5 : Nat) (u : Nat → Value), Hs Tryz.prog 12 (PgPost ps w) (Tryz.f12).ntmps w1 L1 [0, g, 0] ⟨.no, loopAt Tryz.f12 1, pins [(3, .c (.v (.slice A4 i c4))), (6, .c (.p 1 0)), (9, .c (.v (.slice (some ⟨ab, aoff, none⟩) ps.length c))), (10, .c (.v (.int .i64 ps.length))), (11, .c (.v (.int .i64 i))), (19, .c (.v (.slice x.A x.ops.length x.c))), (20, .c (.v (.int .i64 x.ops.length))), (21, .c (.v (.int .i64 j)))] (.vals u), [.s A4 c4 i 81 2 (outs.flatMap cPG), .b true 81 [.v (.string x.n), .v (.slice A5 j c5)], .s A5 c5 j 97 4 ((x.ops.take j).flatMap cOP)]⟩ := by
        intro e
        induction e with
        | zero =>
          intro j he hj g0 g A5 c5 u
          obtain rfl : j = x.ops.length := by omega
          rw [List.take_length]
          refine Hs.run0 300 (fun _ => by kernel_rfl) ?_
          refine Hs.condP ((x.ops.length : Int) < (x.ops.length : Int)) (by kernel_rfl) (fun h => by omega) (fun _ => ?_)
          refine Hs.run1 300 (fun _ => by kernel_rfl) fun b3 => ?_
          refine Hs.app (cf := cPG) (c := 1) (ty := 47) 0 elemPr outs [(⟨x.n, A5, c5, x.ops⟩ : PG)] i 1 hol rfl cPG_one cPG_len (A := A4) (B := some ⟨b3, 0, none⟩) (cap := c4) (by kernel_rfl) (by kernel_rfl) (by kernel_rfl) (fun w' H => H.rdB (cf := cPG) (wr := true) (T := 81) (cs := PG.sc ⟨x.n, A5, c5, x.ops⟩) (gs := [(⟨x.n, A5, c5, x.ops⟩ : PG)]) 3 (by kernel_rfl) rfl) (by unfold maxLen; omega) (by rw [elemPr_by]; omega) fun A6 c6 h6 => ?_
          refine Hs.run0 300 (fun _ => by kernel_rfl) ?_
          refine Hs.freezeN 2 (cf := cOP) (size := 4) (A := A5) (cap := c5) (nl := x.ops.length) (E := 97) N rfl (by kernel_rfl) (by kernel_rfl) fun w3 L3 N3 => ?_
          refine Hs.slot 11 (.c (.v (.int .i64 (i + 1 : Nat)))) rfl ((by kernel_rfl : _ = Value.int .i64 (IntKind.i64.wrap ((i : Int) + 1))).trans (wrap_nextJ hlen)) ?_
          refine Hs.loop (by kernel_rfl) ?_
          exact Hs.goto (loopAt Tryz.f12 0) [0] [.s A6 c6 (i + 1) 81 2 ((outs ++ [(⟨x.n, A5, c5, x.ops⟩ : PG)]).flatMap cPG)] [(3, .c (.v (.slice A6 (i + 1) c6))), (9, .c (.v (.slice (some ⟨ab, aoff, none⟩) ps.length c))), (10, .c (.v (.int .i64 ps.length))), (11, .c (.v (.int .i64 (i + 1 : Nat))))] (by kernel_rfl) (by decide) (by kernel_rfl) (by kernel_rfl) (fun _ => (by kernel_rfl)) (fun u => hih (outs ++ [(⟨x.n, A5, c5, x.ops⟩ : PG)]) A6 c6 w3 L3 (N3.imp fun w h => fun y hy => by
            rcases List.mem_append.1 hy with h1 | h1
            · exact h.2 y h1
            · rw [List.mem_singleton.1 h1]; exact h.1) (by rw [List.map_append, ho, List.take_add_one, hx, List.map_append]; rfl) (by rw [List.length_append, hol]; rfl) u)
        | succ e ihk =>
          intro j he hj g0 g A5 c5 u
          have hjl : j < x.ops.length := by omega
          obtain ⟨y, hy⟩ : ∃ y, x.ops[j]? = some y := ⟨_, List.getElem?_eq_getElem hjl⟩
          have htj : (x.ops.take j).length = j := by rw [List.length_take]; omega
          obtain ⟨ob, ooff, hO, _, _⟩ := hxo.1 (by omega)
          have hihk := fun g0 g A5 c5 u => ihk (j + 1) (by omega) (by omega) g0 g A5 c5 u
          clear ihk
          have hor := hxo.1
          rw [hO] at hihk hor ⊢
          refine Hs.run0 300 (fun _ => by kernel_rfl) ?_
          refine Hs.condP ((j : Int) < (x.ops.length : Int)) (by kernel_rfl) (fun _ => ?_) (fun h => by omega)
          refine Hs.run0 300 (fun _ => by kernel_rfl) ?_
          refine Hs.idx (b := ob) (off := ooff) (len := x.ops.length) (c := x.c) (i := j) elemRo hjl (by kernel_rfl) ?_
          refine Hs.ldx (cf := cOP) (size := 4) (E := 96) (b := ob) (off := ooff) (i := j) (l := x.ops) (x := y) cOP_len (.g y.sc) (by kernel_rfl) (fun w' H => hor.only (N.only H)) hy (by kernel_rfl) (by kernel_rfl) rfl (by kernel_rfl) ?_
          refine Hs.run2 300 (fun _ => by kernel_rfl) fun b4 b5 => ?_
          refine Hs.app (cf := cOP) (c := 1) (ty := 79) 2 elemPo (x.ops.take j) [y] j 1 htj rfl cOP_one cOP_len (A := A5) (B := some ⟨b5, 0, none⟩) (cap := c5) (by kernel_rfl) (by kernel_rfl) (by kernel_rfl) (fun w' H => H.rdB (cf := cOP) (wr := true) (T := 97) (cs := y.sc) (gs := [y]) 4 (by kernel_rfl) rfl) (by unfold maxLen; omega) (by rw [elemPo_by]; omega) fun A6 c6 h6 => ?_
          refine Hs.run0 300 (fun _ => by kernel_rfl) ?_
          refine Hs.slot 21 (.c (.v (.int .i64 (j + 1 : Nat)))) rfl ((by kernel_rfl : _ = Value.int .i64 (IntKind.i64.wrap ((j : Int) + 1))).trans (wrap_nextJ (Nat.le_trans hxo.2.1 hxo.2.2))) ?_
          refine Hs.loop (by kernel_rfl) ?_
          have e1 : x.ops.take j ++ [y] = x.ops.take (j + 1) := by rw [List.take_add_one, hy]; rfl
          rw [e1]
          exact Hs.goto (loopAt Tryz.f12 1) [0, 1, 2] [.s A4 c4 i 81 2 (outs.flatMap cPG), .b true 81 [.v (.string x.n), .v (.slice A6 (j + 1) c6)], .s A6 c6 (j + 1) 97 4 ((x.ops.take (j + 1)).flatMap cOP)] [(3, .c (.v (.slice A4 i c4))), (6, .c (.p 1 0)), (9, .c (.v (.slice (some ⟨ab, aoff, none⟩) ps.length c))), (10, .c (.v (.int .i64 ps.length))), (11, .c (.v (.int .i64 i))), (19, .c (.v (.slice (some ⟨ob, ooff, none⟩) x.ops.length x.c))), (20, .c (.v (.int .i64 x.ops.length))), (21, .c (.v (.int .i64 (j + 1 : Nat))))] (by kernel_rfl) (by decide) (by kernel_rfl) (by kernel_rfl) (fun _ => (by kernel_rfl)) (fun u => hihk g0 g A6 c6 u)
      refine Hs.run0 300 (fun _ => by kernel_rfl) ?_
      refine Hs.condP ((i : Int) < (ps.length : Int)) (by kernel_rfl) (fun _ => ?_) (fun h => by omega)
      refine Hs.run0 300 (fun _ => by kernel_rfl) ?_
      refine Hs.idx (b := ab) (off := aoff) (len := ps.length) (c := c) (i := i) elemLp hil (by kernel_rfl) ?_
      refine Hs.ldx (cf := cPG) (size := 2) (E := 94) (b := ab) (off := aoff) (i := i) (l := ps) (x := x) cPG_len (.g x.sc) (by kernel_rfl) (fun w' H => hrd.only (N.only H)) hx (by kernel_rfl) (by kernel_rfl) rfl (by kernel_rfl) ?_
      refine Hs.run2 300 (fun _ => by kernel_rfl) fun b1 b2 => ?_
      refine Hs.nilS 97 4 (by kernel_rfl) ?_ (by kernel_rfl)
      refine Hs.loop (by kernel_rfl) ?_
      exact Hs.goto (loopAt Tryz.f12 1) [0, 2, 3] [.s A4 c4 i 81 2 (outs.flatMap cPG), .b true 81 [.v (.string x.n), .v (.slice none 0 0)], .s none 0 0 97 4 ((x.ops.take 0).flatMap cOP)] [(3, .c (.v (.slice A4 i c4))), (6, .c (.p 1 0)), (9, .c (.v (.slice (some ⟨ab, aoff, none⟩) ps.length c))), (10, .c (.v (.int .i64 ps.length))), (11, .c (.v (.int .i64 i))), (19, .c (.v (.slice x.A x.ops.length x.c))), (20, .c (.v (.int .i64 x.ops.length))), (21, .c (.v (.int .i64 (0 : Nat))))] (by kernel_rfl) (by decide) (by kernel_rfl) (by kernel_rfl) (fun _ => (by kernel_rfl)) (fun u => K x.ops.length 0 (by omega) (by omega) 0 b2 none 0 u)
  refine Hs.enter Tryz.func12 [] [] [] [.c (.v (.slice A ps.length c))] (Mem.start0 w) (by kernel_rfl) (by kernel_rfl) ?_
  refine Hs.run0 300 (fun _ => by kernel_rfl) ?_
  refine Hs.nilS 81 2 (by kernel_rfl) ?_ (by kernel_rfl)
  refine Hs.loop (by kernel_rfl) ?_
  exact Hs.goto (loopAt Tryz.f12 0) [0] [.s none 0 0 81 2 (([] : List PG).flatMap cPG)] [(3, .c (.v (.slice none 0 0))), (9, .c (.v (.slice A ps.length c))), (10, .c (.v (.int .i64 ps.length))), (11, .c (.v (.int .i64 (0 : Nat))))] (by kernel_rfl) (by decide) (by kernel_rfl) (by kernel_rfl) (fun _ => (by kernel_rfl)) (fun u => J ps.length 0 (by omega) (by omega) [] none 0 w [] ((Nx.start w).imp fun w h => fun y hy => by cases hy) rfl rfl u)
set_option maxHeartbeats 4000000 in
theorem ref19_any (ps : List PG) (A : Option Addr) (c : Nat) (w : World) (h : Pgs w A c ps) (hf : PgFew ps) : Calls Tryz.prog 15 #[.slice A ps.length c] w (PgPost ps w) := by
  have hlen : ps.length ≤ maxLen := Nat.le_trans h.le h.max
  have hps := hf.len
  have J : ∀ (d i : Nat), ps.length - i = d → i ≤ ps.length → ∀ (outs : List PG) (A4 : Option Addr) (c4 : Nat) (w1 : World) (L1 : List Nat), Nx w w1 L1 (fun w => ∀ z ∈ outs, PgOk w z) → outs.map PG.m = (ps.take i).map PG.m → outs.length = i → ∀ (u : Nat → Value), Hs Tryz.prog 15 (PgPost ps w) (Tryz.f15).ntmps w1 L1 [0] ⟨.no, loopAt Tryz.f15 0, pins [(3, .c (.v (.slice A4 i c4))), (6, .c (.v (.slice A ps.length c))), (7, .c (.v (.int .i64 ps.length))), (8, .c (.v (.int .i64 i)))] (.vals u), [.s A4 c4 i 106 2 (outs.flatMap cPG)]⟩ := by
    intro d
    induction d with
    | zero =>
      intro i hd hi outs A4 c4 w1 L1 N ho hol u
      obtain rfl : i = ps.length := by omega
      rw [List.take_length] at ho
      refine Hs.run0 300 (fun _ => by kernel_rfl) ?_
      refine Hs.condP ((ps.length : Int) < (ps.length : Int)) (by kernel_rfl) (fun h => by omega) (fun _ => ?_)
      refine Hs.runR0 7 [] 300 (fun _ => by kernel_rfl) ?_
      refine Hs.freezeN 0 (cf := cPG) (size := 2) (A := A4) (cap := c4) (nl := ps.length) (E := 106) N hol (by kernel_rfl) (by kernel_rfl) fun w3 L3 N3 => ?_
      refine Hs.run0 300 (fun _ => by kernel_rfl) ?_
      exact Hs.ret (v := .slice A4 ps.length c4) Tryz.func15 (by kernel_rfl) fun w' H => N3.pgs (outs := outs) H fun w h => ⟨⟨h.1.1, h.1.2.1, h.1.2.2, h.2⟩, ho⟩
    | succ d ih =>
      intro i hd hi outs A4 c4 w1 L1 N ho hol u
      have hil : i < ps.length := by omega
      obtain ⟨x, hx⟩ : ∃ x, ps[i]? = some x := ⟨_, List.getElem?_eq_getElem hil⟩
      have hxm : x ∈ ps := List.mem_of_getElem? hx
      have hxo := h.all x hxm
      have hxl := hf.ops x hxm
      obtain ⟨ab, aoff, hA, _, _⟩ := h.rd (by omega)
      have hih := fun outs A4 c4 w1 L1 N e1 e2 u => ih (i + 1) (by omega) (by omega) outs A4 c4 w1 L1 N e1 e2 u
      clear ih
      have hrd := h.rd
      rw [hA] at hih hrd ⊢
      refine Hs.run0 300 (fun _ => by kernel_rfl) ?_
      refine Hs.condP ((i : Int) < (ps.length : Int)) (by kernel_rfl) (fun _ => ?_) (fun h => by omega)
      refine Hs.run0 300 (fun _ => by kernel_rfl) ?_
      refine Hs.idx (b := ab) (off := aoff) (len := ps.length) (c := c) (i := i) elemLp hil (by kernel_rfl) ?_
      refine Hs.ldx (cf := cPG) (size := 2) (E := 94) (b := ab) (off := aoff) (i := i) (l := ps) (x := x) cPG_len (.g x.sc) (by kernel_rfl) (fun w' H => hrd.only (N.only H)) hx (by kernel_rfl) (by kernel_rfl) rfl (by kernel_rfl) ?_
      refine Hs.run1 300 (fun _ => by kernel_rfl) fun b1 => ?_
      refine Hs.any [1] (by kernel_rfl) ?_
      refine Hs.run1 300 (fun _ => by kernel_rfl) fun b2 => ?_
      refine Hs.litX (cf := cOP) (ty := 92) (c := x.c) 2 elemRo x.ops x.ops.length rfl cOP_one cOP_len (by kernel_rfl) (by kernel_rfl) (by kernel_rfl) (fun w' H => hxo.1.only (N.only H)) (Nat.le_trans hxo.2.1 hxo.2.2) (by rw [elemRo_by]; omega) fun A5 c5 h5 h5' => ?_
      refine Hs.run1 300 (fun _ => by kernel_rfl) fun b3 => ?_
      refine Hs.app (cf := cPG) (c := 1) (ty := 54) 0 elemRp outs [(⟨x.n, A5, c5, x.ops⟩ : PG)] i 1 hol rfl cPG_one cPG_len (A := A4) (B := some ⟨b3, 0, none⟩) (cap := c4) (by kernel_rfl) (by kernel_rfl) (by kernel_rfl) (fun w' H => H.rdB (cf := cPG) (wr := true) (T := 106) (cs := PG.sc ⟨x.n, A5, c5, x.ops⟩) (gs := [(⟨x.n, A5, c5, x.ops⟩ : PG)]) 3 (by kernel_rfl) rfl) (by unfold maxLen; omega) (by rw [elemRp_by]; omega) fun A6 c6 h6 => ?_
      refine Hs.run0 300 (fun _ => by kernel_rfl) ?_
      refine Hs.freezeN 2 (cf := cOP) (size := 4) (A := A5) (cap := c5) (nl := x.ops.length) (E := 96) N rfl (by kernel_rfl) (by kernel_rfl) fun w3 L3 N3 => ?_
      refine Hs.slot 8 (.c (.v (.int .i64 (i + 1 : Nat)))) rfl ((by kernel_rfl : _ = Value.int .i64 (IntKind.i64.wrap ((i : Int) + 1))).trans (wrap_nextJ hlen)) ?_
      refine Hs.loop (by kernel_rfl) ?_
      exact Hs.goto (loopAt Tryz.f15 0) [0] [.s A6 c6 (i + 1) 106 2 ((outs ++ [(⟨x.n, A5, c5, x.ops⟩ : PG)]).flatMap cPG)] [(3, .c (.v (.slice A6 (i + 1) c6))), (6, .c (.v (.slice (some ⟨ab, aoff, none⟩) ps.length c))), (7, .c (.v (.int .i64 ps.length))), (8, .c (.v (.int .i64 (i + 1 : Nat))))] (by kernel_rfl) (by decide) (by kernel_rfl) (by kernel_rfl) (fun _ => (by kernel_rfl)) (fun u => hih (outs ++ [(⟨x.n, A5, c5, x.ops⟩ : PG)]) A6 c6 w3 L3 (N3.imp fun w h => fun y hy => by
        rcases List.mem_append.1 hy with h1 | h1
        · exact h.2 y h1
        · rw [List.mem_singleton.1 h1]; exact h.1) (by rw [List.map_append, ho, List.take_add_one, hx, List.map_append]; rfl) (by rw [List.length_append, hol]; rfl) u)
  refine Hs.enter Tryz.func15 [] [] [] [.c (.v (.slice A ps.length c))] (Mem.start0 w) (by kernel_rfl) (by kernel_rfl) ?_
  refine Hs.run0 300 (fun _ => by kernel_rfl) ?_
  refine Hs.nilS 106 2 (by kernel_rfl) ?_ (by kernel_rfl)
  refine Hs.loop (by kernel_rfl) ?_
  exact Hs.goto (loopAt Tryz.f15 0) [0] [.s none 0 0 106 2 (([] : List PG).flatMap cPG)] [(3, .c (.v (.slice none 0 0))), (6, .c (.v (.slice A ps.length c))), (7, .c (.v (.int .i64 ps.length))), (8, .c (.v (.int .i64 (0 : Nat))))] (by kernel_rfl) (by decide) (by kernel_rfl) (by kernel_rfl) (fun _ => (by kernel_rfl)) (fun u => J ps.length 0 (by omega) (by omega) [] none 0 w [] ((Nx.start w).imp fun w h => fun y hy => by cases hy) rfl rfl u)
end Go.Proofs.YtdplnedpbkpgpaaGreatDoor

namespace Go.Proofs.YtdplnedpbkpgpaaGreatDoor
set_option linter.all false
set_option maxRecDepth 100000
open Go.RowKit
section
variable {P : Program} {f : FuncId} {R : Ending → World → Prop} {n : Nat} {w0 : World} {L : List Nat} {β : List Nat} {m : SM}
def isI64 : Value → Bool
  | .int .i64 _ => true
  | _ => false
def isBoo : Value → Bool
  | .bool _ => true
  | _ => false
def isBoo? : Option Value → Bool
  | some (.bool _) => true
  | _ => false
theorem isI64_ex {v : Value} (h : isI64 v = true) : ∃ N, v = .int .i64 N := by
  unfold isI64 at h
  split at h
  · exact ⟨_, rfl⟩
  · cases h
theorem isBoo_ex {v : Value} (h : isBoo v = true) : ∃ b, v = .bool b := by
  unfold isBoo at h
  split at h
  · exact ⟨_, rfl⟩
  · cases h
/-- A slot holds some number. -/
theorem Hs.anyI (d : Nat) (h : isI64 ((m.sl.at d).den β) = true) (k : ∀ N : Int, Hs P f R n w0 L β ⟨m.r, m.todo, .put d (.c (.v (.int .i64 N))) m.sl, m.hp⟩) : Hs P f R n w0 L β m := by
  obtain ⟨N, hN⟩ := isI64_ex h
  exact Hs.slot d (.c (.v (.int .i64 N))) rfl hN (k N)
/-- A slot holds some truth value. -/
theorem Hs.anyB (d : Nat) (h : isBoo ((m.sl.at d).den β) = true) (ht : Hs P f R n w0 L β ⟨m.r, m.todo, .put d (.c (.v (.bool true))) m.sl, m.hp⟩) (hf : Hs P f R n w0 L β ⟨m.r, m.todo, .put d (.c (.v (.bool false))) m.sl, m.hp⟩) : Hs P f R n w0 L β m := by
  obtain ⟨b, hb⟩ := isBoo_ex h
  exact Hs.bool d b hb (fun _ => ht) (fun _ => hf)
/-- A condition that may go either way. -/
theorem Hs.condX (h : isBoo? (condOf n β m) = true) (ht : Hs P f R n w0 L β (thenM m)) (hf : Hs P f R n w0 L β (elseM m)) : Hs P f R n w0 L β m := by
  unfold isBoo? at h
  split at h
  · rename_i b hb; exact Hs.cond b hb (fun _ => ht) (fun _ => hf)
  · cases h
end
/-- What is not more than is looked at. -/
structure PgSmall (ps : List PG) : Prop where
  len : ps.length ≤ 61
  ops : ∀ x ∈ ps, x.ops.length ≤ 101
abbrev GrPost (ps : List PG) (w : World) : Ending → World → Prop := fun e w' => ∃ b : Bool, e = .returned (.bool b) ∧ Only [] w w' ∧ (b = false → PgSmall ps)
set_option maxHeartbeats 4000000 in
theorem great19_any (ps : List PG) (A : Option Addr) (c : Nat) (w : World) (h : Pgs w A c ps) : Calls Tryz.prog 26 #[.slice A ps.length c] w (GrPost ps w) := by
  have hlen : ps.length ≤ maxLen := Nat.le_trans h.le h.max
  have J : ∀ (d i : Nat), ps.length - i = d → i ≤ ps.length → i ≤ 61 → (∀ x ∈ ps.take i, x.ops.length ≤ 101) → ∀ (N : Int) (u : Nat → Value), Hs Tryz.prog 26 (GrPost ps w) (Tryz.f26).ntmps w [] [] ⟨.no, loopAt Tryz.f26 0, pins [(3, .c (.v (.int .i64 N))), (8, .c (.v (.slice A ps.length c))), (9, .c (.v (.int .i64 ps.length))), (10, .c (.v (.int .i64 i)))] (.vals u), []⟩ := by
    intro d
    induction d with
    | zero =>
      intro i hd hi hi2 hq N u
      obtain rfl : i = ps.length := by omega
      rw [List.take_length] at hq
      refine Hs.run0 300 (fun _ => by kernel_rfl) ?_
      refine Hs.condP ((ps.length : Int) < (ps.length : Int)) (by kernel_rfl) (fun h => by omega) (fun _ => ?_)
      refine Hs.run0 300 (fun _ => by kernel_rfl) ?_
      exact Hs.ret (v := .bool false) Tryz.func26 (by kernel_rfl) fun w' H => ⟨false, rfl, H.only, fun _ => ⟨hi2, hq⟩⟩
    | succ d ih =>
      intro i hd hi hi2 hq N u
      have hil : i < ps.length := by omega
      obtain ⟨x, hx⟩ : ∃ x, ps[i]? = some x := ⟨_, List.getElem?_eq_getElem hil⟩
      have hxo := h.all x (List.mem_of_getElem? hx)
      obtain ⟨ab, aoff, hA, _, _⟩ := h.rd (by omega)
      have hih := fun h1 h2 N u => ih (i + 1) (by omega) (by omega) h1 h2 N u
      clear ih
      have hrd := h.rd
      rw [hA] at hih hrd ⊢
      have K : ∀ (e j : Nat), x.ops.length - j = e → j ≤ x.ops.length → j ≤ 101 → ∀ (g : Nat) (N : Int) (u : Nat → Value), Hs Tryz.prog 26 (GrPost ps w) (Tryz.f26).ntmps w [] [g] ⟨.no, loopAt Tryz.f26 1, pins [(3, .c (.v (.int .i64 N))), (4, .c (.v (.int .i64 i))), (5, .c (.p 0 0)), (8, .c (.v (.slice (some ⟨ab, aoff, none⟩) ps.length c))), (9, .c (.v (.int .i64 ps.length))), (10, .c (.v (.int .i64 i))), (28, .c (.v (.slice x.A x.ops.length x.c))), (29, .c (.v (.int .i64 x.ops.length))), (30, .c (.v (.int .i64 j)))] (.vals u), [.b true 106 x.sc]⟩ := by
        intro e
        induction e with
        | zero =>
          intro j he hj hj2 g N u
          obtain rfl : j = x.ops.length := by omega
          refine Hs.run0 300 (fun _ => by kernel_rfl) ?_
          refine Hs.condP ((x.ops.length : Int) < (x.ops.length : Int)) (by kernel_rfl) (fun h => by omega) (fun _ => ?_)
          refine Hs.run0 300 (fun _ => by kernel_rfl) ?_
          refine Hs.bool 51 (decide ((i : Int) > 60)) (by kernel_rfl) (fun _ => ?_) (fun h1 => ?_)
          · refine Hs.rung0 [2] 300 (fun _ => by kernel_rfl) ?_
            refine Hs.condT (by kernel_rfl) ?_
            refine Hs.run0 300 (fun _ => by kernel_rfl) ?_
            exact Hs.ret (v := .bool true) Tryz.func26 (by kernel_rfl) fun w' H => ⟨true, rfl, H.only, fun h => by cases h⟩
          replace h1 : i ≤ 60 := by simp at h1; omega
          refine Hs.rung0 [2] 300 (fun _ => by kernel_rfl) ?_
          refine Hs.condX (by kernel_rfl) ?_ ?_
          · refine Hs.run0 300 (fun _ => by kernel_rfl) ?_
            exact Hs.ret (v := .bool true) Tryz.func26 (by kernel_rfl) fun w' H => ⟨true, rfl, H.only, fun h => by cases h⟩
          refine Hs.run0 300 (fun _ => by kernel_rfl) ?_
          refine Hs.slot 10 (.c (.v (.int .i64 (i + 1 : Nat)))) rfl ((by kernel_rfl : _ = Value.int .i64 (IntKind.i64.wrap ((i : Int) + 1))).trans (wrap_nextJ hlen)) ?_
          refine Hs.loop (by kernel_rfl) ?_
          exact Hs.goto (loopAt Tryz.f26 0) [] [] [(3, .c (.v (.int .i64 N))), (8, .c (.v (.slice (some ⟨ab, aoff, none⟩) ps.length c))), (9, .c (.v (.int .i64 ps.length))), (10, .c (.v (.int .i64 (i + 1 : Nat))))] (by kernel_rfl) (by decide) (by kernel_rfl) (by kernel_rfl) (fun _ => (by kernel_rfl)) (fun u => hih (by omega) (fun y hy => by
            rw [List.take_add_one, hx] at hy
            rcases List.mem_append.1 hy with h2 | h2
            · exact hq y h2
            · rw [Option.mem_toList] at h2
              injection h2 with h2
              rw [← h2]; exact hj2) N u)
        | succ e ihk =>
          intro j he hj hj2 g N u
          have hjl : j < x.ops.length := by omega
          obtain ⟨y, hy⟩ : ∃ y, x.ops[j]? = some y := ⟨_, List.getElem?_eq_getElem hjl⟩
          obtain ⟨ob, ooff, hO, _, _⟩ := hxo.1 (by omega)
          have hihk := fun h1 g N u => ihk (j + 1) (by omega) (by omega) h1 g N u
          clear ihk
          have hor := hxo.1
          have hsc : x.sc = [.v (.string x.n), .v (.slice x.A x.ops.length x.c)] := rfl
          rw [hsc] at hihk ⊢
          rw [hO] at hihk hor ⊢
          refine Hs.run0 300 (fun _ => by kernel_rfl) ?_
          refine Hs.condP ((j : Int) < (x.ops.length : Int)) (by kernel_rfl) (fun _ => ?_) (fun h => by omega)
          refine Hs.run0 300 (fun _ => by kernel_rfl) ?_
          refine Hs.idx (b := ob) (off := ooff) (len := x.ops.length) (c := x.c) (i := j) elemRo hjl (by kernel_rfl) ?_
          refine Hs.ldx (cf := cOP) (size := 4) (E := 96) (b := ob) (off := ooff) (i := j) (l := x.ops) (x := y) cOP_len (.g y.sc) (by kernel_rfl) (fun w' H => hor.only H.only) hy (by kernel_rfl) (by kernel_rfl) rfl (by kernel_rfl) ?_
          refine Hs.run1 300 (fun _ => by kernel_rfl) fun b1 => ?_
          refine Hs.anyI 3 (by kernel_rfl) fun N2 => ?_
          refine Hs.bool 44 (decide ((j : Int) > 100)) (by kernel_rfl) (fun _ => ?_) (fun h1 => ?_)
          · refine Hs.rung0 [2] 300 (fun _ => by kernel_rfl) ?_
            refine Hs.condT (by kernel_rfl) ?_
            refine Hs.run0 300 (fun _ => by kernel_rfl) ?_
            exact Hs.ret (v := .bool true) Tryz.func26 (by kernel_rfl) fun w' H => ⟨true, rfl, H.only, fun h => by cases h⟩
          replace h1 : j ≤ 100 := by simp at h1; omega
          refine Hs.rung0 [2] 300 (fun _ => by kernel_rfl) ?_
          refine Hs.condX (by kernel_rfl) ?_ ?_
          · refine Hs.run0 300 (fun _ => by kernel_rfl) ?_
            exact Hs.ret (v := .bool true) Tryz.func26 (by kernel_rfl) fun w' H => ⟨true, rfl, H.only, fun h => by cases h⟩
          refine Hs.run0 300 (fun _ => by kernel_rfl) ?_
          refine Hs.slot 30 (.c (.v (.int .i64 (j + 1 : Nat)))) rfl ((by kernel_rfl : _ = Value.int .i64 (IntKind.i64.wrap ((j : Int) + 1))).trans (wrap_nextJ (Nat.le_trans hxo.2.1 hxo.2.2))) ?_
          refine Hs.loop (by kernel_rfl) ?_
          exact Hs.goto (loopAt Tryz.f26 1) [0] [.b true 106 [.v (.string x.n), .v (.slice (some ⟨ob, ooff, none⟩) x.ops.length x.c)]] [(3, .c (.v (.int .i64 N2))), (4, .c (.v (.int .i64 i))), (5, .c (.p 0 0)), (8, .c (.v (.slice (some ⟨ab, aoff, none⟩) ps.length c))), (9, .c (.v (.int .i64 ps.length))), (10, .c (.v (.int .i64 i))), (28, .c (.v (.slice (some ⟨ob, ooff, none⟩) x.ops.length x.c))), (29, .c (.v (.int .i64 x.ops.length))), (30, .c (.v (.int .i64 (j + 1 : Nat))))] (by kernel_rfl) (by decide) (by kernel_rfl) (by kernel_rfl) (fun _ => (by kernel_rfl)) (fun u => hihk (by omega) g N2 u)
      refine Hs.run0 300 (fun _ => by kernel_rfl) ?_
      refine Hs.condP ((i : Int) < (ps.length : Int)) (by kernel_rfl) (fun _ => ?_) (fun h => by omega)
      refine Hs.run0 300 (fun _ => by kernel_rfl) ?_
      refine Hs.idx (b := ab) (off := aoff) (len := ps.length) (c := c) (i := i) elemRp hil (by kernel_rfl) ?_
      refine Hs.ldx (cf := cPG) (size := 2) (E := 106) (b := ab) (off := aoff) (i := i) (l := ps) (x := x) cPG_len (.g x.sc) (by kernel_rfl) (fun w' H => hrd.only H.only) hx (by kernel_rfl) (by kernel_rfl) rfl (by kernel_rfl) ?_
      refine Hs.run1 300 (fun _ => by kernel_rfl) fun b1 => ?_
      refine Hs.anyI 3 (by kernel_rfl) fun N2 => ?_
      refine Hs.loop (by kernel_rfl) ?_
      exact Hs.goto (loopAt Tryz.f26 1) [0] [.b true 106 x.sc] [(3, .c (.v (.int .i64 N2))), (4, .c (.v (.int .i64 i))), (5, .c (.p 0 0)), (8, .c (.v (.slice (some ⟨ab, aoff, none⟩) ps.length c))), (9, .c (.v (.int .i64 ps.length))), (10, .c (.v (.int .i64 i))), (28, .c (.v (.slice x.A x.ops.length x.c))), (29, .c (.v (.int .i64 x.ops.length))), (30, .c (.v (.int .i64 (0 : Nat))))] (by kernel_rfl) (by decide) (by kernel_rfl) (by kernel_rfl) (fun _ => (by kernel_rfl)) (fun u => K x.ops.length 0 (by omega) (by omega) (by omega) b1 N2 u)
  refine Hs.enter Tryz.func26 [] [] [] [.c (.v (.slice A ps.length c))] (Mem.start0 w) (by kernel_rfl) (by kernel_rfl) ?_
  refine Hs.run0 300 (fun _ => by kernel_rfl) ?_
  refine Hs.loop (by kernel_rfl) ?_
  exact Hs.goto (loopAt Tryz.f26 0) [] [] [(3, .c (.v (.int .i64 0))), (8, .c (.v (.slice A ps.length c))), (9, .c (.v (.int .i64 ps.length))), (10, .c (.v (.int .i64 (0 : Nat))))] (by kernel_rfl) (by decide) (by kernel_rfl) (by kernel_rfl) (fun _ => (by kernel_rfl)) (fun u => J ps.length 0 (by omega) (by omega) (by omega) (by simp) 0 u)
end Go.Proofs.YtdplnedpbkpgpaaGreatDoor

namespace Go.Proofs.YtdplnedpbkpgpaaGreatDoor
set_option linter.all false
set_option maxRecDepth 100000
open Go.RowKit
section
variable {P : Program} {f : FuncId} {R : Ending → World → Prop} {n : Nat} {w0 : World} {L : List Nat} {β : List Nat} {m : SM} {α : Type} {cf : α → List Value} {E size : Nat}
/-- A call that answers some thing with a row of ours. -/
theorem Hs.callSX {X : Type} (v : X → Option Addr → Nat → Value) (l : X → List α) (nl : X → Nat) (Q : X → Prop) {F : FuncId} {args : Array Value} (hl : ∀ x, Q x → (l x).length = nl x) (hC : ∀ w, Mem w0 L β m.hp w → Calls P F args w fun e w' => ∃ x A cap, e = .returned (v x A cap) ∧ Only [] w w' ∧ OwnX cf E size w' w.heap.size (.slice A (nl x) cap) (l x) ∧ Q x)
    (hc : callOf P n β m = some (F, args)) (hrd : (rdOf m).all (fun k => Nat.blt k m.hp.length) = true)
    (h : ∀ x, Q x → ∀ A cap, nl x ≤ cap → cap ≤ maxLen → Hs P f R n w0 L (β ++ [0]) (m.put (dstOf m) (.c (.v (v x A cap))) (m.hp ++ [.s A cap (nl x) E size ((l x).flatMap cf)]))) : Hs P f R n w0 L β m := by
  refine ⟨fun w H W => ?_⟩
  refine (Hs.call hc (fun w H => ?_)).go w H W
  refine Calls.mono (hC w H) ?_
  rintro e w' ⟨x, A, cap, rfl, O, hO, hQ⟩
  have hw := SM.wf_hp W
  have hlx := hl x hQ
  obtain ⟨A1, cap1, e1, hc1, hc2, _, hA⟩ := hO.form
  injection e1 with e1 e2 e3
  subst e1; subst e3
  rw [hlx] at hc1
  refine ⟨[0], .c (.v (v x A cap)), m.hp ++ [.s A cap (nl x) E size ((l x).flatMap cf)], rfl, H.push (h := .s A cap (nl x) E size ((l x).flatMap cf)) (by rw [H.len]; exact hw) O (fun y hy => ?_) (by
    have h5 := OwnX.mono hO (Nat.zero_le _)
    unfold OwnX at h5
    rw [hlx] at h5
    exact h5), ?_, fun k hk h hh => ?_, h x hQ A cap hc1 hc2⟩
  · simp only [HB.blk, Option.map_eq_some_iff] at hy
    obtain ⟨a, hx, rfl⟩ := hy
    exact (hA a hx).1
  · simp only [SV.wf, SC.wf, Bool.true_and, Bool.and_eq_true, Nat.ble_eq, List.length_append, List.length_cons, List.length_nil, List.all_append, List.all_cons, List.all_nil, Bool.and_true]
    refine ⟨by omega, List.all_eq_true.2 fun y hy => ?_, rfl⟩
    have h1 := List.all_eq_true.1 hw y hy
    cases y with
    | no => rfl
    | s => rfl
    | q => rfl
    | r _ _ _ => rfl
    | b _ _ cs => exact List.all_eq_true.2 fun z hz => SC.wf_mono (by omega) (List.all_eq_true.1 h1 z hz)
  · rw [List.getElem?_append_left (List.getElem?_eq_some_iff.1 hh).1]; exact hh
end
/-- A request that is handed in. -/
structure AQ where
  n : ByteArray
  A : Option Addr
  c : Nat
  b : List Int
def cAQ (x : AQ) : List Value := [.string x.n, .slice x.A x.b.length x.c]
def AQ.sc (x : AQ) : List SC := [.v (.string x.n), .v (.slice x.A x.b.length x.c)]
theorem cAQ_len (x : AQ) : (cAQ x).length = 2 := rfl
theorem elemAQ : ElemT Tryz.prog 38 34 2 (Tryz.prog.bytesOf 34) := elemT_of (z := .agg #[.string ⟨#[]⟩, .slice none 0 0]) (by kernel_rfl) (by kernel_rfl) (by decide) (by decide)
structure AqOk (w : World) (x : AQ) : Prop where
  rd : RdX cu8 w x.A x.b
  rng : ∀ y ∈ x.b, 0 ≤ y ∧ y < 256
  le : x.b.length ≤ x.c
  max : x.c ≤ maxLen
  few : x.b.length ≤ 140737488355000
theorem AqOk.only {w w' : World} {x : AQ} (h : AqOk w x) (O : Only [] w w') : AqOk w' x := ⟨h.rd.only O, h.rng, h.le, h.max, h.few⟩
structure Aqs (w : World) (A : Option Addr) (c : Nat) (l : List AQ) : Prop where
  rd : RdX cAQ w A l
  le : l.length ≤ c
  max : c ≤ maxLen
  all : ∀ x ∈ l, AqOk w x
structure Gr27 (s : SS) (l : List AQ) (ps : List PG) : Prop where
  env : s.env.length ≤ 100
  len : l.length ≤ 60
  small : PgSmall ps
abbrev GrP27 (s : SS) (l : List AQ) (ps : List PG) (w : World) : Ending → World → Prop := fun e w' => ∃ b : Bool, e = .returned (.bool b) ∧ Only [] w w' ∧ (b = false → Gr27 s l ps)
theorem PgSmall.of {ps qs : List PG} (h : PgSmall qs) (e : qs.map PG.m = ps.map PG.m) : PgSmall ps := by
  have hl : qs.length = ps.length := by simpa using congrArg List.length e
  refine ⟨by rw [← hl]; exact h.len, fun x hx => ?_⟩
  have h1 : PG.m x ∈ qs.map PG.m := by rw [e]; exact List.mem_map.2 ⟨x, hx, rfl⟩
  obtain ⟨y, hy, e2⟩ := List.mem_map.1 h1
  have := h.ops y hy
  unfold PG.m at e2
  injection e2 with e3 e4
  rw [← e4]; exact this
set_option maxHeartbeats 4000000 in
theorem great27_any (s : SS) (A0 : Option Addr) (c0 : Nat) (l : List AQ) (A : Option Addr) (c : Nat) (ps : List PG) (B : Option Addr) (cb : Nat) (w : World) (hl : Aqs w A c l) (hp : Pgs w B cb ps) (hf : PgFew ps) : Calls Tryz.prog 9 #[s.val A0 c0, .slice A l.length c, .slice B ps.length cb] w (GrP27 s l ps w) := by
  have hlen : l.length ≤ maxLen := Nat.le_trans hl.le hl.max
  have J : ∀ (d i : Nat), l.length - i = d → i ≤ l.length → ∀ (b0 : Nat) (N : Int) (u : Nat → Value), Hs Tryz.prog 9 (GrP27 s l ps w) (Tryz.f9).ntmps w [] [b0] ⟨.no, loopAt Tryz.f9 0, pins [(1, .c (.v (.slice A l.length c))), (2, .c (.v (.slice B ps.length cb))), (3, .c (.p 0 0)), (7, .c (.v (.int .i64 N))), (10, .c (.v (.slice A l.length c))), (11, .c (.v (.int .i64 l.length))), (12, .c (.v (.int .i64 i)))] (.vals u), [.b true 31 (s.sc A0 c0)]⟩ := by
    intro d
    induction d with
    | zero =>
      intro i hd hi b0 N u
      obtain rfl : i = l.length := by omega
      refine Hs.run0 300 (fun _ => by kernel_rfl) ?_
      refine Hs.condP ((l.length : Int) < (l.length : Int)) (by kernel_rfl) (fun h => by omega) (fun _ => ?_)
      refine Hs.run0 300 (fun _ => by kernel_rfl) ?_
      refine Hs.bool 32 (decide ((s.env.length : Int) > 100)) (by kernel_rfl) (fun _ => ?_) (fun h1 => ?_)
      · refine Hs.rung0 [4, 9, 13] 300 (fun _ => by kernel_rfl) ?_
        exact Hs.ret (v := .bool true) Tryz.func9 (by kernel_rfl) fun w' H => ⟨true, rfl, H.only, fun h => by cases h⟩
      refine Hs.rung0 [4] 300 (fun _ => by kernel_rfl) ?_
      refine Hs.bool 37 (decide ((l.length : Int) > 60)) (by kernel_rfl) (fun _ => ?_) (fun h2 => ?_)
      · refine Hs.rung0 [4, 9, 13] 300 (fun _ => by kernel_rfl) ?_
        exact Hs.ret (v := .bool true) Tryz.func9 (by kernel_rfl) fun w' H => ⟨true, rfl, H.only, fun h => by cases h⟩
      refine Hs.rung0 [4, 9] 300 (fun _ => by kernel_rfl) ?_
      refine Hs.anyB 41 (by kernel_rfl) ?_ ?_
      · refine Hs.rung0 [4, 9, 13] 300 (fun _ => by kernel_rfl) ?_
        exact Hs.ret (v := .bool true) Tryz.func9 (by kernel_rfl) fun w' H => ⟨true, rfl, H.only, fun h => by cases h⟩
      refine Hs.rung0 [4, 9, 13] 300 (fun _ => by kernel_rfl) ?_
      refine Hs.callM (Nx.start w) (fun w' H => ref19_any ps B cb w' (hp.only H.only) hf) (by kernel_rfl) (by kernel_rfl) fun z w1 L1 N1 => ?_
      refine Hs.rung0 [4, 9, 13] 300 (fun _ => by kernel_rfl) ?_
      refine Hs.fact27 (fun w' H => (N1.now H).1.len) fun hz => ?_
      refine Hs.callX (v := fun b : Bool => .bool b) (Q := fun b => b = false → PgSmall z.2.2) (fun w' H => by
        have := great19_any z.2.2 z.1 z.2.1 w' (N1.now H).1.1
        rw [hz] at this
        exact this) (by kernel_rfl) fun b hb => ?_
      refine Hs.fact27 (fun w' H => (N1.now H).1.2) fun hz2 => ?_
      refine Hs.rung0 [4, 9, 13] 300 (fun _ => by kernel_rfl) ?_
      exact Hs.ret (v := .bool b) Tryz.func9 (by kernel_rfl) fun w' H => ⟨b, rfl, N1.only H, fun h => ⟨by simp at h1; omega, by simp at h2; omega, (hb h).of hz2⟩⟩
    | succ d ih =>
      intro i hd hi b0 N u
      have hil : i < l.length := by omega
      obtain ⟨x, hx⟩ : ∃ x, l[i]? = some x := ⟨_, List.getElem?_eq_getElem hil⟩
      obtain ⟨ab, aoff, hA, _, _⟩ := hl.rd (by omega)
      have hih := fun b0 N u => ih (i + 1) (by omega) (by omega) b0 N u
      clear ih
      have hrd := hl.rd
      rw [hA] at hih hrd ⊢
      refine Hs.run0 300 (fun _ => by kernel_rfl) ?_
      refine Hs.condP ((i : Int) < (l.length : Int)) (by kernel_rfl) (fun _ => ?_) (fun h => by omega)
      refine Hs.run0 300 (fun _ => by kernel_rfl) ?_
      refine Hs.idx (b := ab) (off := aoff) (len := l.length) (c := c) (i := i) elemAQ hil (by kernel_rfl) ?_
      refine Hs.ldx (cf := cAQ) (size := 2) (E := 34) (b := ab) (off := aoff) (i := i) (l := l) (x := x) cAQ_len (.g x.sc) (by kernel_rfl) (fun w' H => hrd.only H.only) hx (by kernel_rfl) (by kernel_rfl) rfl (by kernel_rfl) ?_
      refine Hs.run1 300 (fun _ => by kernel_rfl) fun b1 => ?_
      refine Hs.anyI 7 (by kernel_rfl) fun N2 => ?_
      refine Hs.slot 12 (.c (.v (.int .i64 (i + 1 : Nat)))) rfl ((by kernel_rfl : _ = Value.int .i64 (IntKind.i64.wrap ((i : Int) + 1))).trans (wrap_nextJ hlen)) ?_
      refine Hs.loop (by kernel_rfl) ?_
      exact Hs.goto (loopAt Tryz.f9 0) [0] [.b true 31 (s.sc A0 c0)] [(1, .c (.v (.slice (some ⟨ab, aoff, none⟩) l.length c))), (2, .c (.v (.slice B ps.length cb))), (3, .c (.p 0 0)), (7, .c (.v (.int .i64 N2))), (10, .c (.v (.slice (some ⟨ab, aoff, none⟩) l.length c))), (11, .c (.v (.int .i64 l.length))), (12, .c (.v (.int .i64 (i + 1 : Nat))))] (by kernel_rfl) (by decide) (by kernel_rfl) (by kernel_rfl) (fun _ => (by kernel_rfl)) (fun u => hih b0 N2 u)
  refine Hs.enter Tryz.func9 [] [] [] [.g (s.sc A0 c0), .c (.v (.slice A l.length c)), .c (.v (.slice B ps.length cb))] (Mem.start0 w) (by kernel_rfl) (by kernel_rfl) ?_
  refine Hs.run1 300 (fun _ => by kernel_rfl) fun b0 => ?_
  refine Hs.loop (by kernel_rfl) ?_
  exact Hs.goto (loopAt Tryz.f9 0) [0] [.b true 31 (s.sc A0 c0)] [(1, .c (.v (.slice A l.length c))), (2, .c (.v (.slice B ps.length cb))), (3, .c (.p 0 0)), (7, .c (.v (.int .i64 0))), (10, .c (.v (.slice A l.length c))), (11, .c (.v (.int .i64 l.length))), (12, .c (.v (.int .i64 (0 : Nat))))] (by kernel_rfl) (by decide) (by kernel_rfl) (by kernel_rfl) (fun _ => (by kernel_rfl)) (fun u => J l.length 0 (by omega) (by omega) b0 0 u)
end Go.Proofs.YtdplnedpbkpgpaaGreatDoor

namespace Go.Proofs.YtdplnedpbkpgpaaGreatDoor
set_option linter.all false
open Go.RowKit

/-- What Encode hands on. -/
def EncPost (w : World) (m : RQ) : Ending → World → Prop := fun e w' => Only [] w w' ∧ ∃ v, e = .returned (.tuple #[.string (encName m), v, .int .i64 (encR m).1]) ∧ OwnB w' w.heap.size v (encR m).2
theorem fcells_set : ∀ (fs : List FD) (i : Nat) (f : FD) (x : Int), fs[i]? = some f → (fcells fs).set (i * 4) (.int .i64 x) = fcells (fs.set i { f with kind := x })
  | [], i, f, x, h => by simp at h
  | g :: fs, 0, f, x, h => by
    simp at h
    subst h
    rfl
  | g :: fs, i + 1, f, x, h => by
    simp at h
    have ih := fcells_set fs i f x h
    unfold fcells at ih ⊢
    rw [List.set_cons_succ, List.flatMap_cons, List.flatMap_cons, ← ih]
    have e : (i + 1) * 4 = g.cells.length + i * 4 := by simp [FD.cells]; omega
    rw [e, List.set_append_right _ _ (by omega)]
    congr 2
    omega
theorem ownF_set {w : World} {base g cap n : Nat} {fs : List FD} (hn : fs.length = n) (h : OwnF w base (.slice (some ⟨g, 0, none⟩) n cap) fs) (i : Nat) (f : FD) (x : Int) (hi : fs[i]? = some f) :
    OwnF (w.setCell ⟨g, i * 4, none⟩ (.int .i64 x)) base (.slice (some ⟨g, 0, none⟩) n cap) (fs.set i { f with kind := x }) := by
  subst hn
  have := (World.ownsRow.stored h (i * 4) (.int .i64 x)).1
  show World.ownsRow _ _ _ _ _ _ _
  rw [List.length_set, ← fcells_set fs i f x hi]
  exact this
theorem ownF_at {w : World} {base g cap n : Nat} {fs : List FD} (hn : fs.length = n) (h : OwnF w base (.slice (some ⟨g, 0, none⟩) n cap) fs) (i : Nat) (f : FD) (hi : fs[i]? = some f) :
    w.cell? ⟨g, i * 4, none⟩ = some (.int .i64 f.kind) ∧ w.frozen? ⟨g, i * 4, none⟩ = false := by
  subst hn
  have hl : i < fs.length := (List.getElem?_eq_some_iff.1 hi).1
  refine ⟨?_, World.ownsRow.frozenAt h _⟩
  rw [World.ownsRow.cellAt h (i * 4) (by omega), ← Nat.add_zero (i * 4), fcells_at fs i f 0 hi (by decide)]
  rfl
theorem ok_setC {w : World} {f : FD} {g i n cap : Nat} {u : Value} (h : FD.ok w f) (ho : f.off (.slice (some ⟨g, 0, none⟩) n cap)) : FD.ok (w.setCell ⟨g, i, none⟩ u) f := by
  have P : Only [g] w (w.setCell ⟨g, i, none⟩ u) := (Only.refl [g] w).setCell (p := ⟨g, i, none⟩) (.inl (by simp)) u
  exact { h with text := h.text.onlyL P (fun a ha h0 hx => ho.1 a ha h0 (by simp at hx; rw [hx]; rfl)), list := h.list.onlyL P (fun a ha h0 hx => ho.2 a ha h0 (by simp at hx; rw [hx]; rfl)) }
theorem set_mid {α : Type} (l m : List α) (k : Nat) (x : α) (hl : l.length = m.length) (hx : l[k]? = some x) : (l.take k ++ m.drop k).set k x = l.take (k + 1) ++ m.drop (k + 1) := by
  have hk : k < l.length := (List.getElem?_eq_some_iff.1 hx).1
  rw [List.set_append_right _ _ (by simp; omega)]
  have e : k - (l.take k).length = 0 := by simp; omega
  rw [e, List.drop_eq_getElem_cons (by omega : k < m.length), List.set_cons_zero, List.take_succ, hx]
  simp
/-- The fields with the first kinds set. -/
def MidP (m : RQ) (k i : Nat) : List PF := (partsR m k).take i ++ ((partsR m k).map (fun p => { p with kind := 0 })).drop i
theorem mid_step (m : RQ) (k i : Nat) (p : PF) (hp : (partsR m k)[i]? = some p) (fs : List FD) (f : FD) (hf : fs[i]? = some f) (h : fs.map FD.pf = MidP m k i) : (fs.set i { f with kind := p.kind }).map FD.pf = MidP m k (i + 1) := by
  have hil : i < (partsR m k).length := (List.getElem?_eq_some_iff.1 hp).1
  rw [List.map_set, h]
  unfold MidP
  have hfp : FD.pf { f with kind := p.kind } = p := by
    have e1 : (fs.map FD.pf)[i]? = some f.pf := by rw [List.getElem?_map, hf]; rfl
    rw [h] at e1
    unfold MidP at e1
    rw [List.getElem?_append_right (by simp; omega), List.getElem?_drop] at e1
    have e2 : i + (i - ((partsR m k).take i).length) = i := by simp; omega
    rw [e2, List.getElem?_map, hp] at e1
    have e3 : f.pf = { p with kind := 0 } := by simpa using e1.symm
    have n1 : f.n = p.n := congrArg PF.n e3
    have n2 : f.text = p.text := congrArg PF.text e3
    have n3 : f.list = p.list := congrArg PF.list e3
    unfold FD.pf
    dsimp only
    rw [n1, n2, n3]
  rw [hfp]
  exact set_mid _ _ i p (by simp) hp
theorem mid0 {m : RQ} {k : Nat} {fs : List FD} (h : fs.map FD.pf = (partsR m k).map (fun p => { p with kind := 0 })) : fs.map FD.pf = MidP m k 0 := by
  rw [h]
  rfl
theorem mid_end (m : RQ) (k n : Nat) (h : (partsR m k).length = n) : MidP m k n = partsR m k := by
  unfold MidP
  rw [List.take_of_length_le (by omega), List.drop_of_length_le (by simp; omega), List.append_nil]
theorem mem_set {α : Type} {l : List α} {i : Nat} {x : α} {P : α → Prop} (h : ∀ y ∈ l, P y) (hx : P x) : ∀ y ∈ l.set i x, P y := fun y hy => by
  rcases List.mem_or_eq_of_mem_set hy with h1 | rfl
  · exact h y h1
  · exact hx
theorem encR_none {m : RQ} (h : ¬ (1 ≤ m.kind ∧ m.kind ≤ 10)) : encR m = (8, []) := if_neg h
theorem encR_ask {m : RQ} {k : Nat} (h1 : 1 ≤ k) (h2 : k ≤ 10) (hk : m.kind = k) (h : askR m k ≠ 0) : encR m = (askR m k, []) := by
  unfold encR
  rw [hk, Int.toNat_natCast, if_pos (by omega), if_pos h]
theorem encR_go {m : RQ} {k : Nat} (h1 : 1 ≤ k) (h2 : k ≤ 10) (hk : m.kind = k) (h : askR m k = 0) : encR m = writeP (partsR m k) := by
  unfold encR
  rw [hk, Int.toNat_natCast, if_pos (by omega), if_neg (by simpa using h)]
theorem encName_bad {m : RQ} (h : (encR m).1 ≠ 0) : encName m = ⟨#[]⟩ := if_neg h
theorem encName_ok {m : RQ} {k : Nat} (hk : m.kind = k) (h : (encR m).1 = 0) : encName m = rname k := by
  unfold encName
  rw [if_pos h, hk, Int.toNat_natCast]
theorem encPost_bad (w w' : World) (m : RQ) (E : Int) (h : encR m = (E, [])) (hE : E ≠ 0) (P : Only [] w w') : EncPost w m (.returned (.tuple #[.string ⟨#[]⟩, .slice none 0 0, .int .i64 E])) w' := by
  unfold EncPost
  rw [encName_bad (by rw [h]; exact hE), h]
  exact ⟨P, _, rfl, ownB_nil _ _⟩
set_option maxRecDepth 100000 in
set_option maxHeartbeats 6400000 in
theorem rencode_any (m : RQ) (w : World) (hm : m.ok w) (hs : m.text.size ≤ 140737488355328) (hv : m.value.size ≤ 140737488355328) (hl : m.lang.size ≤ 140737488355328) : Calls Tryz.prog 20 #[m.val] w (EncPost w m) := by
  obtain ⟨w1, hw1⟩ : ∃ w1, w1 = w.alloc (.cells #[.int .i64 m.kind, .string m.text, .string m.value, .string m.lang, .int .u32 m.cols, .int .u32 m.rows, .int .u32 m.width, .int .u32 m.height, .slice m.mA m.modes.length m.mc, .bool m.on, .int .u32 m.code] 63) := ⟨_, rfl⟩
  have P1 : Only [] w w1 := by rw [hw1]; exact (Only.refl _ _).alloc _
  have K1 : Blk w1 w.heap.size 63 m.cells := by rw [hw1]; exact Blk.new w _ _
  unfold RQ.val
  by_cases hk : 1 ≤ m.kind ∧ m.kind ≤ 10
  · obtain ⟨k, hkk⟩ := Int.eq_ofNat_of_zero_le (show 0 ≤ m.kind by omega)
    have h1 : 1 ≤ k := by omega
    have h2 : k ≤ 10 := by omega
    have OF := rof_any k h1 h2 w1
    rw [← hkk] at OF
    obtain ⟨F1, hF1, cF1, C1⟩ := rget_any k h1 h2
    obtain ⟨F3, hF3, cF3, C3⟩ := ask_any k h1 h2
    have hen : askR m k = 0 → encR m = writeP (partsR m k) := encR_go h1 h2 hkk
    have hea : askR m k ≠ 0 → encR m = (askR m k, []) := encR_ask h1 h2 hkk
    have hnk : (encR m).1 = 0 → encName m = rname k := encName_ok hkk
    obtain ⟨n, hn⟩ : ∃ n, (rkinds k).length = n := ⟨_, rfl⟩
    obtain ⟨nm, hnm⟩ : ∃ nm, rname k = nm := ⟨_, rfl⟩
    obtain ⟨F2, hF2⟩ : ∃ F, rput k = F := ⟨_, rfl⟩
    obtain ⟨E0, hE0⟩ : ∃ E, askR m k = E := ⟨_, rfl⟩
    rw [hE0] at hen hea
    have hpk := parts_kinds m k h1 h2
    have hn10 : n ≤ 10 := by rw [← hn]; rcases k10 h1 h2 with rfl | rfl | rfl | rfl | rfl | rfl | rfl | rfl | rfl | rfl <;> decide
    have hpl : (partsR m k).length = n := by rw [← hn, ← hpk, List.length_map]
    replace hen := hide hen
    replace hea := hide hea
    replace hnk := hide hnk
    replace hpl := hide hpl
    replace hpk := hide hpk
    replace hkk := hide hkk
    replace C1 := hide C1
    replace C3 := hide C3
    replace hk := hide hk
    go_enter Tryz.func20, Tryz.ntmps20
    go_wp2_with fail
    rw [← hw1]
    replace hw1 := hide hw1
    go_call OF as e w2 ⟨P2, KA, rfl, R2⟩
    clear OF
    unfold ruleV rfn
    rw [hn, hF1, hF2, hF3, hnm]
    replace hn := hide hn
    replace hF1 := hide hF1
    replace hF2 := hide hF2
    replace hF3 := hide hF3
    replace hnm := hide hnm
    have K2 := K1.only P2 (by simp)
    have Q2 : Only [] w w2 := P1.trans P2 (by simp)
    have B3 : Blk (w2.alloc (.cells #[.string nm, .slice KA n n, .func (Fn.func F1) #[] #[], .func (Fn.func F2) #[] #[], .func (Fn.func F3) #[] #[]] 114)) w2.heap.size 114 [.string nm, .slice KA n n, .func (Fn.func F1) #[] #[], .func (Fn.func F2) #[] #[], .func (Fn.func F3) #[] #[]] := Blk.new _ _ _
    have P3 : Only [] w2 (w2.alloc (.cells #[.string nm, .slice KA n n, .func (Fn.func F1) #[] #[], .func (Fn.func F2) #[] #[], .func (Fn.func F3) #[] #[]] 114)) := (Only.refl _ _).alloc _
    have z3 : (w2.alloc (.cells #[.string nm, .slice KA n n, .func (Fn.func F1) #[] #[], .func (Fn.func F2) #[] #[], .func (Fn.func F3) #[] #[]] 114)).heap.size = w2.heap.size + 1 := by simp
    obtain ⟨w3, hw3⟩ : ∃ w3, w3 = w2.alloc (.cells #[.string nm, .slice KA n n, .func (Fn.func F1) #[] #[], .func (Fn.func F2) #[] #[], .func (Fn.func F3) #[] #[]] 114) := ⟨_, rfl⟩
    rw [← hw3] at B3 P3 z3
    have B4 := B3.alloc (.cells #[.int .i64 m.kind, .string m.text, .string m.value, .string m.lang, .int .u32 m.cols, .int .u32 m.rows, .int .u32 m.width, .int .u32 m.height, .slice m.mA m.modes.length m.mc, .bool m.on, .int .u32 m.code] 119)
    have P4 : Only [] w3 (w3.alloc (.cells #[.int .i64 m.kind, .string m.text, .string m.value, .string m.lang, .int .u32 m.cols, .int .u32 m.rows, .int .u32 m.width, .int .u32 m.height, .slice m.mA m.modes.length m.mc, .bool m.on, .int .u32 m.code] 119)) := (Only.refl _ _).alloc _
    have K4 : Blk (w3.alloc (.cells #[.int .i64 m.kind, .string m.text, .string m.value, .string m.lang, .int .u32 m.cols, .int .u32 m.rows, .int .u32 m.width, .int .u32 m.height, .slice m.mA m.modes.length m.mc, .bool m.on, .int .u32 m.code] 119)) w3.heap.size 119 m.cells := Blk.new _ _ _
    have K3 := K2.only P3 (by simp)
    rw [z3] at K4
    obtain ⟨w4, hw4⟩ : ∃ w4, w4 = w3.alloc (.cells #[.int .i64 m.kind, .string m.text, .string m.value, .string m.lang, .int .u32 m.cols, .int .u32 m.rows, .int .u32 m.width, .int .u32 m.height, .slice m.mA m.modes.length m.mc, .bool m.on, .int .u32 m.code] 119) := ⟨_, rfl⟩
    rw [← hw4] at B4 P4 K4
    have Q4 : Only [] w w4 := (Q2.trans P3 (by simp)).trans P4 (by simp)
    have A4 := C3.out w4 m _ K4 (hm.only Q4)
    rw [hE0] at A4
    replace hE0 := hide hE0
    have x0 := B4.cell 0
    have x1 := B4.cell 1
    have x2 := B4.cell 2
    have x4 := B4.cell 4
    simp only [List.getElem?_cons_zero, List.getElem?_cons_succ] at x0 x1 x2 x4
    have hlt2 := K2.lt
    have hne : ¬ w.heap.size = w2.heap.size := by omega
    have c0 : w2.cell? ⟨w.heap.size, 0, none⟩ = some (.int .i64 m.kind) := K2.cell 0
    have c1 : w2.cell? ⟨w.heap.size, 1, none⟩ = some (.string m.text) := K2.cell 1
    have c2 : w2.cell? ⟨w.heap.size, 2, none⟩ = some (.string m.value) := K2.cell 2
    have c3 : w2.cell? ⟨w.heap.size, 3, none⟩ = some (.string m.lang) := K2.cell 3
    have c4 : w2.cell? ⟨w.heap.size, 4, none⟩ = some (.int .u32 m.cols) := K2.cell 4
    have c5 : w2.cell? ⟨w.heap.size, 5, none⟩ = some (.int .u32 m.rows) := K2.cell 5
    have c6 : w2.cell? ⟨w.heap.size, 6, none⟩ = some (.int .u32 m.width) := K2.cell 6
    have c7 : w2.cell? ⟨w.heap.size, 7, none⟩ = some (.int .u32 m.height) := K2.cell 7
    have c8 : w2.cell? ⟨w.heap.size, 8, none⟩ = some (.slice m.mA m.modes.length m.mc) := K2.cell 8
    have c9 : w2.cell? ⟨w.heap.size, 9, none⟩ = some (.bool m.on) := K2.cell 9
    have c10 : w2.cell? ⟨w.heap.size, 10, none⟩ = some (.int .u32 m.code) := K2.cell 10
    replace z3 := hide z3
    go_wp2_with fail
    rw [← hw3, ← hw4]
    go_call A4 as e w5 ⟨rfl, P5⟩
    clear A4
    clear c0 c1 c2 c3 c4 c5 c6 c7 c8 c9 c10
    have B5 := B4.only P5 (by simp)
    have K5 := K4.only P5 (by simp)
    have Q5 : Only [] w w5 := Q4.trans P5 (by simp)
    replace hw3 := hide hw3
    replace hw4 := hide hw4
    have hR2 : RdI w5 KA (rkinds k) := ((R2.only P3).only P4).only P5
    clear x0 x1 x2 x4
    have x0 := B5.cell 0
    have x1 := B5.cell 1
    have x2 := B5.cell 2
    simp only [List.getElem?_cons_zero, List.getElem?_cons_succ] at x0 x1 x2
    by_cases hE : E0 = 0
    · have hew := hen.out hE
      replace hew := hide hew
      subst hE
      have A5 := C1.out w5 m _ K5 (hm.only Q5) hs hv hl
      go_wp2_with fail
      go_call A5 as e w6 ⟨P6, v, fs, rfl, V6, hp, M6, N6⟩
      clear A5
      have B6 := B5.only P6 (by simp)
      have Q6 : Only [] w w6 := Q5.trans P6 (by simp)
      have hR6 := hR2.only P6
      have hfl : fs.length = n := by
        have := congrArg List.length hp
        rw [List.length_map, List.length_map, hpl.out] at this
        exact this
      obtain ⟨A, cap, rfl, hc, hcm, _⟩ := V6.form
      rw [hfl] at V6 hc M6 ⊢
      have M0 := mid0 hp
      have zq := Q5.size
      have hbk := B5.lt
      clear x0 x1 x2
      go_wp2_with fail
      go_loopw [37] (fun ii wr => ∃ (i : Nat) (gs : List FD), i ≤ n ∧ ii = .int .i64 i ∧ Hid (gs.length = n) ∧ Hid (gs.map FD.pf = MidP m k i) ∧ OwnF wr w5.heap.size (.slice A n cap) gs ∧ (∀ f ∈ gs, FD.ok wr f ∧ f.off (.slice A n cap)) ∧ (∀ f ∈ gs, U32 f.n) ∧ Only [] w5 wr) (fun ii _ => n - (intOf ii).toNat)
      case atStart => exact ⟨0, fs, by omega, rfl, hide hfl, hide M0, V6, M6, N6, P6⟩
      case round =>
        obtain ⟨wo, rfl⟩ : ∃ wo : World, wo = wr := ⟨_, rfl⟩
        obtain ⟨i, gs, hin, rfl, hgl, hmp, V, M, N, O⟩ := hrel
        have Bo := B5.only O (by simp)
        have x0 := Bo.cell 0
        have x1 := Bo.cell 1
        simp only [List.getElem?_cons_zero, List.getElem?_cons_succ] at x0 x1
        by_cases hlt : i < n
        · obtain ⟨kb, koff, x, rfl, hkb, hx, cx⟩ := RdG.at (hR2.only O) i (by have := hn.out; omega)
          obtain ⟨A', cap', e1, _, _, hA⟩ := V.form
          obtain ⟨ga, hga, hga1, hga2, _⟩ := hA (by have := hgl.out; omega)
          obtain rfl : A = some ⟨ga, 0, none⟩ := by rw [← hga]; exact (Value.slice.inj e1).1
          obtain ⟨f, hf⟩ : ∃ f, gs[i]? = some f := ⟨_, List.getElem?_eq_getElem (by have := hgl.out; omega)⟩
          obtain ⟨p, hpp⟩ : ∃ p, (partsR m k)[i]? = some p := ⟨_, List.getElem?_eq_getElem (by have := hpl.out; omega)⟩
          have hpx : p.kind = x := by
            rw [← hpk.out, List.getElem?_map, hpp] at hx
            simpa using hx
          obtain ⟨cf, zf⟩ := ownF_at hgl.out V i f hf
          have V' := ownF_set hgl.out V i f x hf
          have hst := mid_step m k i p hpp gs f hf hmp.out
          rw [hpx] at hst
          have hgl' : (gs.set i { f with kind := x }).length = n := by rw [List.length_set]; exact hgl.out
          have M' : ∀ y ∈ gs.set i { f with kind := x }, FD.ok (wo.setCell ⟨ga, i * 4, none⟩ (.int .i64 x)) y ∧ y.off (.slice (some ⟨ga, 0, none⟩) n cap) := by
            have hfm := M f (List.mem_of_getElem? hf)
            refine mem_set (fun y hy => ⟨ok_setC (M y hy).1 (M y hy).2, (M y hy).2⟩) ⟨?_, hfm.2⟩
            exact ok_setC (FD.ok.with hfm.1 x f.n) hfm.2
          have N' : ∀ y ∈ gs.set i { f with kind := x }, U32 y.n := mem_set N (N f (List.mem_of_getElem? hf))
          have O' : Only [] w5 (wo.setCell ⟨ga, i * 4, none⟩ (.int .i64 x)) := O.setCell (p := ⟨ga, i * 4, none⟩) (.inr hga1) _
          replace hf := hide hf
          replace hpp := hide hpp
          replace hpx := hide hpx
          replace hx := hide hx
          replace hst := hide hst
          replace hgl' := hide hgl'
          replace M' := hide M'
          replace N' := hide N'
          clear M N hA e1 hga
          go_wp2_with fail
          go_roundw
          case rel => exact ⟨i + 1, _, by omega, by go_num, hgl', hst, V', M'.out, N'.out, O'⟩
          case measure => simp [intOf]; omega
        · obtain rfl : i = n := by omega
          have hmap : gs.map FD.pf = partsR m k := by
            rw [hmp.out]
            exact mid_end m k i hpl.out
          have RF := V.rdF (fun f hf => ⟨(M f hf).1, N f hf⟩)
          have WR := write_any wo A gs cap RF (by have := hgl.out; omega)
          rw [hmap, ← hew.out, hgl.out] at WR
          obtain ⟨E, hE⟩ : ∃ E, (encR m).1 = E := ⟨_, rfl⟩
          obtain ⟨l, hl2⟩ : ∃ l, (encR m).2 = l := ⟨_, rfl⟩
          have hpair : encR m = (E, l) := by rw [← hE, ← hl2]
          rw [hpair] at WR
          have Qo : Only [] w wo := Q5.trans O (by simp)
          have zo := Qo.size
          replace hmap := hide hmap
          replace hpair := hide hpair
          replace hE := hide hE
          replace hl2 := hide hl2
          clear M N
          go_wp2_with fail
          go_call WR as e w9 ⟨P9, v9, rfl, V9⟩
          clear WR
          have Q9 : Only [] w w9 := Qo.trans P9 (by simp)
          have B9 := Bo.only P9 (by simp)
          have x0 := B9.cell 0
          simp only [List.getElem?_cons_zero, List.getElem?_cons_succ] at x0
          dsimp only
          by_cases hz : E = 0
          · have hfin : EncPost w m (.returned (.tuple #[.string nm, v9, .int .i64 0])) w9 := by
              unfold EncPost
              rw [hE.out, hl2.out, hnk.out (by rw [hE.out]; exact hz), hnm.out, hz]
              exact ⟨Q9, v9, rfl, V9.mono zo⟩
            subst hz
            replace hfin := hide hfin
            go_wp2_with fail
            go_ret3
            exact hfin.out
          · have hzb : (E != 0) = true := by simpa using hz
            have hl0 : l = [] := by rw [← hl2.out]; exact encR_bad (by rw [hE.out]; exact hz)
            have hfin : EncPost w m (.returned (.tuple #[.string ⟨#[]⟩, .slice none 0 0, .int .i64 E])) w9 := encPost_bad w w9 m E (by rw [hpair.out, hl0]) hz Q9
            replace hfin := hide hfin
            replace hl0 := hide hl0
            replace hz := hide hz
            go_wp2_with fail
            go_ret3
            exact hfin.out
    · have hEb : (E0 != 0) = true := by simpa using hE
      have hfin : EncPost w m (.returned (.tuple #[.string ⟨#[]⟩, .slice none 0 0, .int .i64 E0])) w5 := encPost_bad w w5 m E0 (hea.out hE) hE Q5
      replace hfin := hide hfin
      replace hE := hide hE
      go_wp2_with fail
      go_ret3
      exact hfin.out
  · have OF := rof_none m.kind hk w1
    have hfin : ∀ w', Only [] w w' → EncPost w m (.returned (.tuple #[.string ⟨#[]⟩, .slice none 0 0, .int .i64 8])) w' := fun w' P => encPost_bad w w' m 8 (encR_none hk) (by decide) P
    replace hfin := hide hfin
    replace hk := hide hk
    go_enter Tryz.func20, Tryz.ntmps20
    go_wp2_with fail
    rw [← hw1]
    replace hw1 := hide hw1
    go_call OF as e w2 ⟨P2, rfl⟩
    go_wp2_with fail
    go_ret3
    exact hfin.out _ ((P1.trans P2 (by simp)).alloc _)
end Go.Proofs.YtdplnedpbkpgpaaGreatDoor

namespace Go.Proofs.YtdplnedpbkpgpaaGreatDoor
set_option linter.all false
set_option maxRecDepth 100000
open Go.RowKit
theorem flat8 (l : List Int) : l.flatMap cu8 = l.map (.int .u8) := by
  induction l with
  | nil => rfl
  | cons x l ih => rw [List.flatMap_cons, ih]; rfl
theorem rdX_rd {w : World} {A : Option Addr} {l : List Int} (h : RdX cu8 w A l) : Rd w A l := fun h0 => by
  obtain ⟨b, off, e, hlt, hc⟩ := h h0
  exact ⟨b, off, e, hlt, fun i v hi => hc i _ (by rw [flat8, List.getElem?_map, hi]; rfl)⟩
theorem rencode_s {m : RQ} (w : World) (hm : m.ok w) (hs : m.text.size ≤ 140737488355328) (hv : m.value.size ≤ 140737488355328) (hl : m.lang.size ≤ 140737488355328) {l : List Int} {nm : ByteArray} (e1 : encR m = (0, l)) (e2 : encName m = nm) : Calls Tryz.prog 20 #[m.val] w fun e w' => ∃ A cap, e = .returned (.tuple #[.string nm, .slice A l.length cap, .int .i64 0]) ∧ Only [] w w' ∧ OwnX cu8 5 1 w' w.heap.size (.slice A l.length cap) l := by
  refine (rencode_any m w hm hs hv hl).mono fun e w' h => ?_
  obtain ⟨O, v, he, hO⟩ := h
  rw [e1, e2] at he
  rw [e1] at hO
  have hX : OwnX cu8 5 1 w' w.heap.size v l := by
    unfold OwnX
    rw [flat8]
    exact hO
  obtain ⟨A, cap, e3, _⟩ := hX.form
  subst e3
  exact ⟨A, cap, he, O, hX⟩
def exeR : RQ := { zeroR with kind := 4, text := ⟨#[99, 97, 116, 32, 120]⟩ }
def sigR : RQ := { zeroR with kind := 8, text := ⟨#[73, 78, 84]⟩ }
theorem exeR_enc : encR exeR = (0, [0, 0, 0, 5, 99, 97, 116, 32, 120]) := by decide +kernel
theorem sigR_enc : encR sigR = (0, [0, 0, 0, 3, 73, 78, 84]) := by decide +kernel
theorem exeR_name : encName exeR = ⟨#[101, 120, 101, 99]⟩ := by
  unfold encName
  rw [exeR_enc]
  rfl
theorem sigR_name : encName sigR = ⟨#[115, 105, 103, 110, 97, 108]⟩ := by
  unfold encName
  rw [sigR_enc]
  rfl
theorem exR_ok27 (w : World) (m : RQ) (hm : m = exeR ∨ m = sigR) : m.ok w := by
  rcases hm with rfl | rfl
  · exact { zeroR_ok w with text := by decide, nums := by simp [exeR, zeroR, U32, RNums] }
  · exact { zeroR_ok w with text := by decide, nums := by simp [sigR, zeroR, U32, RNums] }
theorem exeR_dec {x : RQ} {E : Int} (h : DecR ⟨#[101, 120, 101, 99]⟩ [0, 0, 0, 5, 99, 97, 116, 32, 120] x E) : E = 0 ∧ x.kind = 4 ∧ x.text = ⟨#[99, 97, 116, 32, 120]⟩ := by
  have := rback_law (m := exeR) (x := x) (E := E) (by simp [exeR, zeroR, U32, RNums]) (by rw [exeR_enc]) (by rw [exeR_enc, exeR_name]; exact h)
  obtain ⟨e, hs, _⟩ := this
  exact ⟨e, hs.kind.symm.trans rfl, hs.text.symm.trans rfl⟩
theorem sigR_dec {x : RQ} {E : Int} (h : DecR ⟨#[115, 105, 103, 110, 97, 108]⟩ [0, 0, 0, 3, 73, 78, 84] x E) : E = 0 ∧ x.kind = 8 ∧ x.text = ⟨#[73, 78, 84]⟩ := by
  have := rback_law (m := sigR) (x := x) (E := E) (by simp [sigR, zeroR, U32, RNums]) (by rw [sigR_enc]) (by rw [sigR_enc, sigR_name]; exact h)
  obtain ⟨e, hs, _⟩ := this
  exact ⟨e, hs.kind.symm.trans rfl, hs.text.symm.trans rfl⟩
def zS : SS := ⟨false, ⟨#[]⟩, 0, 0, 0, 0, zeroT, [], false⟩
def zS1 : SS := { zS with st := true }
def psC : List PR := [⟨⟨#[99, 97, 116]⟩, none, 0, 0⟩, ⟨⟨#[115, 104]⟩, none, 0, 0⟩]
theorem exA27 {x : RQ} (hk : x.kind = 4) (ht : x.text = ⟨#[99, 97, 116, 32, 120]⟩) : askM zS x 0 psC = (zS1, ⟨true, 1, 0, 0, 0, 0, 0, 0⟩) := by
  unfold askM
  rw [if_neg (by simp), hk]
  show startS zS (cutS x.text) psC = _
  rw [ht]
  kernel_rfl
theorem exB27 {x : RQ} (hk : x.kind = 8) (ht : x.text = ⟨#[73, 78, 84]⟩) : askM zS x 0 psC = (zS, noA) := by
  unfold askM
  rw [if_neg (by simp), hk]
  show sigM zS x = _
  rfl
theorem exC27 {x : RQ} (hk : x.kind = 8) (ht : x.text = ⟨#[73, 78, 84]⟩) : askM zS1 x 0 psC = (zS1, ⟨true, 3, 0, 2, 0, 0, 0, 0⟩) := by
  unfold askM
  rw [if_neg (by simp), hk]
  show sigM zS1 x = _
  unfold sigM
  rw [ht]
  kernel_rfl
def busT : ByteArray := ⟨#[66, 85, 83, 64, 112, 97, 114, 108, 111, 117, 114]⟩
theorem end2007 : endR 2007 = { zeroR with kind := 10, text := busT, on := true } := by kernel_rfl
theorem end3 : endR 3 = { zeroR with kind := 9, code := 3 } := by kernel_rfl
theorem end1002 : endR 1002 = { zeroR with kind := 10, text := ⟨#[73, 78, 84]⟩ } := by kernel_rfl
end Go.Proofs.YtdplnedpbkpgpaaGreatDoor

namespace Go.Proofs.YtdplnedpbkpgpaaGreatDoor
set_option linter.all false
set_option maxRecDepth 100000
open Go.RowKit
/-- What an example asks: a session of no variables. -/
theorem askX {s : SS} {z : SS × AC} {nam : ByteArray} {l : List Int} (hs : s.env = []) (hz : z.1.env = []) (hl : ∀ x ∈ l, 0 ≤ x ∧ x < 256) (h0 : 0 < l.length) (hn : l.length ≤ 100) (hdec : ∀ x E, DecR nam l x E → E = 0 ∧ askM s x 0 psC = z) (A : Option Addr) (cap : Nat) (B : Option Addr) (c : Nat) (pb : Nat) (w : World) (i0 : Int) (h00 : w.cell? ⟨0, 0, none⟩ = some (.int .i64 i0)) (hB : RdX cu8 w B l) (hc1 : l.length ≤ c) (hc2 : c ≤ maxLen) (hp : RdX cPr w (some ⟨pb, 0, none⟩) psC) :
    Calls Tryz.prog 11 #[s.val A cap, .string nam, .slice B l.length c, .slice (some ⟨pb, 0, none⟩) 2 2] w fun e w' => ∃ x : Option Addr × Nat, e = .returned (.tuple #[z.1.val x.1 x.2, z.2.val]) ∧ Only [] w w' ∧ True := by
  refine (ask_any27 s A cap nam B c l (some ⟨pb, 0, none⟩) 2 psC w i0 h00 (fun h => by rw [hs] at h; exact absurd h (by simp)) (by rw [hs]; exact Nat.zero_le _) (rdX_rd hB) hl (by omega) hc1 hc2 (fun a ha => by
    obtain ⟨b, off, e, hlt, _⟩ := hB h0
    rw [ha] at e
    injection e with e
    rw [e]
    exact hlt) hp (by decide)).mono fun e w' h => ?_
  obtain ⟨O, m, E, A', cap', hD, he, _⟩ := h
  obtain ⟨rfl, hm⟩ := hdec m E hD
  rw [hm] at he
  exact ⟨(A', cap'), he, O, trivial⟩
theorem alive27_any (w : World) (i0 : Int) (h00 : w.cell? ⟨0, 0, none⟩ = some (.int .i64 i0)) : Calls Tryz.prog 8 #[] w fun e w' => e = .returned (.bool true) ∧ Only [] w w' := by
  refine Hs.enter Tryz.func8 [] [] [] [] (Mem.start0 w) (by kernel_rfl) (by kernel_rfl) ?_
  refine Hs.run1 300 (fun _ => by kernel_rfl) fun b0 => ?_
  refine Hs.callS (cf := cu8) (E := 5) (size := 1) (fun A cap => .tuple #[.string ⟨#[101, 120, 101, 99]⟩, .slice A 9 cap, .int .i64 0]) [0, 0, 0, 5, 99, 97, 116, 32, 120] 9 rfl (fun w' H => rencode_s w' (exR_ok27 w' exeR (.inl rfl)) (by decide) (by decide) (by decide) exeR_enc exeR_name) (by kernel_rfl) (by kernel_rfl) fun B1 c1 h1 h2 => ?_
  refine Hs.run0 300 (fun _ => by kernel_rfl) ?_
  refine Hs.callS (cf := cu8) (E := 5) (size := 1) (fun A cap => .tuple #[.string ⟨#[115, 105, 103, 110, 97, 108]⟩, .slice A 7 cap, .int .i64 0]) [0, 0, 0, 3, 73, 78, 84] 7 rfl (fun w' H => rencode_s w' (exR_ok27 w' sigR (.inr rfl)) (by decide) (by decide) (by decide) sigR_enc sigR_name) (by kernel_rfl) (by kernel_rfl) fun B2 c2 h3 h4 => ?_
  refine Hs.run0 300 (fun _ => by kernel_rfl) ?_
  refine Hs.callX (v := fun x : Option Addr × Nat => .tuple #[SS.val zS1 x.1 x.2, AC.val ⟨true, 1, 0, 0, 0, 0, 0, 0⟩]) (Q := fun _ => True) (fun w' H => askX (s := zS) (z := (zS1, ⟨true, 1, 0, 0, 0, 0, 0, 0⟩)) rfl rfl (by decide) (by decide) (by decide) (fun x E h => ⟨(exeR_dec h).1, exA27 (exeR_dec h).2.1 (exeR_dec h).2.2⟩) none 0 B1 c1 b0 w' i0 (cell_step H.only h00) (H.rdX 1 (A := B1) (cap := c1) (E := 5) (size := 1) (l := [0, 0, 0, 5, 99, 97, 116, 32, 120]) rfl (by kernel_rfl)) h1 h2 (H.rdB (gs := psC) 0 (wr := true) (T := 81) (cs := psC.flatMap PR.sc) (by kernel_rfl) rfl)) (by kernel_rfl) fun x1 _ => ?_
  obtain ⟨A1, p1⟩ := x1
  refine Hs.run2 300 (fun _ => by kernel_rfl) fun b3 b4 => ?_
  refine Hs.callX (v := fun x : Option Addr × Nat => .tuple #[SS.val zS x.1 x.2, AC.val noA]) (Q := fun _ => True) (fun w' H => askX (s := zS) (z := (zS, noA)) rfl rfl (by decide) (by decide) (by decide) (fun x E h => ⟨(sigR_dec h).1, exB27 (sigR_dec h).2.1 (sigR_dec h).2.2⟩) none 0 B2 c2 b0 w' i0 (cell_step H.only h00) (H.rdX 2 (A := B2) (cap := c2) (E := 5) (size := 1) (l := [0, 0, 0, 3, 73, 78, 84]) rfl (by kernel_rfl)) h3 h4 (H.rdB (gs := psC) 0 (wr := true) (T := 81) (cs := psC.flatMap PR.sc) (by kernel_rfl) rfl)) (by kernel_rfl) fun x2 _ => ?_
  obtain ⟨A2, p2⟩ := x2
  refine Hs.run2 300 (fun _ => by kernel_rfl) fun b5 b6 => ?_
  refine Hs.callX (v := fun x : Option Addr × Nat => .tuple #[SS.val zS1 x.1 x.2, AC.val ⟨true, 3, 0, 2, 0, 0, 0, 0⟩]) (Q := fun _ => True) (fun w' H => askX (s := zS1) (z := (zS1, ⟨true, 3, 0, 2, 0, 0, 0, 0⟩)) rfl rfl (by decide) (by decide) (by decide) (fun x E h => ⟨(sigR_dec h).1, exC27 (sigR_dec h).2.1 (sigR_dec h).2.2⟩) A1 p1 B2 c2 b0 w' i0 (cell_step H.only h00) (H.rdX 2 (A := B2) (cap := c2) (E := 5) (size := 1) (l := [0, 0, 0, 3, 73, 78, 84]) rfl (by kernel_rfl)) h3 h4 (H.rdB (gs := psC) 0 (wr := true) (T := 81) (cs := psC.flatMap PR.sc) (by kernel_rfl) rfl)) (by kernel_rfl) fun x3 _ => ?_
  obtain ⟨A3, p3⟩ := x3
  refine Hs.run2 300 (fun _ => by kernel_rfl) fun b7 b8 => ?_
  refine Hs.callV (v := RQ.val { zeroR with kind := 10, text := busT, on := true }) (fun w' H => by have := end_any27 2007 w'; rw [end2007] at this; exact this) (by kernel_rfl) ?_
  refine Hs.run1 300 (fun _ => by kernel_rfl) fun b9 => ?_
  refine Hs.rung0 [2, 7, 12, 16, 21, 26, 31, 36, 41, 46] 300 (fun _ => by kernel_rfl) ?_
  refine Hs.callV (v := RQ.val { zeroR with kind := 9, code := 3 }) (fun w' H => by have := end_any27 3 w'; rw [end3] at this; exact this) (by kernel_rfl) ?_
  refine Hs.rung0 [2, 7, 12, 16, 21, 26, 31, 36, 41, 46] 300 (fun _ => by kernel_rfl) ?_
  refine Hs.callV (v := RQ.val { zeroR with kind := 10, text := ⟨#[73, 78, 84]⟩ }) (fun w' H => by have := end_any27 1002 w'; rw [end1002] at this; exact this) (by kernel_rfl) ?_
  refine Hs.rung0 [2, 7, 12, 16, 21, 26, 31, 36, 41, 46] 300 (fun _ => by kernel_rfl) ?_
  exact Hs.ret (v := .bool true) Tryz.func8 (by kernel_rfl) fun w' H => ⟨rfl, H.only⟩
end Go.Proofs.YtdplnedpbkpgpaaGreatDoor

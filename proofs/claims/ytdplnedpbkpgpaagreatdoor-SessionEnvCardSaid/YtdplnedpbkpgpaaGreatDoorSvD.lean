/- Layer 27: a terminal is asked for. No condition · Layer 27: a variable is looked for. No condition but the number of variables · Layer 27: a session that is asked; for all sessions and requests; the bytes lie in memory, the lengths are small · The machine: a struct with arrays is equal to itself; over any program; no condition · The machine: two structs compared (flat ones and nested ones; bools, numbers, strings); over any program; no condition · Layer 27: sessions handed from one package to another one; the document's Same; for all sessions; no condition but the number of variables · Layer 4: Encode; no condition but the sizes that can be · Layer 27: the document's examples; global 0 holds a number · Layer 27: the document's examples; global 0 holds a number · Layer 27: just names that are known do anything; the law's walk; for all sessions and texts; global 0 holds a number · The machine: maps of ours, entries set anew, taken away, counted; over any program; no condition · Layer 27: each variable stands there once, with its last value; the law's walk; for all variables; global 0 holds a number. -/
import Derived.Test.YtdplnedpbkpgpaaGreatDoorSvC
import Derived.Test.YtdplnedpbkpgpaaGreatDoorSvA
import Derived.ChangeKeysEq
import Derived.Test.YtdplnedpbkpgpaaGreatDoorEngG
import Derived.Test.YtdplnedpbkpgpaaGreatDoorEngL
namespace Go.Proofs.YtdplnedpbkpgpaaGreatDoor
set_option linter.all false
set_option maxRecDepth 100000
open Go.RowKit

section
variable (s : SS) (A : Option Addr) (cap : Nat) (m : RQ) (pA : Option Addr) (pc : Nat) (ps : List PR) (w : World) (g : Nat)
theorem ok_any27 (a : AC) (hB : AskAt w g s A cap m pA ps.length pc a) : Calls Tryz.prog 95 #[.pointer (some ⟨g, 0, none⟩)] w (AskPost w g A cap m pA ps.length pc (s, { a with ok := true })) := by
  refine Hs.enter Tryz.func95 [g] [g] [.b true 88 (askSC s A cap m pA ps.length pc a)] [.c (.p 0 0)] (Mem.ask hB) (by kernel_rfl) (by kernel_rfl) ?_
  refine Hs.run0 300 (fun _ => by kernel_rfl) ?_
  exact Hs.ret (v := .tuple #[]) Tryz.func95 (by kernel_rfl) fun w' H => H.askE rfl (by kernel_rfl)
set_option maxHeartbeats 8000000 in
theorem pty_any27 (hB : AskAt w g s A cap m pA ps.length pc noA) (hm : RdU w m.mA m.mc m.modes) (hb : ∀ x ∈ m.modes, 0 ≤ x ∧ x < 256) (hf : ∀ a, m.mA = some a → 0 < m.modes.length → a.block ≠ g) : Calls Tryz.prog 52 #[.pointer (some ⟨g, 0, none⟩)] w (AskPost w g A cap m pA ps.length pc (ptyM s m)) := by
  refine Hs.enter Tryz.func52 [g] [g] [.b true 88 (askSC s A cap m pA ps.length pc noA)] [.c (.p 0 0)] (Mem.ask hB) (by kernel_rfl) (by kernel_rfl) ?_
  unfold ptyM
  refine Hs.run0 300 (fun _ => by kernel_rfl) ?_
  refine Hs.bool 9 s.pty (by kernel_rfl) (fun h1 => ?_) (fun h1 => ?_)
  · refine Hs.rung0 [5] 300 (fun _ => by kernel_rfl) ?_
    refine Hs.condT (by kernel_rfl) ?_
    refine Hs.run0 300 (fun _ => by kernel_rfl) ?_
    rw [if_pos h1]
    exact Hs.ret (v := .tuple #[]) Tryz.func52 (by kernel_rfl) fun w' H => H.askE rfl (by kernel_rfl)
  rw [if_neg (by rw [h1]; decide)]
  refine Hs.rung0 [5] 300 (fun _ => by kernel_rfl) ?_
  refine Hs.cond s.st (by kernel_rfl) (fun h2 => ?_) (fun h2 => ?_)
  · rw [if_pos h2]
    refine Hs.run0 300 (fun _ => by kernel_rfl) ?_
    exact Hs.ret (v := .tuple #[]) Tryz.func52 (by kernel_rfl) fun w' H => H.askE rfl (by kernel_rfl)
  rw [if_neg (by rw [h2]; decide)]
  refine Hs.run0 300 (fun _ => by kernel_rfl) ?_
  refine Hs.any [0] (by kernel_rfl) ?_
  obtain ⟨z, hz⟩ : ∃ z, z = modesD tDef m.modes := ⟨_, rfl⟩
  rw [← hz]
  obtain ⟨t2, e2⟩ := z
  dsimp only
  refine Hs.run0 300 (fun _ => by kernel_rfl) ?_
  apply Hs.share1 (β' := [g])
  · intro K
    refine Hs.branch2 5 10 (by kernel_rfl) ?_ ?_
    · refine Hs.callV (fun w' H => default_any27 w') (by kernel_rfl) ?_
      refine Hs.run0 300 (fun _ => by kernel_rfl) ?_
      refine Hs.branch2 6 10 (by kernel_rfl) ?_ ?_
      · refine Hs.callV (v := .tuple #[t2.val, .int .i64 e2]) (fun w' H => by have := mdecode_any tDef m.mA m.mc m.modes w' ⟨hm.1.far H.only (fun a ha h0 hm => hf a ha h0 (List.mem_singleton.1 hm)), hm.2⟩ hb; rw [← hz] at this; exact this) (by kernel_rfl) ?_
        refine Hs.run1 300 (fun _ => by kernel_rfl) fun b1 => ?_
        exact K b1
      · refine Hs.run1 300 (fun _ => by kernel_rfl) fun b1 => ?_
        refine Hs.callV (v := .tuple #[t2.val, .int .i64 e2]) (fun w' H => by have := mdecode_any tDef m.mA m.mc m.modes w' ⟨hm.1.far H.only (fun a ha h0 hm => hf a ha h0 (List.mem_singleton.1 hm)), hm.2⟩ hb; rw [← hz] at this; exact this) (by kernel_rfl) ?_
        refine Hs.run0 300 (fun _ => by kernel_rfl) ?_
        exact Hs.eqM (K b1) (by kernel_rfl) (by kernel_rfl)
    · refine Hs.run1 300 (fun _ => by kernel_rfl) fun b1 => ?_
      refine Hs.callV (fun w' H => default_any27 w') (by kernel_rfl) ?_
      refine Hs.run0 300 (fun _ => by kernel_rfl) ?_
      refine Hs.callV (v := .tuple #[t2.val, .int .i64 e2]) (fun w' H => by have := mdecode_any tDef m.mA m.mc m.modes w' ⟨hm.1.far H.only (fun a ha h0 hm => hf a ha h0 (List.mem_singleton.1 hm)), hm.2⟩ hb; rw [← hz] at this; exact this) (by kernel_rfl) ?_
      refine Hs.run0 300 (fun _ => by kernel_rfl) ?_
      exact Hs.eqM (K b1) (by kernel_rfl) (by kernel_rfl)
  intro b1
  refine Hs.bool 28 (e2 != 0) (by kernel_rfl) (fun h3 => ?_) (fun h3 => ?_)
  · rw [if_pos (by simpa using h3)]
    refine Hs.rung0 [2] 300 (fun _ => by kernel_rfl) ?_
    refine Hs.condT (by kernel_rfl) ?_
    refine Hs.run0 300 (fun _ => by kernel_rfl) ?_
    exact Hs.ret (v := .tuple #[]) Tryz.func52 (by kernel_rfl) fun w' H => H.askE rfl (by kernel_rfl)
  rw [if_neg (by simpa using h3)]
  refine Hs.rung0 [2] 300 (fun _ => by kernel_rfl) ?_
  refine Hs.callV (v := .bool (rightB t2)) (fun w' H => (right_any t2 w').mono fun e w1 ⟨h1, h2⟩ => ⟨h1, only_of_below h2⟩) (by kernel_rfl) ?_
  refine Hs.rung0 [2] 300 (fun _ => by kernel_rfl) ?_
  refine Hs.cond (!rightB t2) (by kernel_rfl) (fun h4 => ?_) (fun h4 => ?_)
  · rw [if_neg (by simpa using h4)]
    refine Hs.run0 300 (fun _ => by kernel_rfl) ?_
    exact Hs.ret (v := .tuple #[]) Tryz.func52 (by kernel_rfl) fun w' H => H.askE rfl (by kernel_rfl)
  rw [if_pos (by simpa using h4)]
  obtain ⟨S2, hS⟩ : ∃ S2 : SS, S2 = { s with pty := true, term := m.text, c0 := m.cols, c1 := m.rows, c2 := m.width, c3 := m.height, t := t2 } := ⟨_, rfl⟩
  rw [← hS]
  subst hS
  refine Hs.run0 300 (fun _ => by kernel_rfl) ?_
  refine Hs.any [1] (by kernel_rfl) ?_
  refine Hs.run0 300 (fun _ => by kernel_rfl) ?_
  refine Hs.branch2 8 13 (by kernel_rfl) ?_ ?_
  · refine Hs.run0 300 (fun _ => by kernel_rfl) ?_
    refine Hs.callP 0 88 (askSC ({ s with pty := true, term := m.text, c0 := m.cols, c1 := m.rows, c2 := m.width, c3 := m.height, t := t2 } : SS) A cap m pA ps.length pc okA) (v := .tuple #[]) (fun w' H => (ok_any27 _ A cap m pA pc ps w' g noA (H.askB rfl (by kernel_rfl))).mono fun e w1 h => by rw [dens_ask]; exact h) (by kernel_rfl) (by kernel_rfl) ?_
    refine Hs.run0 300 (fun _ => by kernel_rfl) ?_
    exact Hs.ret (v := .tuple #[]) Tryz.func52 (by kernel_rfl) fun w' H => H.askE rfl (by kernel_rfl)
  · refine Hs.run0 300 (fun _ => by kernel_rfl) ?_
    refine Hs.callP 0 88 (askSC ({ s with pty := true, term := m.text, c0 := m.cols, c1 := m.rows, c2 := m.width, c3 := m.height, t := t2 } : SS) A cap m pA ps.length pc okA) (v := .tuple #[]) (fun w' H => (ok_any27 _ A cap m pA pc ps w' g noA (H.askB rfl (by kernel_rfl))).mono fun e w1 h => by rw [dens_ask]; exact h) (by kernel_rfl) (by kernel_rfl) ?_
    refine Hs.run0 300 (fun _ => by kernel_rfl) ?_
    exact Hs.ret (v := .tuple #[]) Tryz.func52 (by kernel_rfl) fun w' H => H.askE rfl (by kernel_rfl)
end
end Go.Proofs.YtdplnedpbkpgpaaGreatDoor

namespace Go.Proofs.YtdplnedpbkpgpaaGreatDoor
set_option linter.all false
set_option maxRecDepth 100000
open Go.RowKit
def envFV (b : Nat) : Value := .func (.func 97) #[] #[.pointer (some ⟨b, 0, none⟩)]
theorem Mem.env {w : World} {b g : Nat} {s : SS} {A : Option Addr} {cap : Nat} {m : RQ} {pA : Option Addr} {pl pc : Nat} {a : AC} (h : Blk w b 86 [.pointer (some ⟨g, 0, none⟩)]) (hB : AskAt w g s A cap m pA pl pc a) (hbg : b ≠ g) : Mem w [] [b, g] [.b false 86 [.p 1 0], .b false 88 (askSC s A cap m pA pl pc a)] w := by
  refine Mem.start _ _ _ _ rfl (fun k x hk => ?_) (fun k x y hk hw => ?_) (fun i j x y z hi hj ei ej => ?_)
  · match k, hk with
    | 0, hk => injection hk with hk; subst hk; exact h
    | 1, hk =>
      injection hk with hk
      subst hk
      show Blk w g 88 (dens [b, g] (askSC s A cap m pA pl pc a))
      rw [dens_ask]
      exact hB
  · match k, hk with
    | 0, hk => injection hk with hk; subst hk; cases hw
    | 1, hk => injection hk with hk; subst hk; cases hw
  · match i, j, hi, hj with
    | 0, 0, _, _ => rfl
    | 1, 1, _, _ => rfl
    | 0, 1, hi, hj =>
      injection hi with hi; injection hj with hj; subst hi; subst hj
      injection ei with ei; injection ej with ej
      exact absurd (ei.trans ej.symm) hbg
    | 1, 0, hi, hj =>
      injection hi with hi; injection hj with hj; subst hi; subst hj
      injection ei with ei; injection ej with ej
      exact absurd (ej.trans ei.symm) hbg
set_option maxHeartbeats 4000000 in
theorem indexV_any (s : SS) (A1 : Option Addr) (cap1 : Nat) (m : RQ) (pA : Option Addr) (pl pc : Nat) (a : AC) (b g : Nat) (hbg : b ≠ g) (A : Option Addr) (c : Nat) (ps : List VR) (w : World) (h : Blk w b 86 [.pointer (some ⟨g, 0, none⟩)]) (hB : AskAt w g s A1 cap1 m pA pl pc a) (hr : RdX cVar w A ps) (hl : ps.length ≤ maxLen) : Calls Tryz.prog 96 #[.slice A ps.length c, envFV b] w fun e w' => e = .returned (.int .i64 (varI m.text ps)) ∧ Only [] w w' := by
  have J : ∀ (d i : Nat), ps.length - i = d → i ≤ ps.length → (∀ x ∈ ps.take i, (x.n.toList == m.text.toList) = false) → ∀ (u : Nat → Value), Hs Tryz.prog 96 (fun e w' => e = .returned (.int .i64 (varI m.text ps)) ∧ Only [] w w') (Tryz.f96).ntmps w [] [b, g] ⟨.no, loopAt Tryz.f96 0, pins [(0, .c (.v (.slice A ps.length c))), (1, .c (.v (envFV b))), (7, .c (.v (.int .i64 ps.length))), (8, .c (.v (.int .i64 i)))] (.vals u), [.b false 86 [.p 1 0], .b false 88 (askSC s A1 cap1 m pA pl pc a)]⟩ := by
    intro d
    induction d with
    | zero =>
      intro i hd hi hno u
      obtain rfl : i = ps.length := by omega
      rw [List.take_length] at hno
      have e : varI m.text ps = -1 := by
        unfold varI
        have := idxS_app m.text [] ((ps.map VR.n)) 0 (fun s hs => by
          obtain ⟨x, hx, rfl⟩ := List.mem_map.1 hs
          exact hno x hx)
        rw [List.append_nil] at this
        rw [this]
        rfl
      rw [e]
      refine Hs.run0 300 (fun _ => by kernel_rfl) ?_
      refine Hs.condP ((ps.length : Int) < (ps.length : Int)) (by kernel_rfl) (fun h => by omega) (fun _ => ?_)
      refine Hs.run0 300 (fun _ => by kernel_rfl) ?_
      exact Hs.ret (v := .int .i64 (-1)) Tryz.func96 (by kernel_rfl) fun w' H => ⟨rfl, H.only⟩
    | succ d ih =>
      intro i hd hi hno u
      have hil : i < ps.length := by omega
      obtain ⟨x, hx⟩ : ∃ x, ps[i]? = some x := ⟨_, List.getElem?_eq_getElem hil⟩
      obtain ⟨ab, aoff, hA, _, _⟩ := hr (by omega)
      have hih := fun h u => ih (i + 1) (by omega) (by omega) h u
      clear ih
      rw [hA] at hih hr ⊢
      refine Hs.run0 300 (fun _ => by kernel_rfl) ?_
      refine Hs.condP ((i : Int) < (ps.length : Int)) (by kernel_rfl) (fun _ => ?_) (fun h => by omega)
      refine Hs.run0 300 (fun _ => by kernel_rfl) ?_
      refine Hs.idx (b := ab) (off := aoff) (len := ps.length) (c := c) (i := i) elemVr hil (by kernel_rfl) ?_
      refine Hs.ldx (cf := cVar) (size := 2) (E := 59) (b := ab) (off := aoff) (i := i) (l := ps) (x := x) cVar_len (.g x.sc) (by kernel_rfl) (fun w' H => hr.only H.only) hx (by kernel_rfl) (by kernel_rfl) rfl (by kernel_rfl) ?_
      refine Hs.inl Tryz.func97 [.g x.sc, .c (.p 0 0)] (by kernel_rfl) (by kernel_rfl) ?_
      refine Hs.run1 300 (fun _ => by kernel_rfl) fun b2 => ?_
      refine Hs.any [0, 1, 2] (by kernel_rfl) ?_
      refine Hs.run0 300 (fun _ => by kernel_rfl) ?_
      refine Hs.retI Tryz.func97 (by kernel_rfl) (by kernel_rfl) (by kernel_rfl) ?_
      refine Hs.run0 300 (fun _ => by kernel_rfl) ?_
      refine Hs.cond (x.n.toList == m.text.toList) (by kernel_rfl) (fun h1 => ?_) (fun h1 => ?_)
      · have e : varI m.text ps = i := by
          unfold varI
          have e2 : (ps.map VR.n) = ((ps.take i).map VR.n) ++ (x.n :: ((ps.drop (i + 1)).map VR.n)) := by
            have e3 : ps = ps.take i ++ x :: ps.drop (i + 1) := by
              have h3 := List.drop_eq_getElem_cons hil
              rw [List.getElem?_eq_getElem hil] at hx
              injection hx with hx
              rw [hx] at h3
              rw [← h3, List.take_append_drop]
            rw [← List.map_cons, ← List.map_append, ← e3]
          rw [e2, idxS_app m.text _ _ 0 (fun s hs => by
            obtain ⟨y, hy, rfl⟩ := List.mem_map.1 hs
            exact hno y hy), idx_yes (by rw [← h1]; exact Bool.beq_comm)]
          rw [List.length_map, List.length_take]
          omega
        rw [e]
        refine Hs.run0 300 (fun _ => by kernel_rfl) ?_
        exact Hs.ret (v := .int .i64 i) Tryz.func96 (by kernel_rfl) fun w' H => ⟨rfl, H.only⟩
      · refine Hs.run0 300 (fun _ => by kernel_rfl) ?_
        refine Hs.slot 8 (.c (.v (.int .i64 (i + 1 : Nat)))) rfl ((by kernel_rfl : _ = Value.int .i64 (IntKind.i64.wrap ((i : Int) + 1))).trans (wrap_nextJ hl)) ?_
        refine Hs.loop (by kernel_rfl) ?_
        exact Hs.goto (loopAt Tryz.f96 0) [0, 1] [.b false 86 [.p 1 0], .b false 88 (askSC s A1 cap1 m pA pl pc a)] [(0, .c (.v (.slice (some ⟨ab, aoff, none⟩) ps.length c))), (1, .c (.v (envFV b))), (7, .c (.v (.int .i64 ps.length))), (8, .c (.v (.int .i64 (i + 1 : Nat))))] (by kernel_rfl) (by decide) (by kernel_rfl) (by kernel_rfl) (fun _ => (by kernel_rfl)) (fun u => hih (by
          rw [List.take_add_one, hx]
          intro y hy
          rcases List.mem_append.1 hy with hy | hy
          · exact hno y hy
          · rw [Option.mem_toList] at hy
            injection hy with hy
            subst hy
            exact h1) u)
  refine Hs.enter Tryz.func96 [] [b, g] [.b false 86 [.p 1 0], .b false 88 (askSC s A1 cap1 m pA pl pc a)] [.c (.v (.slice A ps.length c)), .c (.v (envFV b))] (Mem.env h hB hbg) (by kernel_rfl) (by kernel_rfl) ?_
  refine Hs.run0 300 (fun _ => by kernel_rfl) ?_
  refine Hs.loop (by kernel_rfl) ?_
  exact Hs.goto (loopAt Tryz.f96 0) [0, 1] [.b false 86 [.p 1 0], .b false 88 (askSC s A1 cap1 m pA pl pc a)] [(0, .c (.v (.slice A ps.length c))), (1, .c (.v (envFV b))), (7, .c (.v (.int .i64 ps.length))), (8, .c (.v (.int .i64 (0 : Nat))))] (by kernel_rfl) (by decide) (by kernel_rfl) (by kernel_rfl) (fun _ => (by kernel_rfl)) (fun u => J ps.length 0 (by omega) (by omega) (by simp) u)
end Go.Proofs.YtdplnedpbkpgpaaGreatDoor

namespace Go.Proofs.YtdplnedpbkpgpaaGreatDoor
set_option linter.all false
set_option maxRecDepth 100000
open Go.RowKit
def mAo (m : RQ) : Option Addr := if m.modes.length = 0 then none else m.mA
theorem RQ.ok.stable2 {w w' : World} {m : RQ} (h1 : ∀ a, mAo m = some a → w'.heap[a.block]? = w.heap[a.block]?) (h2 : w.heap.size ≤ w'.heap.size) (h : m.ok w) : m.ok w' :=
  ⟨fun h0 => by
    obtain ⟨b, off, e, hlt, hc⟩ := h.modes h0
    exact ⟨b, off, e, Nat.lt_of_lt_of_le hlt h2, fun i x hx => (World.cell?_of_block (w := w) (show w'.heap[b]? = w.heap[b]? from h1 ⟨b, off, none⟩ (by unfold mAo; rw [if_neg (by omega)]; exact e))).trans (hc i x hx)⟩, h.mle, h.mmax, h.bytes, h.nums, h.text, h.value, h.lang⟩
theorem cell_step {w w' : World} {v : Value} (O : Only [] w w') (h : w.cell? ⟨0, 0, none⟩ = some v) : w'.cell? ⟨0, 0, none⟩ = some v := by
  rw [← h]
  exact World.cell?_of_block (w := w) (w' := w') (O.block 0 (block_lt_of_cell h) (by simp))
theorem dec_q {w w' : World} {nm : ByteArray} {l : List Int} {e : Ending} (h : RDecPost w nm l e w') : ∃ x : RQ × Int, e = .returned (.tuple #[x.1.val, .int .i64 x.2]) ∧ Only [] w w' ∧ (x.1.ok w' ∧ DecR nm l x.1 x.2) ∧ ∀ a, mAo x.1 = some a → w.heap.size ≤ a.block ∧ a.block < w'.heap.size := by
  obtain ⟨O, m, E, he, hok, hnew, _, hD⟩ := h
  refine ⟨(m, E), he, O, ⟨hok, hD⟩, fun a ha => ?_⟩
  unfold mAo at ha
  split at ha
  · cases ha
  · rename_i h0
    have h0' : ¬ m.modes.length = 0 := h0
    obtain ⟨b, off, e1, hlt, _⟩ := hok.modes (by omega)
    have ha' : m.mA = some a := ha
    refine ⟨hnew a ha', ?_⟩
    rw [ha'] at e1
    injection e1 with e1
    rw [e1]
    exact hlt
theorem long_le27 {n : Nat} (h : longE n = 0) : n ≤ 1024 := by
  unfold longE at h
  split at h
  · cases h
  · omega
theorem dec_text {nm : ByteArray} {l : List Int} {m : RQ} (h : DecR nm l m 0) (h4 : m.kind = 4) : m.text.size ≤ 1024 := by
  unfold DecR at h
  split at h
  · exact absurd h.1 (by decide)
  · rename_i k hk
    obtain ⟨h1, h2, _⟩ := kindL_range hk
    have hk4 := decK_kind h1 h2 h
    obtain rfl : k = 4 := by omega
    unfold DecK at h
    split at h
    · rename_i hn; exact absurd h.1.symm hn
    · obtain ⟨fs, hf, h⟩ := h
      split at h
      · rename_i hq
        rw [← h.2] at hq
        exact long_le27 hq
      · rename_i hn; exact absurd h.1.symm hn
theorem own_ge {w w' : World} {β : List Nat} {hp : List HB} {T : Nat} {cs : List SC} (H : Mem w [] β hp w') (k : Nat) (hk : hp[k]? = some (.b true T cs)) : w.heap.size ≤ nm β k := (H.own k _ _ hk rfl rfl).resolve_left (by simp)
theorem own_apart {w w' : World} {β : List Nat} {hp : List HB} {T : Nat} {cs : List SC} {A : Option Addr} {Q : World → Prop} {st : ∀ w w' : World, (∀ a, A = some a → w'.heap[a.block]? = w.heap[a.block]?) → w.heap.size ≤ w'.heap.size → Q w → Q w'} (H : Mem w [] β hp w') (i j : Nat) (hi : hp[i]? = some (.q true A Q st)) (hj : hp[j]? = some (.b true T cs)) (hij : i ≠ j) (a : Addr) (ha : A = some a) : a.block ≠ nm β j := fun he =>
  hij (H.inj i j _ _ a.block hi hj (by show Option.map Addr.block A = _; rw [ha]; rfl) (by show some (nm β j) = _; rw [he]))
theorem startS_env (s : SS) (nm : ByteArray) (ps : List PR) : (startS s nm ps).1.env = s.env := by
  unfold startS
  split
  · rfl
  · split <;> rfl
theorem ptyM_env (s : SS) (m : RQ) : (ptyM s m).1.env = s.env := by
  unfold ptyM
  repeat' split
  all_goals rfl
theorem sizeM_env (s : SS) (m : RQ) : (sizeM s m).1.env = s.env := by
  unfold sizeM
  repeat' split
  all_goals rfl
theorem sigM_env (s : SS) (m : RQ) : (sigM s m).1.env = s.env := by
  unfold sigM
  repeat' split
  all_goals rfl
def SS.valL (s : SS) (A : Option Addr) (n cap : Nat) : Value := .agg (#[.bool s.pty, .string s.term, .int .u32 s.c0, .int .u32 s.c1, .int .u32 s.c2, .int .u32 s.c3, .int .u8 (s.t.ch 0), .int .u8 (s.t.ch 1), .int .u8 (s.t.ch 2), .int .u8 (s.t.ch 3), .int .u8 (s.t.ch 4), .int .u8 (s.t.ch 5), .int .u8 (s.t.ch 6), .int .u8 (s.t.ch 7), .int .u8 (s.t.ch 8), .int .u8 (s.t.ch 9), .int .u8 (s.t.ch 10), .int .u8 (s.t.ch 11), .int .u8 (s.t.ch 12), .int .u8 (s.t.ch 13), .int .u8 (s.t.ch 14), .int .u8 (s.t.ch 15), .int .u8 (s.t.ch 16), .int .u8 (s.t.ch 17), .int .u8 (s.t.ch 18), .int .u64 s.t.fl, .int .u32 s.t.inn, .int .u32 s.t.out, .int .i64 s.t.mn, .int .i64 s.t.tm, .slice A n cap, .bool s.st])
theorem var_len (l : List VR) : (l.flatMap cVar).length = l.length * 2 := by
  induction l with
  | nil => rfl
  | cons x l ih => rw [List.flatMap_cons, List.length_append, ih, cVar_len, List.length_cons]; omega
theorem splice_var : ∀ (l : List VR) (i : Nat), i < l.length → ∀ v : ByteArray, splice (l.flatMap cVar) (i * 2 + 1) [.string v] = (l.set i ⟨((l.map VR.n)[i]?).getD ⟨#[]⟩, v⟩).flatMap cVar
  | x :: l, 0, _, v => by simp [splice, cVar]
  | x :: l, i + 1, h, v => by
    have ih := splice_var l i (by simpa using h) v
    have e : (i + 1) * 2 + 1 = i * 2 + 1 + 1 + 1 := by omega
    simp only [List.flatMap_cons, List.set_cons_succ, List.map_cons, List.getElem?_cons_succ]
    rw [← ih, e]
    simp [splice, cVar]
theorem idxS_lt (nm : ByteArray) : ∀ (l : List ByteArray) (k : Int), 0 ≤ k → idxS nm l k < k + l.length
  | [], k, h => by
    show (-1 : Int) < k + ((0 : Nat) : Int)
    omega
  | s :: l, k, h => by
    have ih := idxS_lt nm l (k + 1) (by omega)
    unfold idxS
    rw [List.length_cons]
    split
    · omega
    · omega
theorem varI_lt {nm : ByteArray} {l : List VR} {i : Nat} (h : varI nm l = i) : i < l.length := by
  have := idxS_lt nm (l.map VR.n) 0 (Int.le_refl _)
  unfold varI at h
  rw [h, List.length_map] at this
  omega
theorem SS.val_env (s : SS) (l : List VR) (n : Nat) (h : l.length = n) (A : Option Addr) (cap : Nat) : s.valL A n cap = ({ s with env := l } : SS).val A cap := by
  subst h
  rfl
theorem own_ne {w w' : World} {β : List Nat} {hp : List HB} {T T' : Nat} {cs cs' : List SC} (H : Mem w [] β hp w') (i j : Nat) (hi : hp[i]? = some (.b true T cs)) (hj : hp[j]? = some (.b true T' cs')) (hij : i ≠ j) : nm β i ≠ nm β j := fun he =>
  hij (H.inj i j _ _ (nm β j) hi hj (by show some (nm β i) = _; rw [he]) rfl)
section
variable {P : Program} {f : FuncId} {R : Ending → World → Prop} {n : Nat} {β : List Nat} {m : SM} {w0 : World} {L : List Nat} {E size : Nat}
theorem Hs.stc2 (k : Nat) {g cap nl : Nat} {vs vs' : List Value} (hk : m.hp[k]? = some (.s (some ⟨g, 0, none⟩) cap nl E size vs)) (j : Nat) (hj : j < vs.length) {v : Value} (hv : v.cells = #[v]) (hone : v.oneCell' = true) {E' : TypeId} (hz : szB P E' = some 1)
    (hs : semOf n β m = some (unitS (Instr.storeAt E' (.pointer (some ⟨g, j, none⟩)) v))) (hrd : (rdOf m).contains k = false) (e : splice vs j [v] = vs')
    (h : Hs P f R n w0 L β (m.put (dstOf m) (.c (.v undef)) (m.hp.set k (.s (some ⟨g, 0, none⟩) cap nl E size vs')))) : Hs P f R n w0 L β m := by
  subst e
  exact Hs.stc k hk j hj hv hone hz hs hrd h
end
/-- What Ask answers. -/
def AskD (s : SS) (nam : ByteArray) (l : List Int) (ps : List PR) (w : World) : Ending → World → Prop := fun e w' => Only [] w w' ∧ ∃ (m : RQ) (E : Int) (A' : Option Addr) (cap' : Nat), DecR nam l m E ∧ e = .returned (.tuple #[(askM s m E ps).1.val A' cap', (askM s m E ps).2.val]) ∧ OwnX cVar 59 2 w' w.heap.size (.slice A' (askM s m E ps).1.env.length cap') (askM s m E ps).1.env
theorem askD_ok {s : SS} {nam : ByteArray} {l : List Int} {ps : List PR} {w w' : World} {m : RQ} {E : Int} {z : SS × AC} (hz : askM s m E ps = z) (hD : DecR nam l m E) {A' : Option Addr} {cap' : Nat} {β : List Nat} {hp : List HB} (H : Mem w [] β hp w') {vs : List Value} {nl : Nat} (hv : vs = z.1.env.flatMap cVar) (hn : z.1.env.length = nl) (hk : hp[3]? = some (.s A' cap' nl 59 2 vs)) {v : Value} (he : v = z.1.val A' cap') : AskD s nam l ps w (.returned (.tuple #[v, z.2.val])) w' := by
  subst hz hv hn he
  exact ⟨H.only, m, E, A', cap', hD, rfl, H.fresh 3 rfl hk⟩
theorem rd_modes {w : World} {m : RQ} (h : m.ok w) : RdX cu8 w m.mA m.modes := rd_rdX h.modes
theorem Hs.fact27 {P : Program} {f : FuncId} {R : Ending → World → Prop} {n : Nat} {w0 : World} {L : List Nat} {β : List Nat} {m : SM} {p : Prop} (hp : ∀ w, Mem w0 L β m.hp w → p) (h : p → Hs P f R n w0 L β m) : Hs P f R n w0 L β m := ⟨fun w H W => (h (hp w H)).go w H W⟩
set_option maxHeartbeats 8000000 in
theorem ask_anyP27 (s : SS) (A : Option Addr) (cap : Nat) (nam : ByteArray) (B : Option Addr) (c : Nat) (l : List Int) (pA : Option Addr) (pc : Nat) (ps : List PR) (w : World) (i0 : Int) (h00 : w.cell? ⟨0, 0, none⟩ = some (.int .i64 i0)) (hs : RdX cVar w A s.env) (hse : s.env.length ≤ 1000000) (hd : Rd w B l) (hl : ∀ x ∈ l, 0 ≤ x ∧ x < 256) (hln : l.length ≤ 140737488355000) (hlc : l.length ≤ c) (hlm : c ≤ maxLen) (hal : ∀ a, B = some a → 0 < l.length → a.block < w.heap.size) (hr : RdX cPr w pA ps) (hpl : ps.length ≤ maxLen) :
    Calls Tryz.prog 11 #[s.val A cap, .string nam, .slice B l.length c, .slice pA ps.length pc] w (AskD s nam l ps w) := by
  have hw0 : 0 < w.heap.size := block_lt_of_cell h00
  refine Hs.enter Tryz.func11 [] [] [] [.g (s.sc A cap), .c (.v (.string nam)), .c (.v (.slice B l.length c)), .c (.v (.slice pA ps.length pc))] (Mem.start0 w) (by kernel_rfl) (by kernel_rfl) ?_
  refine Hs.run3 300 (fun _ => by kernel_rfl) fun b0 b1 b2 => ?_
  refine Hs.callS (cf := cVar) (E := 59) (size := 2) (fun A cap => .slice A s.env.length cap) s.env s.env.length rfl (fun w' H => cloneV_any s.env A cap w' (hs.only H.only) (by omega)) (by kernel_rfl) (by kernel_rfl) fun A' cap' h1 h2 => ?_
  refine Hs.run0 300 (fun _ => by kernel_rfl) ?_
  refine Hs.callQ (X := RQ × Int) (fun x => mAo x.1) (fun x => .tuple #[x.1.val, .int .i64 x.2]) (fun x w => x.1.ok w ∧ DecR nam l x.1 x.2) (fun x w w' h1 h2 h => ⟨h.1.stable2 h1 h2, h.2⟩) (fun w' H => (rdecode_anyP nam B l c i0 w' (cell_step H.only h00) (hd.only H.only) hl hln hlc hlm (fun a ha h0 => Nat.lt_of_lt_of_le (hal a ha h0) H.only.size)).mono fun e w1 h => dec_q h) (by kernel_rfl) (by kernel_rfl) fun x => ?_
  obtain ⟨m, E⟩ := x
  refine Hs.run1 300 (fun _ => by kernel_rfl) fun b5 => ?_
  refine Hs.fact27 (fun w' H => (H.atQ 4 (wr := true) (A := mAo m) (Q := fun w => m.ok w ∧ DecR nam l m E) (st := fun w w' h1 h2 h => ⟨h.1.stable2 h1 h2, h.2⟩) (by kernel_rfl)).2) fun hD => ?_
  refine Hs.cond (E != 0) (by kernel_rfl) (fun h3 => ?_) (fun h3 => ?_)
  · have hz : askM s m E ps = (s, noA) := by unfold askM; rw [if_pos (by simpa using h3)]
    refine Hs.run0 300 (fun _ => by kernel_rfl) ?_
    exact Hs.ret (v := .tuple #[s.val A' cap', noA.val]) Tryz.func11 (by kernel_rfl) fun w' H => askD_ok hz hD H rfl rfl (by kernel_rfl) rfl
  obtain rfl : E = 0 := by simpa using h3
  obtain ⟨k, hk1, hk2, hk⟩ := decR_kind27 hD
  have hz : askM s m 0 ps = kindM s m ps k := by unfold askM; rw [if_neg (by simp), hk]; rfl
  refine Hs.run1 300 (fun _ => by kernel_rfl) fun b6 => ?_
  refine Hs.any [5] (by kernel_rfl) ?_
  refine Hs.run0 300 (fun _ => by kernel_rfl) ?_
  refine Hs.callV (fun w' H => kinds_any27 w') (by kernel_rfl) ?_
  refine Hs.slot 34 (.c (.v (.int .i64 k))) rfl ((by kernel_rfl : _ = Value.int .i64 m.kind).trans (by rw [hk]; rfl)) ?_
  rcases k10 hk1 hk2 with rfl | rfl | rfl | rfl | rfl | rfl | rfl | rfl | rfl | rfl
  · replace hz : askM s m 0 ps = ptyM s m := hz
    obtain ⟨z, hzz⟩ : ∃ z, ptyM s m = z := ⟨_, rfl⟩
    rw [hzz] at hz
    have henv : z.1.env = s.env := (congrArg (fun z : SS × AC => z.1.env) hzz.symm).trans (ptyM_env s m)
    refine Hs.run0 300 (fun _ => by kernel_rfl) ?_
    refine Hs.callP 6 88 (askSC z.1 A' cap' m pA ps.length pc z.2) (v := .tuple #[]) (fun w' H => by
      have hq := (H.atQ 4 (wr := true) (A := mAo m) (Q := fun w => m.ok w ∧ DecR nam l m 0) (st := fun w w' h1 h2 h => ⟨h.1.stable2 h1 h2, h.2⟩) (by kernel_rfl)).1
      have hB := H.at (wr := true) (T := 88) (cs := askSC s A' cap' m pA ps.length pc noA) 6 (by kernel_rfl)
      rw [dens_ask] at hB
      have hg : ∀ a, m.mA = some a → 0 < m.modes.length → a.block ≠ b6 := fun a ha h0 => own_apart H (A := mAo m) (Q := fun w => m.ok w ∧ DecR nam l m 0) (st := fun w w' h1 h2 h => ⟨h.1.stable2 h1 h2, h.2⟩) (T := 88) (cs := askSC s A' cap' m pA ps.length pc noA) 4 6 (by kernel_rfl) (by kernel_rfl) (by decide) a (by unfold mAo; rw [if_neg (by omega)]; exact ha)
      exact (pty_any27 s A' cap' m pA pc ps w' b6 hB ⟨rd_modes hq, hq.mle, hq.mmax⟩ hq.bytes hg).mono fun e w1 h => by rw [hzz] at h; rw [dens_ask]; exact h) (by kernel_rfl) (by kernel_rfl) ?_
    refine Hs.run0 300 (fun _ => by kernel_rfl) ?_
    refine Hs.any [6] (by kernel_rfl) ?_
    refine Hs.run0 300 (fun _ => by kernel_rfl) ?_
    exact Hs.ret (v := .tuple #[z.1.val A' cap', z.2.val]) Tryz.func11 (by kernel_rfl) fun w' H => askD_ok hz hD H (vs := s.env.flatMap cVar) (nl := s.env.length) (by rw [henv]) (by rw [henv]) (by kernel_rfl) rfl
  · replace hz : askM s m 0 ps = envM s m := hz
    unfold envM at hz
    refine Hs.run0 300 (fun _ => by kernel_rfl) ?_
    refine Hs.inl Tryz.func53 [.c (.p 6 0)] (by kernel_rfl) (by kernel_rfl) ?_
    refine Hs.run1 300 (fun _ => by kernel_rfl) fun b7 => ?_
    refine Hs.cond s.st (by kernel_rfl) (fun h4 => ?_) (fun h4 => ?_)
    · rw [if_pos h4] at hz
      refine Hs.run0 300 (fun _ => by kernel_rfl) ?_
      refine Hs.retI Tryz.func53 (by kernel_rfl) (by kernel_rfl) (by kernel_rfl) ?_
      refine Hs.run0 300 (fun _ => by kernel_rfl) ?_
      refine Hs.any [6] (by kernel_rfl) ?_
      refine Hs.run0 300 (fun _ => by kernel_rfl) ?_
      exact Hs.ret (v := .tuple #[s.val A' cap', noA.val]) Tryz.func11 (by kernel_rfl) fun w' H => askD_ok hz hD H rfl rfl (by kernel_rfl) rfl
    rw [if_neg (by rw [h4]; decide)] at hz
    refine Hs.run0 300 (fun _ => by kernel_rfl) ?_
    refine Hs.callV (v := .int .i64 (varI m.text s.env)) (fun w' H => by
      have hB := H.at (wr := true) (T := 88) (cs := askSC s A' cap' m pA ps.length pc noA) 6 (by kernel_rfl)
      rw [dens_ask] at hB
      have hne : b7 ≠ b6 := own_ne H 7 6 (T := 86) (cs := [.p 6 0]) (T' := 88) (cs' := askSC s A' cap' m pA ps.length pc noA) (by kernel_rfl) (by kernel_rfl) (by decide)
      have hR : RdX cVar w' A' s.env := H.rdX 3 (A := A') (cap := cap') (E := 59) (size := 2) rfl (by kernel_rfl)
      have hP : Blk w' b7 86 [.pointer (some ⟨b6, 0, none⟩)] := H.at (wr := true) (T := 86) (cs := [.p 6 0]) 7 (by kernel_rfl)
      exact indexV_any s A' cap' m pA ps.length pc noA b7 b6 hne A' cap' s.env w' hP hB hR (by unfold maxLen; omega)) (by kernel_rfl) ?_
    refine Hs.run0 300 (fun _ => by kernel_rfl) ?_
    refine Hs.condP (varI m.text s.env ≥ 0) (by kernel_rfl) (fun h5 => ?_) (fun h5 => ?_)
    · rw [if_pos h5] at hz
      obtain ⟨i, hi⟩ : ∃ i : Nat, varI m.text s.env = i := ⟨_, (Int.toNat_of_nonneg h5).symm⟩
      have hil : i < s.env.length := varI_lt hi
      rw [hi, Int.toNat_natCast] at hz
      refine Hs.someS (A := A') (cap := cap') (nl := s.env.length) (E := 59) (size := 2) (vs := s.env.flatMap cVar) 3 (by kernel_rfl) (by omega) fun g hA => ?_
      subst hA
      refine Hs.run0 300 (fun _ => by kernel_rfl) ?_
      refine Hs.any [6, 7] (by kernel_rfl) ?_
      refine Hs.run0 300 (fun _ => by kernel_rfl) ?_
      refine Hs.slot 45 (.c (.v (.int .i64 i))) rfl ((by kernel_rfl : _ = Value.int .i64 (varI m.text s.env)).trans (congrArg (Value.int .i64) hi)) ?_
      refine Hs.idx (b := g) (off := 0) (c := cap') (len := s.env.length) (i := i) elemVr hil (by kernel_rfl) ?_
      refine Hs.run0 300 (fun _ => by kernel_rfl) ?_
      refine Hs.stc2 (E := 59) (size := 2) (g := g) (cap := cap') (nl := s.env.length) (vs := s.env.flatMap cVar) (E' := 9) 3 (by kernel_rfl) (0 + i * 2 + 1) (by rw [var_len]; omega) (v := .string m.value) rfl rfl (by kernel_rfl) (by kernel_rfl) (by kernel_rfl) (vs' := (s.env.set i ⟨((s.env.map VR.n)[i]?).getD ⟨#[]⟩, m.value⟩).flatMap cVar) (by rw [Nat.zero_add]; exact splice_var s.env i hil m.value) ?_
      refine Hs.run0 300 (fun _ => by kernel_rfl) ?_
      refine Hs.callP 6 88 (askSC s (some ⟨g, 0, none⟩) cap' m pA ps.length pc okA) (v := .tuple #[]) (fun w' H => (ok_any27 s (some ⟨g, 0, none⟩) cap' m pA pc ps w' b6 noA (by have := H.at (wr := true) (T := 88) (cs := askSC s (some ⟨g, 0, none⟩) cap' m pA ps.length pc noA) 6 (by kernel_rfl); rw [dens_ask] at this; exact this)).mono fun e w1 h => by rw [dens_ask]; exact h) (by kernel_rfl) (by kernel_rfl) ?_
      refine Hs.run0 300 (fun _ => by kernel_rfl) ?_
      refine Hs.retI Tryz.func53 (by kernel_rfl) (by kernel_rfl) (by kernel_rfl) ?_
      refine Hs.run0 300 (fun _ => by kernel_rfl) ?_
      refine Hs.any [6] (by kernel_rfl) ?_
      refine Hs.run0 300 (fun _ => by kernel_rfl) ?_
      exact Hs.ret (v := .tuple #[s.val (some ⟨g, 0, none⟩) cap', okA.val]) Tryz.func11 (by kernel_rfl) fun w' H => askD_ok hz hD H rfl List.length_set (by kernel_rfl) (SS.val_env s _ _ List.length_set _ _)
    rw [if_neg h5] at hz
    refine Hs.run0 300 (fun _ => by kernel_rfl) ?_
    refine Hs.condP ((s.env.length : Int) ≥ 16) (by kernel_rfl) (fun h6 => ?_) (fun h6 => ?_)
    · rw [if_pos h6] at hz
      refine Hs.run0 300 (fun _ => by kernel_rfl) ?_
      refine Hs.retI Tryz.func53 (by kernel_rfl) (by kernel_rfl) (by kernel_rfl) ?_
      refine Hs.run0 300 (fun _ => by kernel_rfl) ?_
      refine Hs.any [6] (by kernel_rfl) ?_
      refine Hs.run0 300 (fun _ => by kernel_rfl) ?_
      exact Hs.ret (v := .tuple #[s.val A' cap', noA.val]) Tryz.func11 (by kernel_rfl) fun w' H => askD_ok hz hD H rfl rfl (by kernel_rfl) rfl
    rw [if_neg h6] at hz
    refine Hs.run0 300 (fun _ => by kernel_rfl) ?_
    refine Hs.any [6, 7, 1022] (by kernel_rfl) ?_
    refine Hs.run1 300 (fun _ => by kernel_rfl) fun b8 => ?_
    refine Hs.app (cf := cVar) (c := 1) (ty := 39) 3 elemVr s.env [(⟨m.text, m.value⟩ : VR)] s.env.length 1 rfl rfl cVar_one cVar_len (A := A') (B := some ⟨b8, 0, none⟩) (cap := cap') (by kernel_rfl) (by kernel_rfl) (by kernel_rfl) (fun w' H => H.rdB (gs := [(⟨m.text, m.value⟩ : VR)]) 8 (wr := true) (T := 59) (cs := VR.sc ⟨m.text, m.value⟩) (by kernel_rfl) rfl) (by unfold maxLen; omega) (by rw [by_vr]; omega) fun A2 cap2 h7 => ?_
    refine Hs.runK [95] 1000 0 Tryz.func53 rfl (by kernel_rfl) (fun ν => by kernel_rfl) (fun ν => by kernel_rfl) fun ν hν => ?_
    obtain rfl := List.length_eq_zero_iff.1 hν
    refine Hs.retI Tryz.func53 (by kernel_rfl) (by kernel_rfl) (by kernel_rfl) ?_
    refine Hs.run0 300 (fun _ => by kernel_rfl) ?_
    refine Hs.any [6] (by kernel_rfl) ?_
    refine Hs.run0 300 (fun _ => by kernel_rfl) ?_
    exact Hs.ret (v := .tuple #[s.valL A2 (s.env.length + 1) cap2, okA.val]) Tryz.func11 (by kernel_rfl) fun w' H => askD_ok hz hD H (A' := A2) (cap' := cap2) (nl := s.env.length + 1) rfl (by show (s.env ++ [_]).length = _; rw [List.length_append]; rfl) (by kernel_rfl) (SS.val_env s (s.env ++ [⟨m.text, m.value⟩]) (s.env.length + 1) (by rw [List.length_append]; rfl) A2 cap2)
  · replace hz : askM s m 0 ps = startS s shellS ps := hz
    obtain ⟨z, hzz⟩ : ∃ z, startS s shellS ps = z := ⟨_, rfl⟩
    rw [hzz] at hz
    have henv : z.1.env = s.env := (congrArg (fun z : SS × AC => z.1.env) hzz.symm).trans (startS_env s shellS ps)
    refine Hs.run0 300 (fun _ => by kernel_rfl) ?_
    refine Hs.callP 6 88 (askSC z.1 A' cap' m pA ps.length pc z.2) (v := .tuple #[]) (fun w' H => (shell_any27 s A' cap' m pA pc ps w' b6 (by have := H.at (wr := true) (T := 88) (cs := askSC s A' cap' m pA ps.length pc noA) 6 (by kernel_rfl); rw [dens_ask] at this; exact this) (hr.only H.only) hpl (fun a ha h0 => by obtain ⟨b, off, e, hlt, _⟩ := hr h0; rw [ha] at e; injection e with e; have : w.heap.size ≤ b6 := own_ge H 6 (T := 88) (cs := askSC s A' cap' m pA ps.length pc noA) (by kernel_rfl); rw [e]; show b ≠ b6; omega)).mono fun e w1 h => by rw [hzz] at h; rw [dens_ask]; exact h) (by kernel_rfl) (by kernel_rfl) ?_
    refine Hs.run0 300 (fun _ => by kernel_rfl) ?_
    refine Hs.any [6] (by kernel_rfl) ?_
    refine Hs.run0 300 (fun _ => by kernel_rfl) ?_
    exact Hs.ret (v := .tuple #[z.1.val A' cap', z.2.val]) Tryz.func11 (by kernel_rfl) fun w' H => askD_ok hz hD H (vs := s.env.flatMap cVar) (nl := s.env.length) (by rw [henv]) (by rw [henv]) (by kernel_rfl) rfl
  · replace hz : askM s m 0 ps = startS s (cutS m.text) ps := hz
    obtain ⟨z, hzz⟩ : ∃ z, startS s (cutS m.text) ps = z := ⟨_, rfl⟩
    rw [hzz] at hz
    have henv : z.1.env = s.env := (congrArg (fun z : SS × AC => z.1.env) hzz.symm).trans (startS_env s (cutS m.text) ps)
    refine Hs.run0 300 (fun _ => by kernel_rfl) ?_
    refine Hs.callP 6 88 (askSC z.1 A' cap' m pA ps.length pc z.2) (v := .tuple #[]) (fun w' H => (exec_any27 s A' cap' m pA pc ps w' b6 i0 (cell_step H.only h00) (by have : w.heap.size ≤ b6 := own_ge H 6 (T := 88) (cs := askSC s A' cap' m pA ps.length pc noA) (by kernel_rfl); omega) (by have := dec_text hD hk; omega) (by have := H.at (wr := true) (T := 88) (cs := askSC s A' cap' m pA ps.length pc noA) 6 (by kernel_rfl); rw [dens_ask] at this; exact this) (hr.only H.only) hpl (fun a ha h0 => by obtain ⟨b, off, e, hlt, _⟩ := hr h0; rw [ha] at e; injection e with e; have : w.heap.size ≤ b6 := own_ge H 6 (T := 88) (cs := askSC s A' cap' m pA ps.length pc noA) (by kernel_rfl); rw [e]; show b ≠ b6; omega)).mono fun e w1 h => by rw [hzz] at h; rw [dens_ask]; exact h) (by kernel_rfl) (by kernel_rfl) ?_
    refine Hs.run0 300 (fun _ => by kernel_rfl) ?_
    refine Hs.any [6] (by kernel_rfl) ?_
    refine Hs.run0 300 (fun _ => by kernel_rfl) ?_
    exact Hs.ret (v := .tuple #[z.1.val A' cap', z.2.val]) Tryz.func11 (by kernel_rfl) fun w' H => askD_ok hz hD H (vs := s.env.flatMap cVar) (nl := s.env.length) (by rw [henv]) (by rw [henv]) (by kernel_rfl) rfl
  · replace hz : askM s m 0 ps = startS s m.text ps := hz
    obtain ⟨z, hzz⟩ : ∃ z, startS s m.text ps = z := ⟨_, rfl⟩
    rw [hzz] at hz
    have henv : z.1.env = s.env := (congrArg (fun z : SS × AC => z.1.env) hzz.symm).trans (startS_env s m.text ps)
    refine Hs.run0 300 (fun _ => by kernel_rfl) ?_
    refine Hs.callP 6 88 (askSC z.1 A' cap' m pA ps.length pc z.2) (v := .tuple #[]) (fun w' H => (subsystem_any27 s A' cap' m pA pc ps w' b6 (by have := H.at (wr := true) (T := 88) (cs := askSC s A' cap' m pA ps.length pc noA) 6 (by kernel_rfl); rw [dens_ask] at this; exact this) (hr.only H.only) hpl (fun a ha h0 => by obtain ⟨b, off, e, hlt, _⟩ := hr h0; rw [ha] at e; injection e with e; have : w.heap.size ≤ b6 := own_ge H 6 (T := 88) (cs := askSC s A' cap' m pA ps.length pc noA) (by kernel_rfl); rw [e]; show b ≠ b6; omega)).mono fun e w1 h => by rw [hzz] at h; rw [dens_ask]; exact h) (by kernel_rfl) (by kernel_rfl) ?_
    refine Hs.run0 300 (fun _ => by kernel_rfl) ?_
    refine Hs.any [6] (by kernel_rfl) ?_
    refine Hs.run0 300 (fun _ => by kernel_rfl) ?_
    exact Hs.ret (v := .tuple #[z.1.val A' cap', z.2.val]) Tryz.func11 (by kernel_rfl) fun w' H => askD_ok hz hD H (vs := s.env.flatMap cVar) (nl := s.env.length) (by rw [henv]) (by rw [henv]) (by kernel_rfl) rfl
  · replace hz : askM s m 0 ps = sizeM s m := hz
    obtain ⟨z, hzz⟩ : ∃ z, sizeM s m = z := ⟨_, rfl⟩
    rw [hzz] at hz
    have henv : z.1.env = s.env := (congrArg (fun z : SS × AC => z.1.env) hzz.symm).trans (sizeM_env s m)
    refine Hs.run0 300 (fun _ => by kernel_rfl) ?_
    refine Hs.callP 6 88 (askSC z.1 A' cap' m pA ps.length pc z.2) (v := .tuple #[]) (fun w' H => (resize_any27 s A' cap' m pA pc ps w' b6 (by have := H.at (wr := true) (T := 88) (cs := askSC s A' cap' m pA ps.length pc noA) 6 (by kernel_rfl); rw [dens_ask] at this; exact this)).mono fun e w1 h => by rw [hzz] at h; rw [dens_ask]; exact h) (by kernel_rfl) (by kernel_rfl) ?_
    refine Hs.run0 300 (fun _ => by kernel_rfl) ?_
    refine Hs.any [6] (by kernel_rfl) ?_
    refine Hs.run0 300 (fun _ => by kernel_rfl) ?_
    exact Hs.ret (v := .tuple #[z.1.val A' cap', z.2.val]) Tryz.func11 (by kernel_rfl) fun w' H => askD_ok hz hD H (vs := s.env.flatMap cVar) (nl := s.env.length) (by rw [henv]) (by rw [henv]) (by kernel_rfl) rfl
  · replace hz : askM s m 0 ps = ((s, noA) : SS × AC) := hz
    obtain ⟨z, hzz⟩ : ∃ z, ((s, noA) : SS × AC) = z := ⟨_, rfl⟩
    rw [hzz] at hz
    have henv : z.1.env = s.env := (congrArg (fun z : SS × AC => z.1.env) hzz.symm).trans (rfl)
    refine Hs.run0 300 (fun _ => by kernel_rfl) ?_
    refine Hs.callP 6 88 (askSC z.1 A' cap' m pA ps.length pc z.2) (v := .tuple #[]) (fun w' H => (nothing_any27 s A' cap' m pA pc ps w' b6 (by have := H.at (wr := true) (T := 88) (cs := askSC s A' cap' m pA ps.length pc noA) 6 (by kernel_rfl); rw [dens_ask] at this; exact this)).mono fun e w1 h => by rw [hzz] at h; rw [dens_ask]; exact h) (by kernel_rfl) (by kernel_rfl) ?_
    refine Hs.run0 300 (fun _ => by kernel_rfl) ?_
    refine Hs.any [6] (by kernel_rfl) ?_
    refine Hs.run0 300 (fun _ => by kernel_rfl) ?_
    exact Hs.ret (v := .tuple #[z.1.val A' cap', z.2.val]) Tryz.func11 (by kernel_rfl) fun w' H => askD_ok hz hD H (vs := s.env.flatMap cVar) (nl := s.env.length) (by rw [henv]) (by rw [henv]) (by kernel_rfl) rfl
  · replace hz : askM s m 0 ps = sigM s m := hz
    obtain ⟨z, hzz⟩ : ∃ z, sigM s m = z := ⟨_, rfl⟩
    rw [hzz] at hz
    have henv : z.1.env = s.env := (congrArg (fun z : SS × AC => z.1.env) hzz.symm).trans (sigM_env s m)
    refine Hs.run0 300 (fun _ => by kernel_rfl) ?_
    refine Hs.callP 6 88 (askSC z.1 A' cap' m pA ps.length pc z.2) (v := .tuple #[]) (fun w' H => (signal_any27 s A' cap' m pA pc ps w' b6 (by have := H.at (wr := true) (T := 88) (cs := askSC s A' cap' m pA ps.length pc noA) 6 (by kernel_rfl); rw [dens_ask] at this; exact this)).mono fun e w1 h => by rw [hzz] at h; rw [dens_ask]; exact h) (by kernel_rfl) (by kernel_rfl) ?_
    refine Hs.run0 300 (fun _ => by kernel_rfl) ?_
    refine Hs.any [6] (by kernel_rfl) ?_
    refine Hs.run0 300 (fun _ => by kernel_rfl) ?_
    exact Hs.ret (v := .tuple #[z.1.val A' cap', z.2.val]) Tryz.func11 (by kernel_rfl) fun w' H => askD_ok hz hD H (vs := s.env.flatMap cVar) (nl := s.env.length) (by rw [henv]) (by rw [henv]) (by kernel_rfl) rfl
  · replace hz : askM s m 0 ps = ((s, noA) : SS × AC) := hz
    obtain ⟨z, hzz⟩ : ∃ z, ((s, noA) : SS × AC) = z := ⟨_, rfl⟩
    rw [hzz] at hz
    have henv : z.1.env = s.env := (congrArg (fun z : SS × AC => z.1.env) hzz.symm).trans (rfl)
    refine Hs.run0 300 (fun _ => by kernel_rfl) ?_
    refine Hs.callP 6 88 (askSC z.1 A' cap' m pA ps.length pc z.2) (v := .tuple #[]) (fun w' H => (nothing_any27 s A' cap' m pA pc ps w' b6 (by have := H.at (wr := true) (T := 88) (cs := askSC s A' cap' m pA ps.length pc noA) 6 (by kernel_rfl); rw [dens_ask] at this; exact this)).mono fun e w1 h => by rw [hzz] at h; rw [dens_ask]; exact h) (by kernel_rfl) (by kernel_rfl) ?_
    refine Hs.run0 300 (fun _ => by kernel_rfl) ?_
    refine Hs.any [6] (by kernel_rfl) ?_
    refine Hs.run0 300 (fun _ => by kernel_rfl) ?_
    exact Hs.ret (v := .tuple #[z.1.val A' cap', z.2.val]) Tryz.func11 (by kernel_rfl) fun w' H => askD_ok hz hD H (vs := s.env.flatMap cVar) (nl := s.env.length) (by rw [henv]) (by rw [henv]) (by kernel_rfl) rfl
  · replace hz : askM s m 0 ps = ((s, noA) : SS × AC) := hz
    obtain ⟨z, hzz⟩ : ∃ z, ((s, noA) : SS × AC) = z := ⟨_, rfl⟩
    rw [hzz] at hz
    have henv : z.1.env = s.env := (congrArg (fun z : SS × AC => z.1.env) hzz.symm).trans (rfl)
    refine Hs.run0 300 (fun _ => by kernel_rfl) ?_
    refine Hs.callP 6 88 (askSC z.1 A' cap' m pA ps.length pc z.2) (v := .tuple #[]) (fun w' H => (nothing_any27 s A' cap' m pA pc ps w' b6 (by have := H.at (wr := true) (T := 88) (cs := askSC s A' cap' m pA ps.length pc noA) 6 (by kernel_rfl); rw [dens_ask] at this; exact this)).mono fun e w1 h => by rw [hzz] at h; rw [dens_ask]; exact h) (by kernel_rfl) (by kernel_rfl) ?_
    refine Hs.run0 300 (fun _ => by kernel_rfl) ?_
    refine Hs.any [6] (by kernel_rfl) ?_
    refine Hs.run0 300 (fun _ => by kernel_rfl) ?_
    exact Hs.ret (v := .tuple #[z.1.val A' cap', z.2.val]) Tryz.func11 (by kernel_rfl) fun w' H => askD_ok hz hD H (vs := s.env.flatMap cVar) (nl := s.env.length) (by rw [henv]) (by rw [henv]) (by kernel_rfl) rfl
theorem ask_any27 (s : SS) (A : Option Addr) (cap : Nat) (nam : ByteArray) (B : Option Addr) (c : Nat) (l : List Int) (pA : Option Addr) (pc : Nat) (ps : List PR) (w : World) (i0 : Int) (h00 : w.cell? ⟨0, 0, none⟩ = some (.int .i64 i0)) (hs : RdX cVar w A s.env) (hse : s.env.length ≤ 1000000) (hd : Rd w B l) (hl : ∀ x ∈ l, 0 ≤ x ∧ x < 256) (hln : l.length ≤ 140737488355000) (hlc : l.length ≤ c) (hlm : c ≤ maxLen) (hal : ∀ a, B = some a → a.block < w.heap.size) (hr : RdX cPr w pA ps) (hpl : ps.length ≤ maxLen) :
    Calls Tryz.prog 11 #[s.val A cap, .string nam, .slice B l.length c, .slice pA ps.length pc] w (AskD s nam l ps w) := ask_anyP27 s A cap nam B c l pA pc ps w i0 h00 hs hse hd hl hln hlc hlm (fun a ha _ => hal a ha) hr hpl
end Go.Proofs.YtdplnedpbkpgpaaGreatDoor

namespace Go.Proofs.YtdplnedpbkpgpaaGreatDoor
set_option linter.all false

section
variable (P : Program)
def selfA : Nat → TypeId → Value → Bool
  | 0, _, _ => false
  | m + 1, t, v => match P.underlying t with
    | some .bool => match v with
      | .bool _ => true
      | _ => false
    | some (.int _) => match v with
      | .int _ _ => true
      | _ => false
    | some .string => match v with
      | .string _ => true
      | _ => false
    | some (.struct fs) => match v with
      | .agg xs => !P.stoodInHeld t && fs.toList.all fun f => f.name != "_" && (match partS P f.type (xs.toList.map .v) f.offset with
        | some u => selfA m f.type (u.den [])
        | none => false)
      | _ => false
    | some (.array len e) => match v with
      | .agg xs => (P.info? e).isSome && (List.range len).all fun i => (match partS P e (xs.toList.map .v) (i * P.cellsOf e) with
        | some u => selfA m e (u.den [])
        | none => false)
      | _ => false
    | _ => false
end
section
variable {P : Program}
theorem selfA_run : ∀ (m : Nat) (t : TypeId) (v : Value), selfA P m t v = true → ∀ (d : Nat) (w : World), (Op.equalIn (d + m) t v v).run P w = .ok true w
  | 0, t, v, h, d, w => by simp [selfA] at h
  | m + 1, t, v, h, d, w => by
    rw [show d + (m + 1) = (d + m) + 1 by omega]
    unfold selfA at h
    split at h
    · rename_i hu
      split at h
      · rename_i b; rw [run_equalIn_bool' w (d + m) t b b hu]; simp
      · cases h
    · rename_i k hu
      split at h
      · rename_i k' a; rw [run_equalIn_int w (d + m) t k' k a a hu]; simp
      · cases h
    · rename_i hu
      split at h
      · rename_i s; rw [run_equalIn_string w (d + m) t s s hu]; simp
      · cases h
    · rename_i fs hu
      split at h
      · rename_i xs
        simp only [Bool.and_eq_true, Bool.not_eq_true'] at h
        have hf : P.fieldsOf t = fs := by unfold Program.fieldsOf; rw [hu]
        rw [run_equalIn_struct w (d + m) t xs xs (by rw [hf]; exact hu) h.1, hf]
        have key : ∀ l : List Field, (l.all fun f => f.name != "_" && (match partS P f.type (xs.toList.map .v) f.offset with | some u => selfA P m f.type (u.den []) | none => false)) = true → (Op.eqFields (d + m) xs xs l).run P w = .ok true w := by
          intro l
          induction l with
          | nil => intro _; simp [Op.eqFields]
          | cons f l ih =>
            intro hl
            simp only [List.all_cons, Bool.and_eq_true] at hl
            obtain ⟨⟨h1, h2⟩, h3⟩ := hl
            split at h2
            · rename_i u hp
              have hpart : (part f.type xs f.offset).run P w = .ok (u.den []) w := by
                have := run_part_S (β := []) (w := w) hp
                rwa [dens_v, Array.toArray_toList] at this
              have hself := selfA_run m f.type (u.den []) h2 d w
              have hne : f.name ≠ "_" := by simpa using h1
              simp only [Op.eqFields, hne, ne_eq, not_false_eq_true, if_true, Sem.run_bind, hpart, Result.andThen_ok, hself, Bool.not_true, Bool.false_eq_true, if_false]
              exact ih h3
            · cases h2
        exact key fs.toList h.2
      · cases h
    · rename_i len e hu
      split at h
      · rename_i xs
        simp only [Bool.and_eq_true] at h
        obtain ⟨i, hi⟩ := Option.isSome_iff_exists.1 h.1
        rw [run_equalIn_array w (d + m) xs xs hu hi]
        have key : ∀ l : List Nat, (l.all fun i => (match partS P e (xs.toList.map .v) (i * P.cellsOf e) with | some u => selfA P m e (u.den []) | none => false)) = true → (Op.eqItems (d + m) e (P.cellsOf e) xs xs l).run P w = .ok true w := by
          intro l
          induction l with
          | nil => intro _; simp [Op.eqItems]
          | cons f l ih =>
            intro hl
            simp only [List.all_cons, Bool.and_eq_true] at hl
            obtain ⟨h2, h3⟩ := hl
            split at h2
            · rename_i u hp
              have hpart : (part e xs (f * P.cellsOf e)).run P w = .ok (u.den []) w := by
                have := run_part_S (β := []) (w := w) hp
                rwa [dens_v, Array.toArray_toList] at this
              have hself := selfA_run m e (u.den []) h2 d w
              simp only [Op.eqItems, Sem.run_bind, hpart, Result.andThen_ok, hself, Bool.not_true, Bool.false_eq_true, if_false]
              exact ih h3
            · cases h2
        exact key (List.range len) h.2
      · cases h
    · cases h
variable {f : FuncId} {R : Ending → World → Prop} {n : Nat} {w0 : World} {L : List Nat} {β : List Nat} {m : SM}
theorem run_sameA {op : BinOp} {T : TypeId} {xs : Array Value} {b : Bool} (ho : op = .eql ∧ b = true ∨ op = .neq ∧ b = false) (hm : P.eqGuardType P.depth T = false) (h : selfA P 100 T (.agg xs) = true) (x y : Operand) (w : World) : ((do eqGuard op T x y (.agg xs) (.agg xs); binOp op T (.agg xs) (.agg xs)) : Sem Value).run P w = .ok (.bool b) w := by
  have hr := selfA_run 100 T (.agg xs) h 9900 w
  rcases ho with ⟨rfl, rfl⟩ | ⟨rfl, rfl⟩
  · simp only [Sem.run_bind, run_eqGuard_agg w _ T x y xs xs hm, Result.andThen_ok, run_eql_struct]
    rw [show (10000 : Nat) = 9900 + 100 from rfl, hr]; rfl
  · simp only [Sem.run_bind, run_eqGuard_agg w _ T x y xs xs hm, Result.andThen_ok, run_neq_struct]
    rw [show (10000 : Nat) = 9900 + 100 from rfl, hr]; rfl
/-- A struct against itself. -/
theorem Hs.sameA {op : BinOp} {T : TypeId} (xs : Array Value) (b : Bool) (hc : sameOf n β m = some (op, T, .agg xs, .agg xs)) (ho : op = .eql ∧ b = true ∨ op = .neq ∧ b = false) (hm : (!P.eqGuardType P.depth T && selfA P 100 T (.agg xs)) = true) (h : Hs P f R n w0 L β (m.put (dstOf m) (.c (.v (.bool b))) m.hp)) : Hs P f R n w0 L β m := by
  simp only [Bool.and_eq_true, Bool.not_eq_true'] at hm
  refine ⟨fun w H W => ?_⟩
  unfold sameOf at hc
  split at hc
  · rename_i o hcur
    split at hc
    · rename_i hg
      split at hc
      · rename_i op' T' x y z hop
        simp only [Option.some.injEq, Prod.mk.injEq] at hc
        obtain ⟨rfl, rfl, hx, hy⟩ := hc
        have hd : dstOf m = o.dst := by unfold dstOf; rw [hcur]
        rw [hd] at h
        refine Gs.val (v := .c (.v (.bool b))) hcur hg ?_ (h.go w H ?_)
        · have hr := run_sameA (P := P) ho hm.1 hm.2 x y w
          simp only [execOp, hop, hx, hy, Sem.run_bind] at hr ⊢
          simp only [hr, Result.andThen_ok, Sem.run_pure]
          rfl
        · simp only [SM.wf, SM.put, Bool.and_eq_true]
          exact ⟨putS_wf (SM.wf_sl W) rfl, SM.wf_hp W⟩
      · cases hc
    · cases hc
  · cases hc
end
end Go.Proofs.YtdplnedpbkpgpaaGreatDoor

namespace Go.Proofs.YtdplnedpbkpgpaaGreatDoor
set_option linter.all false

section
variable (P : Program)
def cmpL (rec : TypeId → Value → Value → Option Bool) (xs ys : Array Value) : List Field → Option Bool
  | [] => some true
  | f :: l => match f.name != "_" with
    | true => match partS P f.type (xs.toList.map .v) f.offset, partS P f.type (ys.toList.map .v) f.offset with
      | some u, some u' => match rec f.type (u.den []) (u'.den []), cmpL rec xs ys l with
        | some a, some b => some (a && b)
        | _, _ => none
      | _, _ => none
    | false => none
/-- What a comparison of two values answers. -/
def cmpB : Nat → TypeId → Value → Value → Option Bool
  | 0, _, _, _ => none
  | m + 1, t, v, v' => match P.underlying t with
    | some .bool => match v, v' with
      | .bool a, .bool b => some (a == b)
      | _, _ => none
    | some (.int _) => match v, v' with
      | .int k a, .int k' b => match decide (k = k') with
        | true => some (a == b)
        | false => none
      | _, _ => none
    | some (.struct fs) => match v, v' with
      | .agg xs, .agg ys => match P.stoodInHeld t with
        | false => cmpL P (cmpB m) xs ys fs.toList
        | true => none
      | _, _ => none
    | _ => none
end
section
variable {P : Program}
theorem cmpB_run : ∀ (m : Nat) (t : TypeId) (v v' : Value) (r : Bool), cmpB P m t v v' = some r → ∀ (d : Nat) (w : World), (Op.equalIn (d + m) t v v').run P w = .ok r w
  | 0, t, v, v', r, h, d, w => by simp [cmpB] at h
  | m + 1, t, v, v', r, h, d, w => by
    rw [show d + (m + 1) = (d + m) + 1 by omega]
    unfold cmpB at h
    split at h
    · rename_i hu
      split at h
      · rename_i a b
        injection h with h
        subst h
        rw [run_equalIn_bool' w (d + m) t a b hu]
      · cases h
    · rename_i k hu
      split at h
      · rename_i k1 a k2 b
        split at h
        · rename_i hk
          have hk : k1 = k2 := by simpa using hk
          subst hk
          injection h with h
          subst h
          rw [run_equalIn_int w (d + m) t k1 k a b hu]
        · cases h
      · cases h
    · rename_i fs hu
      split at h
      · rename_i xs ys
        split at h
        · rename_i hst
          have hf : P.fieldsOf t = fs := by unfold Program.fieldsOf; rw [hu]
          rw [run_equalIn_struct w (d + m) t xs ys (by rw [hf]; exact hu) hst, hf]
          have key : ∀ (l : List Field) (r : Bool), cmpL P (cmpB P m) xs ys l = some r → (Op.eqFields (d + m) xs ys l).run P w = .ok r w := by
            intro l
            induction l with
            | nil => intro r h; simp only [cmpL, Option.some.injEq] at h; subst h; simp [Op.eqFields]
            | cons f l ih =>
              intro r hl
              unfold cmpL at hl
              split at hl
              · rename_i h1
                split at hl
                · rename_i u u' hp hp'
                  split at hl
                  · rename_i a b ha hb
                    injection hl with hl
                    subst hl
                    have hpart : (part f.type xs f.offset).run P w = .ok (u.den []) w := by
                      have := run_part_S (β := []) (w := w) hp
                      rwa [dens_v, Array.toArray_toList] at this
                    have hpart' : (part f.type ys f.offset).run P w = .ok (u'.den []) w := by
                      have := run_part_S (β := []) (w := w) hp'
                      rwa [dens_v, Array.toArray_toList] at this
                    have hne : f.name ≠ "_" := by simpa using h1
                    have hc := cmpB_run m f.type (u.den []) (u'.den []) a ha d w
                    simp only [Op.eqFields, hne, ne_eq, not_false_eq_true, if_true, Sem.run_bind, hpart, hpart', Result.andThen_ok, hc]
                    cases a
                    · simp
                    · simp only [Bool.not_true, Bool.false_eq_true, if_false, Bool.true_and]
                      exact ih b hb
                  · cases hl
                · cases hl
              · cases hl
          exact key fs.toList r h
        · cases h
      · cases h
    · cases h
variable {f : FuncId} {R : Ending → World → Prop} {n : Nat} {w0 : World} {L : List Nat} {β : List Nat} {m : SM}
theorem run_cmp {op : BinOp} {T : TypeId} {xs ys : Array Value} {b r : Bool} (ho : op = .eql ∧ b = r ∨ op = .neq ∧ b = !r) (hm : P.eqGuardType P.depth T = false) (h : cmpB P 100 T (.agg xs) (.agg ys) = some r) (x y : Operand) (w : World) : ((do eqGuard op T x y (.agg xs) (.agg ys); binOp op T (.agg xs) (.agg ys)) : Sem Value).run P w = .ok (.bool b) w := by
  have hr := cmpB_run 100 T (.agg xs) (.agg ys) r h 9900 w
  rcases ho with ⟨rfl, rfl⟩ | ⟨rfl, rfl⟩
  · simp only [Sem.run_bind, run_eqGuard_agg w _ T x y xs ys hm, Result.andThen_ok, run_eql_struct]
    rw [show (10000 : Nat) = 9900 + 100 from rfl, hr]; rfl
  · simp only [Sem.run_bind, run_eqGuard_agg w _ T x y xs ys hm, Result.andThen_ok, run_neq_struct]
    rw [show (10000 : Nat) = 9900 + 100 from rfl, hr]; rfl
/-- Two structs compared. -/
theorem Hs.cmp {op : BinOp} {T : TypeId} (xs ys : Array Value) (r b : Bool) (hc : sameOf n β m = some (op, T, .agg xs, .agg ys)) (ho : op = .eql ∧ b = r ∨ op = .neq ∧ b = !r) (hm : (!P.eqGuardType P.depth T) = true) (hb : cmpB P 100 T (.agg xs) (.agg ys) = some r) (h : Hs P f R n w0 L β (m.put (dstOf m) (.c (.v (.bool b))) m.hp)) : Hs P f R n w0 L β m := by
  simp only [Bool.not_eq_true'] at hm
  refine ⟨fun w H W => ?_⟩
  unfold sameOf at hc
  split at hc
  · rename_i o hcur
    split at hc
    · rename_i hg
      split at hc
      · rename_i op' T' x y z hop
        simp only [Option.some.injEq, Prod.mk.injEq] at hc
        obtain ⟨rfl, rfl, hx, hy⟩ := hc
        have hd : dstOf m = o.dst := by unfold dstOf; rw [hcur]
        rw [hd] at h
        refine Gs.val (v := .c (.v (.bool b))) hcur hg ?_ (h.go w H ?_)
        · have hr := run_cmp (P := P) ho hm hb x y w
          simp only [execOp, hop, hx, hy, Sem.run_bind] at hr ⊢
          simp only [hr, Result.andThen_ok, Sem.run_pure]
          rfl
        · simp only [SM.wf, SM.put, Bool.and_eq_true]
          exact ⟨putS_wf (SM.wf_sl W) rfl, SM.wf_hp W⟩
      · cases hc
    · cases hc
  · cases hc
end
end Go.Proofs.YtdplnedpbkpgpaaGreatDoor

namespace Go.Proofs.YtdplnedpbkpgpaaGreatDoor
set_option linter.all false
set_option maxRecDepth 100000
open Go.RowKit
def sesSC (s : SS) (A : Option Addr) (n cap : Nat) : List SC := [.v (.bool s.pty), .v (.string s.term), .v (.int .u32 s.c0), .v (.int .u32 s.c1), .v (.int .u32 s.c2), .v (.int .u32 s.c3), .v (.int .u8 (s.t.ch 0)), .v (.int .u8 (s.t.ch 1)), .v (.int .u8 (s.t.ch 2)), .v (.int .u8 (s.t.ch 3)), .v (.int .u8 (s.t.ch 4)), .v (.int .u8 (s.t.ch 5)), .v (.int .u8 (s.t.ch 6)), .v (.int .u8 (s.t.ch 7)), .v (.int .u8 (s.t.ch 8)), .v (.int .u8 (s.t.ch 9)), .v (.int .u8 (s.t.ch 10)), .v (.int .u8 (s.t.ch 11)), .v (.int .u8 (s.t.ch 12)), .v (.int .u8 (s.t.ch 13)), .v (.int .u8 (s.t.ch 14)), .v (.int .u8 (s.t.ch 15)), .v (.int .u8 (s.t.ch 16)), .v (.int .u8 (s.t.ch 17)), .v (.int .u8 (s.t.ch 18)), .v (.int .u64 s.t.fl), .v (.int .u32 s.t.inn), .v (.int .u32 s.t.out), .v (.int .i64 s.t.mn), .v (.int .i64 s.t.tm), .v (.slice A n cap), .v (.bool s.st)]
theorem elemRv27 : ElemT Tryz.prog 29 76 2 (Tryz.prog.bytesOf 76) := elemT_of (z := .agg #[.string ⟨#[]⟩, .string ⟨#[]⟩]) (by kernel_rfl) (by kernel_rfl) (by decide) (by decide)
theorem by_rv27 : Tryz.prog.bytesOf 76 = 32 := by kernel_rfl
/-- A session of whatever package, its variables in new memory. -/
def SesPost (E : Nat) (s : SS) (w : World) : Ending → World → Prop := fun e w' => ∃ A' cap', e = .returned (s.val A' cap') ∧ Only [] w w' ∧ OwnX cVar E 2 w' w.heap.size (.slice A' s.env.length cap') s.env
def zS27 : SS := ⟨false, ⟨#[]⟩, 0, 0, 0, 0, zeroT, [], false⟩
theorem to27_any27 (s : SS) (A : Option Addr) (cap : Nat) (w : World) (hr : RdX cVar w A s.env) (hle : s.env.length ≤ 1000000) : Calls Tryz.prog 10 #[s.val A cap] w (SesPost 59 s w) := by
  have J : ∀ (d i : Nat), s.env.length - i = d → i ≤ s.env.length → ∀ (b0 b1 b2 : Nat) (A4 : Option Addr) (c4 : Nat) (u : Nat → Value), Hs Tryz.prog 10 (SesPost 59 s w) (Tryz.f10).ntmps w [] [b0, b1, b2, 0] ⟨.no, loopAt Tryz.f10 0, pins [(2, .c (.p 1 0)), (3, .c (.p 2 0)), (18, .c (.v (.slice A s.env.length cap))), (19, .c (.v (.int .i64 s.env.length))), (20, .c (.v (.int .i64 i)))] (.vals u), [.b true 31 (s.sc A cap), .b true 41 (sesSC zS27 none 0 0), .b true 41 (sesSC s A4 i c4), .s A4 c4 i 59 2 ((s.env.take i).flatMap cVar)]⟩ := by
    intro d
    induction d with
    | zero =>
      intro i hd hi b0 b1 b2 A4 c4 u
      obtain rfl : i = s.env.length := by omega
      refine Hs.run0 300 (fun _ => by kernel_rfl) ?_
      refine Hs.condP ((s.env.length : Int) < (s.env.length : Int)) (by kernel_rfl) (fun h => by omega) (fun _ => ?_)
      refine Hs.run0 300 (fun _ => by kernel_rfl) ?_
      exact Hs.ret (v := s.val A4 c4) Tryz.func10 (by kernel_rfl) fun w' H => ⟨A4, c4, rfl, H.only, H.fresh (l := s.env) (cf := cVar) 3 rfl (by rw [List.take_length]; rfl)⟩
    | succ d ih =>
      intro i hd hi b0 b1 b2 A4 c4 u
      have hil : i < s.env.length := by omega
      obtain ⟨x, hx⟩ : ∃ x, s.env[i]? = some x := ⟨_, List.getElem?_eq_getElem hil⟩
      have hti : (s.env.take i).length = i := by rw [List.length_take]; omega
      obtain ⟨ab, aoff, hA, _, _⟩ := hr (by omega)
      have hih := fun b0 b1 b2 A4 c4 u => ih (i + 1) (by omega) (by omega) b0 b1 b2 A4 c4 u
      clear ih
      rw [hA] at hih hr ⊢
      refine Hs.run0 300 (fun _ => by kernel_rfl) ?_
      refine Hs.condP ((i : Int) < (s.env.length : Int)) (by kernel_rfl) (fun _ => ?_) (fun h => by omega)
      refine Hs.run0 300 (fun _ => by kernel_rfl) ?_
      refine Hs.idx (b := ab) (off := aoff) (len := s.env.length) (c := cap) (i := i) elemRv27 hil (by kernel_rfl) ?_
      refine Hs.ldx (cf := cVar) (size := 2) (E := 76) (b := ab) (off := aoff) (i := i) (l := s.env) (x := x) cVar_len (.g x.sc) (by kernel_rfl) (fun w' H => hr.only H.only) hx (by kernel_rfl) (by kernel_rfl) rfl (by kernel_rfl) ?_
      refine Hs.run2 300 (fun _ => by kernel_rfl) fun b4 b5 => ?_
      refine Hs.app (cf := cVar) (c := 1) (ty := 39) 3 elemVr (s.env.take i) [x] i 1 hti rfl cVar_one cVar_len (A := A4) (B := some ⟨b5, 0, none⟩) (cap := c4) (by kernel_rfl) (by kernel_rfl) (by kernel_rfl) (fun w' H => H.rdB (cf := cVar) (wr := true) (T := 59) (cs := x.sc) (gs := [x]) 5 (by kernel_rfl) rfl) (by unfold maxLen; omega) (by rw [by_vr]; omega) fun A6 c6 h6 => ?_
      refine Hs.run0 300 (fun _ => by kernel_rfl) ?_
      refine Hs.slot 20 (.c (.v (.int .i64 (i + 1 : Nat)))) rfl ((by kernel_rfl : _ = Value.int .i64 (IntKind.i64.wrap ((i : Int) + 1))).trans (wrap_nextJ (Nat.le_trans hle (by unfold maxLen; omega)))) ?_
      refine Hs.loop (by kernel_rfl) ?_
      have e1 : s.env.take i ++ [x] = s.env.take (i + 1) := by rw [List.take_add_one, hx]; rfl
      rw [e1]
      exact Hs.goto (loopAt Tryz.f10 0) [0, 1, 2, 3] [.b true 31 (s.sc (some ⟨ab, aoff, none⟩) cap), .b true 41 (sesSC zS27 none 0 0), .b true 41 (sesSC s A6 (i + 1) c6), .s A6 c6 (i + 1) 59 2 ((s.env.take (i + 1)).flatMap cVar)] [(2, .c (.p 1 0)), (3, .c (.p 2 0)), (18, .c (.v (.slice (some ⟨ab, aoff, none⟩) s.env.length cap))), (19, .c (.v (.int .i64 s.env.length))), (20, .c (.v (.int .i64 (i + 1 : Nat))))] (by kernel_rfl) (by decide) (by kernel_rfl) (by kernel_rfl) (fun _ => (by kernel_rfl)) (fun u => hih b0 b1 b2 A6 c6 u)
  refine Hs.enter Tryz.func10 [] [] [] [.g (s.sc A cap)] (Mem.start0 w) (by kernel_rfl) (by kernel_rfl) ?_
  refine Hs.run3 300 (fun _ => by kernel_rfl) fun b0 b1 b2 => ?_
  refine Hs.nilS 59 2 (by kernel_rfl) ?_ (by kernel_rfl)
  refine Hs.loop (by kernel_rfl) ?_
  exact Hs.goto (loopAt Tryz.f10 0) [0, 1, 2, 3] [.b true 31 (s.sc A cap), .b true 41 (sesSC zS27 none 0 0), .b true 41 (sesSC s none 0 0), .s none 0 0 59 2 ((s.env.take 0).flatMap cVar)] [(2, .c (.p 1 0)), (3, .c (.p 2 0)), (18, .c (.v (.slice A s.env.length cap))), (19, .c (.v (.int .i64 s.env.length))), (20, .c (.v (.int .i64 (0 : Nat))))] (by kernel_rfl) (by decide) (by kernel_rfl) (by kernel_rfl) (fun _ => (by kernel_rfl)) (fun u => J s.env.length 0 (by omega) (by omega) b0 b1 b2 none 0 u)
theorem from27_any27 (s : SS) (A : Option Addr) (cap : Nat) (w : World) (hr : RdX cVar w A s.env) (hle : s.env.length ≤ 1000000) : Calls Tryz.prog 17 #[s.val A cap] w (SesPost 76 s w) := by
  have J : ∀ (d i : Nat), s.env.length - i = d → i ≤ s.env.length → ∀ (b0 b1 b2 : Nat) (A4 : Option Addr) (c4 : Nat) (u : Nat → Value), Hs Tryz.prog 17 (SesPost 76 s w) (Tryz.f17).ntmps w [] [b0, b1, b2, 0] ⟨.no, loopAt Tryz.f17 0, pins [(2, .c (.p 1 0)), (3, .c (.p 2 0)), (18, .c (.v (.slice A s.env.length cap))), (19, .c (.v (.int .i64 s.env.length))), (20, .c (.v (.int .i64 i)))] (.vals u), [.b true 41 (s.sc A cap), .b true 49 (sesSC zS27 none 0 0), .b true 49 (sesSC s A4 i c4), .s A4 c4 i 76 2 ((s.env.take i).flatMap cVar)]⟩ := by
    intro d
    induction d with
    | zero =>
      intro i hd hi b0 b1 b2 A4 c4 u
      obtain rfl : i = s.env.length := by omega
      refine Hs.run0 300 (fun _ => by kernel_rfl) ?_
      refine Hs.condP ((s.env.length : Int) < (s.env.length : Int)) (by kernel_rfl) (fun h => by omega) (fun _ => ?_)
      refine Hs.run0 300 (fun _ => by kernel_rfl) ?_
      exact Hs.ret (v := s.val A4 c4) Tryz.func17 (by kernel_rfl) fun w' H => ⟨A4, c4, rfl, H.only, H.fresh (l := s.env) (cf := cVar) 3 rfl (by rw [List.take_length]; rfl)⟩
    | succ d ih =>
      intro i hd hi b0 b1 b2 A4 c4 u
      have hil : i < s.env.length := by omega
      obtain ⟨x, hx⟩ : ∃ x, s.env[i]? = some x := ⟨_, List.getElem?_eq_getElem hil⟩
      have hti : (s.env.take i).length = i := by rw [List.length_take]; omega
      obtain ⟨ab, aoff, hA, _, _⟩ := hr (by omega)
      have hih := fun b0 b1 b2 A4 c4 u => ih (i + 1) (by omega) (by omega) b0 b1 b2 A4 c4 u
      clear ih
      rw [hA] at hih hr ⊢
      refine Hs.run0 300 (fun _ => by kernel_rfl) ?_
      refine Hs.condP ((i : Int) < (s.env.length : Int)) (by kernel_rfl) (fun _ => ?_) (fun h => by omega)
      refine Hs.run0 300 (fun _ => by kernel_rfl) ?_
      refine Hs.idx (b := ab) (off := aoff) (len := s.env.length) (c := cap) (i := i) elemVr hil (by kernel_rfl) ?_
      refine Hs.ldx (cf := cVar) (size := 2) (E := 59) (b := ab) (off := aoff) (i := i) (l := s.env) (x := x) cVar_len (.g x.sc) (by kernel_rfl) (fun w' H => hr.only H.only) hx (by kernel_rfl) (by kernel_rfl) rfl (by kernel_rfl) ?_
      refine Hs.run2 300 (fun _ => by kernel_rfl) fun b4 b5 => ?_
      refine Hs.app (cf := cVar) (c := 1) (ty := 29) 3 elemRv27 (s.env.take i) [x] i 1 hti rfl cVar_one cVar_len (A := A4) (B := some ⟨b5, 0, none⟩) (cap := c4) (by kernel_rfl) (by kernel_rfl) (by kernel_rfl) (fun w' H => H.rdB (cf := cVar) (wr := true) (T := 76) (cs := x.sc) (gs := [x]) 5 (by kernel_rfl) rfl) (by unfold maxLen; omega) (by rw [by_rv27]; omega) fun A6 c6 h6 => ?_
      refine Hs.run0 300 (fun _ => by kernel_rfl) ?_
      refine Hs.slot 20 (.c (.v (.int .i64 (i + 1 : Nat)))) rfl ((by kernel_rfl : _ = Value.int .i64 (IntKind.i64.wrap ((i : Int) + 1))).trans (wrap_nextJ (Nat.le_trans hle (by unfold maxLen; omega)))) ?_
      refine Hs.loop (by kernel_rfl) ?_
      have e1 : s.env.take i ++ [x] = s.env.take (i + 1) := by rw [List.take_add_one, hx]; rfl
      rw [e1]
      exact Hs.goto (loopAt Tryz.f17 0) [0, 1, 2, 3] [.b true 41 (s.sc (some ⟨ab, aoff, none⟩) cap), .b true 49 (sesSC zS27 none 0 0), .b true 49 (sesSC s A6 (i + 1) c6), .s A6 c6 (i + 1) 76 2 ((s.env.take (i + 1)).flatMap cVar)] [(2, .c (.p 1 0)), (3, .c (.p 2 0)), (18, .c (.v (.slice (some ⟨ab, aoff, none⟩) s.env.length cap))), (19, .c (.v (.int .i64 s.env.length))), (20, .c (.v (.int .i64 (i + 1 : Nat))))] (by kernel_rfl) (by decide) (by kernel_rfl) (by kernel_rfl) (fun _ => (by kernel_rfl)) (fun u => hih b0 b1 b2 A6 c6 u)
  refine Hs.enter Tryz.func17 [] [] [] [.g (s.sc A cap)] (Mem.start0 w) (by kernel_rfl) (by kernel_rfl) ?_
  refine Hs.run3 300 (fun _ => by kernel_rfl) fun b0 b1 b2 => ?_
  refine Hs.nilS 76 2 (by kernel_rfl) ?_ (by kernel_rfl)
  refine Hs.loop (by kernel_rfl) ?_
  exact Hs.goto (loopAt Tryz.f17 0) [0, 1, 2, 3] [.b true 41 (s.sc A cap), .b true 49 (sesSC zS27 none 0 0), .b true 49 (sesSC s none 0 0), .s none 0 0 76 2 ((s.env.take 0).flatMap cVar)] [(2, .c (.p 1 0)), (3, .c (.p 2 0)), (18, .c (.v (.slice A s.env.length cap))), (19, .c (.v (.int .i64 s.env.length))), (20, .c (.v (.int .i64 (0 : Nat))))] (by kernel_rfl) (by decide) (by kernel_rfl) (by kernel_rfl) (fun _ => (by kernel_rfl)) (fun u => J s.env.length 0 (by omega) (by omega) b0 b1 b2 none 0 u)
theorem rsame_any27 (s : SS) (A B : Option Addr) (cap cb : Nat) (w : World) (hr : RdX cVar w A s.env) (hq : RdX cVar w B s.env) (hle : s.env.length ≤ 1000000) : Calls Tryz.prog 16 #[s.val A cap, s.val B cb] w fun e w' => e = .returned (.bool true) ∧ Only [] w w' := by
  have J : ∀ (d i : Nat), s.env.length - i = d → i ≤ s.env.length → ∀ (b0 b1 : Nat) (u : Nat → Value), Hs Tryz.prog 16 (fun e w' => e = .returned (.bool true) ∧ Only [] w w') (Tryz.f16).ntmps w [] [b0, b1] ⟨.no, loopAt Tryz.f16 0, pins [(2, .c (.p 0 0)), (3, .c (.p 1 0)), (50, .c (.v (.int .i64 s.env.length))), (51, .c (.v (.int .i64 i)))] (.vals u), [.b true 49 (s.sc A cap), .b true 49 (s.sc B cb)]⟩ := by
    intro d
    induction d with
    | zero =>
      intro i hd hi b0 b1 u
      obtain rfl : i = s.env.length := by omega
      refine Hs.run0 300 (fun _ => by kernel_rfl) ?_
      refine Hs.condP ((s.env.length : Int) < (s.env.length : Int)) (by kernel_rfl) (fun h => by omega) (fun _ => ?_)
      refine Hs.run0 300 (fun _ => by kernel_rfl) ?_
      exact Hs.ret (v := .bool true) Tryz.func16 (by kernel_rfl) fun w' H => ⟨rfl, H.only⟩
    | succ d ih =>
      intro i hd hi b0 b1 u
      have hil : i < s.env.length := by omega
      obtain ⟨x, hx⟩ : ∃ x, s.env[i]? = some x := ⟨_, List.getElem?_eq_getElem hil⟩
      obtain ⟨ab, aoff, hA, _, _⟩ := hr (by omega)
      obtain ⟨bb, boff, hB, _, _⟩ := hq (by omega)
      have hih := fun b0 b1 u => ih (i + 1) (by omega) (by omega) b0 b1 u
      clear ih
      rw [hA, hB] at hih
      rw [hA] at hr ⊢
      rw [hB] at hq ⊢
      refine Hs.run0 300 (fun _ => by kernel_rfl) ?_
      refine Hs.condP ((i : Int) < (s.env.length : Int)) (by kernel_rfl) (fun _ => ?_) (fun h => by omega)
      refine Hs.run0 300 (fun _ => by kernel_rfl) ?_
      refine Hs.any [0, 1] (by kernel_rfl) ?_
      refine Hs.run0 300 (fun _ => by kernel_rfl) ?_
      refine Hs.takeIdx (rd := [0, 1]) 3 elemRv27 (b := ab) (off := aoff) (c := cap) (len := s.env.length) (i := i) hil (by kernel_rfl) ?_
      refine Hs.takeIdx (rd := [0, 1]) 8 elemRv27 (b := bb) (off := boff) (c := cb) (len := s.env.length) (i := i) hil (by kernel_rfl) ?_
      refine Hs.branch2 4 9 (by kernel_rfl) ?_ ?_
      · refine Hs.ldx (cf := cVar) (size := 2) (E := 76) (b := ab) (off := aoff) (i := i) (l := s.env) (x := x) cVar_len (.g x.sc) (by kernel_rfl) (fun w' H => hr.only H.only) hx (by kernel_rfl) (by kernel_rfl) rfl (by kernel_rfl) ?_
        refine Hs.run0 300 (fun _ => by kernel_rfl) ?_
        refine Hs.ldx (cf := cVar) (size := 2) (E := 76) (b := bb) (off := boff) (i := i) (l := s.env) (x := x) cVar_len (.g x.sc) (by kernel_rfl) (fun w' H => hq.only H.only) hx (by kernel_rfl) (by kernel_rfl) rfl (by kernel_rfl) ?_
        refine Hs.sel1 10 (by kernel_rfl) ?_
        refine Hs.same (op := .neq) (T := 76) #[.string x.n, .string x.v] false (by kernel_rfl) (.inr ⟨rfl, rfl⟩) (by kernel_rfl) ?_
        refine Hs.run0 300 (fun _ => by kernel_rfl) ?_
        refine Hs.condF (by kernel_rfl) ?_
        refine Hs.run0 300 (fun _ => by kernel_rfl) ?_
        refine Hs.slot 51 (.c (.v (.int .i64 (i + 1 : Nat)))) rfl ((by kernel_rfl : _ = Value.int .i64 (IntKind.i64.wrap ((i : Int) + 1))).trans (wrap_nextJ (Nat.le_trans hle (by unfold maxLen; omega)))) ?_
        refine Hs.loop (by kernel_rfl) ?_
        exact Hs.goto (loopAt Tryz.f16 0) [0, 1] [.b true 49 (s.sc (some ⟨ab, aoff, none⟩) cap), .b true 49 (s.sc (some ⟨bb, boff, none⟩) cb)] [(2, .c (.p 0 0)), (3, .c (.p 1 0)), (50, .c (.v (.int .i64 s.env.length))), (51, .c (.v (.int .i64 (i + 1 : Nat))))] (by kernel_rfl) (by decide) (by kernel_rfl) (by kernel_rfl) (fun _ => (by kernel_rfl)) (fun u => hih b0 b1 u)
      · refine Hs.ldx (cf := cVar) (size := 2) (E := 76) (b := bb) (off := boff) (i := i) (l := s.env) (x := x) cVar_len (.g x.sc) (by kernel_rfl) (fun w' H => hq.only H.only) hx (by kernel_rfl) (by kernel_rfl) rfl (by kernel_rfl) ?_
        refine Hs.run0 300 (fun _ => by kernel_rfl) ?_
        refine Hs.ldx (cf := cVar) (size := 2) (E := 76) (b := ab) (off := aoff) (i := i) (l := s.env) (x := x) cVar_len (.g x.sc) (by kernel_rfl) (fun w' H => hr.only H.only) hx (by kernel_rfl) (by kernel_rfl) rfl (by kernel_rfl) ?_
        refine Hs.sel1 10 (by kernel_rfl) ?_
        refine Hs.same (op := .neq) (T := 76) #[.string x.n, .string x.v] false (by kernel_rfl) (.inr ⟨rfl, rfl⟩) (by kernel_rfl) ?_
        refine Hs.run0 300 (fun _ => by kernel_rfl) ?_
        refine Hs.condF (by kernel_rfl) ?_
        refine Hs.run0 300 (fun _ => by kernel_rfl) ?_
        refine Hs.slot 51 (.c (.v (.int .i64 (i + 1 : Nat)))) rfl ((by kernel_rfl : _ = Value.int .i64 (IntKind.i64.wrap ((i : Int) + 1))).trans (wrap_nextJ (Nat.le_trans hle (by unfold maxLen; omega)))) ?_
        refine Hs.loop (by kernel_rfl) ?_
        exact Hs.goto (loopAt Tryz.f16 0) [0, 1] [.b true 49 (s.sc (some ⟨ab, aoff, none⟩) cap), .b true 49 (s.sc (some ⟨bb, boff, none⟩) cb)] [(2, .c (.p 0 0)), (3, .c (.p 1 0)), (50, .c (.v (.int .i64 s.env.length))), (51, .c (.v (.int .i64 (i + 1 : Nat))))] (by kernel_rfl) (by decide) (by kernel_rfl) (by kernel_rfl) (fun _ => (by kernel_rfl)) (fun u => hih b0 b1 u)
  refine Hs.enter Tryz.func16 [] [] [] [.g (s.sc A cap), .g (s.sc B cb)] (Mem.start0 w) (by kernel_rfl) (by kernel_rfl) ?_
  refine Hs.run2 300 (fun _ => by kernel_rfl) fun b0 b1 => ?_
  refine Hs.bool 11 (s.pty != s.pty) (by kernel_rfl) (fun h => by simp at h) (fun _ => ?_)
  refine Hs.rung0 [5] 300 (fun _ => by kernel_rfl) ?_
  refine Hs.bool 18 (!(s.term.toList == s.term.toList)) (by kernel_rfl) (fun h => by simp at h) (fun _ => ?_)
  refine Hs.rung0 [5, 12] 9 (fun _ => by kernel_rfl) ?_
  refine Hs.same (op := .neq) (T := 24) #[.int .u32 s.c0, .int .u32 s.c1, .int .u32 s.c2, .int .u32 s.c3] false (by kernel_rfl) (.inr ⟨rfl, rfl⟩) (by kernel_rfl) ?_
  refine Hs.rung0 [12, 19] 11 (fun _ => by kernel_rfl) ?_
  refine Hs.sameA (op := .neq) (T := 28) (TM.cells s.t).toArray false (by kernel_rfl) (.inr ⟨rfl, rfl⟩) (by kernel_rfl) ?_
  refine Hs.rung0 [19, 26] 300 (fun _ => by kernel_rfl) ?_
  refine Hs.bool 39 (s.st != s.st) (by kernel_rfl) (fun h => by simp at h) (fun _ => ?_)
  refine Hs.rung0 [26, 33] 300 (fun _ => by kernel_rfl) ?_
  refine Hs.cond ((s.env.length : Int) != (s.env.length : Int)) (by kernel_rfl) (fun h => by simp at h) (fun _ => ?_)
  refine Hs.run0 300 (fun _ => by kernel_rfl) ?_
  refine Hs.loop (by kernel_rfl) ?_
  exact Hs.goto (loopAt Tryz.f16 0) [0, 1] [.b true 49 (s.sc A cap), .b true 49 (s.sc B cb)] [(2, .c (.p 0 0)), (3, .c (.p 1 0)), (50, .c (.v (.int .i64 s.env.length))), (51, .c (.v (.int .i64 (0 : Nat))))] (by kernel_rfl) (by decide) (by kernel_rfl) (by kernel_rfl) (fun _ => (by kernel_rfl)) (fun u => J s.env.length 0 (by omega) (by omega) b0 b1 u)
end Go.Proofs.YtdplnedpbkpgpaaGreatDoor

namespace Go.Proofs.YtdplnedpbkpgpaaGreatDoor
set_option linter.all false
open Go.RowKit

/-- What Encode hands on. -/
def EncPost (w : World) (m : RQ) : Ending → World → Prop := fun e w' => Only [] w w' ∧ ∃ v, e = .returned (.tuple #[.string (encName m), v, .int .i64 (encR m).1]) ∧ OwnB w' w.heap.size v (encR m).2
theorem fcells_set : ∀ (fs : List FD) (i : Nat) (f : FD) (x : Int), fs[i]? = some f → (fcells fs).set (i * 4) (.int .i64 x) = fcells (fs.set i { f with kind := x })
  | [], i, f, x, h => by simp at h
  | g :: fs, 0, f, x, h => by
    simp at h
    subst h
    rfl
  | g :: fs, i + 1, f, x, h => by
    simp at h
    have ih := fcells_set fs i f x h
    unfold fcells at ih ⊢
    rw [List.set_cons_succ, List.flatMap_cons, List.flatMap_cons, ← ih]
    have e : (i + 1) * 4 = g.cells.length + i * 4 := by simp [FD.cells]; omega
    rw [e, List.set_append_right _ _ (by omega)]
    congr 2
    omega
theorem ownF_set {w : World} {base g cap n : Nat} {fs : List FD} (hn : fs.length = n) (h : OwnF w base (.slice (some ⟨g, 0, none⟩) n cap) fs) (i : Nat) (f : FD) (x : Int) (hi : fs[i]? = some f) :
    OwnF (w.setCell ⟨g, i * 4, none⟩ (.int .i64 x)) base (.slice (some ⟨g, 0, none⟩) n cap) (fs.set i { f with kind := x }) := by
  subst hn
  have := (World.ownsRow.stored h (i * 4) (.int .i64 x)).1
  show World.ownsRow _ _ _ _ _ _ _
  rw [List.length_set, ← fcells_set fs i f x hi]
  exact this
theorem ownF_at {w : World} {base g cap n : Nat} {fs : List FD} (hn : fs.length = n) (h : OwnF w base (.slice (some ⟨g, 0, none⟩) n cap) fs) (i : Nat) (f : FD) (hi : fs[i]? = some f) :
    w.cell? ⟨g, i * 4, none⟩ = some (.int .i64 f.kind) ∧ w.frozen? ⟨g, i * 4, none⟩ = false := by
  subst hn
  have hl : i < fs.length := (List.getElem?_eq_some_iff.1 hi).1
  refine ⟨?_, World.ownsRow.frozenAt h _⟩
  rw [World.ownsRow.cellAt h (i * 4) (by omega), ← Nat.add_zero (i * 4), fcells_at fs i f 0 hi (by decide)]
  rfl
theorem ok_setC {w : World} {f : FD} {g i n cap : Nat} {u : Value} (h : FD.ok w f) (ho : f.off (.slice (some ⟨g, 0, none⟩) n cap)) : FD.ok (w.setCell ⟨g, i, none⟩ u) f := by
  have P : Only [g] w (w.setCell ⟨g, i, none⟩ u) := (Only.refl [g] w).setCell (p := ⟨g, i, none⟩) (.inl (by simp)) u
  exact { h with text := h.text.onlyL P (fun a ha h0 hx => ho.1 a ha h0 (by simp at hx; rw [hx]; rfl)), list := h.list.onlyL P (fun a ha h0 hx => ho.2 a ha h0 (by simp at hx; rw [hx]; rfl)) }
theorem set_mid {α : Type} (l m : List α) (k : Nat) (x : α) (hl : l.length = m.length) (hx : l[k]? = some x) : (l.take k ++ m.drop k).set k x = l.take (k + 1) ++ m.drop (k + 1) := by
  have hk : k < l.length := (List.getElem?_eq_some_iff.1 hx).1
  rw [List.set_append_right _ _ (by simp; omega)]
  have e : k - (l.take k).length = 0 := by simp; omega
  rw [e, List.drop_eq_getElem_cons (by omega : k < m.length), List.set_cons_zero, List.take_succ, hx]
  simp
/-- The fields with the first kinds set. -/
def MidP (m : RQ) (k i : Nat) : List PF := (partsR m k).take i ++ ((partsR m k).map (fun p => { p with kind := 0 })).drop i
theorem mid_step (m : RQ) (k i : Nat) (p : PF) (hp : (partsR m k)[i]? = some p) (fs : List FD) (f : FD) (hf : fs[i]? = some f) (h : fs.map FD.pf = MidP m k i) : (fs.set i { f with kind := p.kind }).map FD.pf = MidP m k (i + 1) := by
  have hil : i < (partsR m k).length := (List.getElem?_eq_some_iff.1 hp).1
  rw [List.map_set, h]
  unfold MidP
  have hfp : FD.pf { f with kind := p.kind } = p := by
    have e1 : (fs.map FD.pf)[i]? = some f.pf := by rw [List.getElem?_map, hf]; rfl
    rw [h] at e1
    unfold MidP at e1
    rw [List.getElem?_append_right (by simp; omega), List.getElem?_drop] at e1
    have e2 : i + (i - ((partsR m k).take i).length) = i := by simp; omega
    rw [e2, List.getElem?_map, hp] at e1
    have e3 : f.pf = { p with kind := 0 } := by simpa using e1.symm
    have n1 : f.n = p.n := congrArg PF.n e3
    have n2 : f.text = p.text := congrArg PF.text e3
    have n3 : f.list = p.list := congrArg PF.list e3
    unfold FD.pf
    dsimp only
    rw [n1, n2, n3]
  rw [hfp]
  exact set_mid _ _ i p (by simp) hp
theorem mid0 {m : RQ} {k : Nat} {fs : List FD} (h : fs.map FD.pf = (partsR m k).map (fun p => { p with kind := 0 })) : fs.map FD.pf = MidP m k 0 := by
  rw [h]
  rfl
theorem mid_end (m : RQ) (k n : Nat) (h : (partsR m k).length = n) : MidP m k n = partsR m k := by
  unfold MidP
  rw [List.take_of_length_le (by omega), List.drop_of_length_le (by simp; omega), List.append_nil]
theorem mem_set {α : Type} {l : List α} {i : Nat} {x : α} {P : α → Prop} (h : ∀ y ∈ l, P y) (hx : P x) : ∀ y ∈ l.set i x, P y := fun y hy => by
  rcases List.mem_or_eq_of_mem_set hy with h1 | rfl
  · exact h y h1
  · exact hx
theorem encR_none {m : RQ} (h : ¬ (1 ≤ m.kind ∧ m.kind ≤ 10)) : encR m = (8, []) := if_neg h
theorem encR_ask {m : RQ} {k : Nat} (h1 : 1 ≤ k) (h2 : k ≤ 10) (hk : m.kind = k) (h : askR m k ≠ 0) : encR m = (askR m k, []) := by
  unfold encR
  rw [hk, Int.toNat_natCast, if_pos (by omega), if_pos h]
theorem encR_go {m : RQ} {k : Nat} (h1 : 1 ≤ k) (h2 : k ≤ 10) (hk : m.kind = k) (h : askR m k = 0) : encR m = writeP (partsR m k) := by
  unfold encR
  rw [hk, Int.toNat_natCast, if_pos (by omega), if_neg (by simpa using h)]
theorem encName_bad {m : RQ} (h : (encR m).1 ≠ 0) : encName m = ⟨#[]⟩ := if_neg h
theorem encName_ok {m : RQ} {k : Nat} (hk : m.kind = k) (h : (encR m).1 = 0) : encName m = rname k := by
  unfold encName
  rw [if_pos h, hk, Int.toNat_natCast]
theorem encPost_bad (w w' : World) (m : RQ) (E : Int) (h : encR m = (E, [])) (hE : E ≠ 0) (P : Only [] w w') : EncPost w m (.returned (.tuple #[.string ⟨#[]⟩, .slice none 0 0, .int .i64 E])) w' := by
  unfold EncPost
  rw [encName_bad (by rw [h]; exact hE), h]
  exact ⟨P, _, rfl, ownB_nil _ _⟩
set_option maxRecDepth 100000 in
set_option maxHeartbeats 6400000 in
theorem rencode_any (m : RQ) (w : World) (hm : m.ok w) (hs : m.text.size ≤ 140737488355328) (hv : m.value.size ≤ 140737488355328) (hl : m.lang.size ≤ 140737488355328) : Calls Tryz.prog 20 #[m.val] w (EncPost w m) := by
  obtain ⟨w1, hw1⟩ : ∃ w1, w1 = w.alloc (.cells #[.int .i64 m.kind, .string m.text, .string m.value, .string m.lang, .int .u32 m.cols, .int .u32 m.rows, .int .u32 m.width, .int .u32 m.height, .slice m.mA m.modes.length m.mc, .bool m.on, .int .u32 m.code] 63) := ⟨_, rfl⟩
  have P1 : Only [] w w1 := by rw [hw1]; exact (Only.refl _ _).alloc _
  have K1 : Blk w1 w.heap.size 63 m.cells := by rw [hw1]; exact Blk.new w _ _
  unfold RQ.val
  by_cases hk : 1 ≤ m.kind ∧ m.kind ≤ 10
  · obtain ⟨k, hkk⟩ := Int.eq_ofNat_of_zero_le (show 0 ≤ m.kind by omega)
    have h1 : 1 ≤ k := by omega
    have h2 : k ≤ 10 := by omega
    have OF := rof_any k h1 h2 w1
    rw [← hkk] at OF
    obtain ⟨F1, hF1, cF1, C1⟩ := rget_any k h1 h2
    obtain ⟨F3, hF3, cF3, C3⟩ := ask_any k h1 h2
    have hen : askR m k = 0 → encR m = writeP (partsR m k) := encR_go h1 h2 hkk
    have hea : askR m k ≠ 0 → encR m = (askR m k, []) := encR_ask h1 h2 hkk
    have hnk : (encR m).1 = 0 → encName m = rname k := encName_ok hkk
    obtain ⟨n, hn⟩ : ∃ n, (rkinds k).length = n := ⟨_, rfl⟩
    obtain ⟨nm, hnm⟩ : ∃ nm, rname k = nm := ⟨_, rfl⟩
    obtain ⟨F2, hF2⟩ : ∃ F, rput k = F := ⟨_, rfl⟩
    obtain ⟨E0, hE0⟩ : ∃ E, askR m k = E := ⟨_, rfl⟩
    rw [hE0] at hen hea
    have hpk := parts_kinds m k h1 h2
    have hn10 : n ≤ 10 := by rw [← hn]; rcases k10 h1 h2 with rfl | rfl | rfl | rfl | rfl | rfl | rfl | rfl | rfl | rfl <;> decide
    have hpl : (partsR m k).length = n := by rw [← hn, ← hpk, List.length_map]
    replace hen := hide hen
    replace hea := hide hea
    replace hnk := hide hnk
    replace hpl := hide hpl
    replace hpk := hide hpk
    replace hkk := hide hkk
    replace C1 := hide C1
    replace C3 := hide C3
    replace hk := hide hk
    go_enter Tryz.func20, Tryz.ntmps20
    go_wp2_with fail
    rw [← hw1]
    replace hw1 := hide hw1
    go_call OF as e w2 ⟨P2, KA, rfl, R2⟩
    clear OF
    unfold ruleV rfn
    rw [hn, hF1, hF2, hF3, hnm]
    replace hn := hide hn
    replace hF1 := hide hF1
    replace hF2 := hide hF2
    replace hF3 := hide hF3
    replace hnm := hide hnm
    have K2 := K1.only P2 (by simp)
    have Q2 : Only [] w w2 := P1.trans P2 (by simp)
    have B3 : Blk (w2.alloc (.cells #[.string nm, .slice KA n n, .func (Fn.func F1) #[] #[], .func (Fn.func F2) #[] #[], .func (Fn.func F3) #[] #[]] 114)) w2.heap.size 114 [.string nm, .slice KA n n, .func (Fn.func F1) #[] #[], .func (Fn.func F2) #[] #[], .func (Fn.func F3) #[] #[]] := Blk.new _ _ _
    have P3 : Only [] w2 (w2.alloc (.cells #[.string nm, .slice KA n n, .func (Fn.func F1) #[] #[], .func (Fn.func F2) #[] #[], .func (Fn.func F3) #[] #[]] 114)) := (Only.refl _ _).alloc _
    have z3 : (w2.alloc (.cells #[.string nm, .slice KA n n, .func (Fn.func F1) #[] #[], .func (Fn.func F2) #[] #[], .func (Fn.func F3) #[] #[]] 114)).heap.size = w2.heap.size + 1 := by simp
    obtain ⟨w3, hw3⟩ : ∃ w3, w3 = w2.alloc (.cells #[.string nm, .slice KA n n, .func (Fn.func F1) #[] #[], .func (Fn.func F2) #[] #[], .func (Fn.func F3) #[] #[]] 114) := ⟨_, rfl⟩
    rw [← hw3] at B3 P3 z3
    have B4 := B3.alloc (.cells #[.int .i64 m.kind, .string m.text, .string m.value, .string m.lang, .int .u32 m.cols, .int .u32 m.rows, .int .u32 m.width, .int .u32 m.height, .slice m.mA m.modes.length m.mc, .bool m.on, .int .u32 m.code] 119)
    have P4 : Only [] w3 (w3.alloc (.cells #[.int .i64 m.kind, .string m.text, .string m.value, .string m.lang, .int .u32 m.cols, .int .u32 m.rows, .int .u32 m.width, .int .u32 m.height, .slice m.mA m.modes.length m.mc, .bool m.on, .int .u32 m.code] 119)) := (Only.refl _ _).alloc _
    have K4 : Blk (w3.alloc (.cells #[.int .i64 m.kind, .string m.text, .string m.value, .string m.lang, .int .u32 m.cols, .int .u32 m.rows, .int .u32 m.width, .int .u32 m.height, .slice m.mA m.modes.length m.mc, .bool m.on, .int .u32 m.code] 119)) w3.heap.size 119 m.cells := Blk.new _ _ _
    have K3 := K2.only P3 (by simp)
    rw [z3] at K4
    obtain ⟨w4, hw4⟩ : ∃ w4, w4 = w3.alloc (.cells #[.int .i64 m.kind, .string m.text, .string m.value, .string m.lang, .int .u32 m.cols, .int .u32 m.rows, .int .u32 m.width, .int .u32 m.height, .slice m.mA m.modes.length m.mc, .bool m.on, .int .u32 m.code] 119) := ⟨_, rfl⟩
    rw [← hw4] at B4 P4 K4
    have Q4 : Only [] w w4 := (Q2.trans P3 (by simp)).trans P4 (by simp)
    have A4 := C3.out w4 m _ K4 (hm.only Q4)
    rw [hE0] at A4
    replace hE0 := hide hE0
    have x0 := B4.cell 0
    have x1 := B4.cell 1
    have x2 := B4.cell 2
    have x4 := B4.cell 4
    simp only [List.getElem?_cons_zero, List.getElem?_cons_succ] at x0 x1 x2 x4
    have hlt2 := K2.lt
    have hne : ¬ w.heap.size = w2.heap.size := by omega
    have c0 : w2.cell? ⟨w.heap.size, 0, none⟩ = some (.int .i64 m.kind) := K2.cell 0
    have c1 : w2.cell? ⟨w.heap.size, 1, none⟩ = some (.string m.text) := K2.cell 1
    have c2 : w2.cell? ⟨w.heap.size, 2, none⟩ = some (.string m.value) := K2.cell 2
    have c3 : w2.cell? ⟨w.heap.size, 3, none⟩ = some (.string m.lang) := K2.cell 3
    have c4 : w2.cell? ⟨w.heap.size, 4, none⟩ = some (.int .u32 m.cols) := K2.cell 4
    have c5 : w2.cell? ⟨w.heap.size, 5, none⟩ = some (.int .u32 m.rows) := K2.cell 5
    have c6 : w2.cell? ⟨w.heap.size, 6, none⟩ = some (.int .u32 m.width) := K2.cell 6
    have c7 : w2.cell? ⟨w.heap.size, 7, none⟩ = some (.int .u32 m.height) := K2.cell 7
    have c8 : w2.cell? ⟨w.heap.size, 8, none⟩ = some (.slice m.mA m.modes.length m.mc) := K2.cell 8
    have c9 : w2.cell? ⟨w.heap.size, 9, none⟩ = some (.bool m.on) := K2.cell 9
    have c10 : w2.cell? ⟨w.heap.size, 10, none⟩ = some (.int .u32 m.code) := K2.cell 10
    replace z3 := hide z3
    go_wp2_with fail
    rw [← hw3, ← hw4]
    go_call A4 as e w5 ⟨rfl, P5⟩
    clear A4
    clear c0 c1 c2 c3 c4 c5 c6 c7 c8 c9 c10
    have B5 := B4.only P5 (by simp)
    have K5 := K4.only P5 (by simp)
    have Q5 : Only [] w w5 := Q4.trans P5 (by simp)
    replace hw3 := hide hw3
    replace hw4 := hide hw4
    have hR2 : RdI w5 KA (rkinds k) := ((R2.only P3).only P4).only P5
    clear x0 x1 x2 x4
    have x0 := B5.cell 0
    have x1 := B5.cell 1
    have x2 := B5.cell 2
    simp only [List.getElem?_cons_zero, List.getElem?_cons_succ] at x0 x1 x2
    by_cases hE : E0 = 0
    · have hew := hen.out hE
      replace hew := hide hew
      subst hE
      have A5 := C1.out w5 m _ K5 (hm.only Q5) hs hv hl
      go_wp2_with fail
      go_call A5 as e w6 ⟨P6, v, fs, rfl, V6, hp, M6, N6⟩
      clear A5
      have B6 := B5.only P6 (by simp)
      have Q6 : Only [] w w6 := Q5.trans P6 (by simp)
      have hR6 := hR2.only P6
      have hfl : fs.length = n := by
        have := congrArg List.length hp
        rw [List.length_map, List.length_map, hpl.out] at this
        exact this
      obtain ⟨A, cap, rfl, hc, hcm, _⟩ := V6.form
      rw [hfl] at V6 hc M6 ⊢
      have M0 := mid0 hp
      have zq := Q5.size
      have hbk := B5.lt
      clear x0 x1 x2
      go_wp2_with fail
      go_loopw [37] (fun ii wr => ∃ (i : Nat) (gs : List FD), i ≤ n ∧ ii = .int .i64 i ∧ Hid (gs.length = n) ∧ Hid (gs.map FD.pf = MidP m k i) ∧ OwnF wr w5.heap.size (.slice A n cap) gs ∧ (∀ f ∈ gs, FD.ok wr f ∧ f.off (.slice A n cap)) ∧ (∀ f ∈ gs, U32 f.n) ∧ Only [] w5 wr) (fun ii _ => n - (intOf ii).toNat)
      case atStart => exact ⟨0, fs, by omega, rfl, hide hfl, hide M0, V6, M6, N6, P6⟩
      case round =>
        obtain ⟨wo, rfl⟩ : ∃ wo : World, wo = wr := ⟨_, rfl⟩
        obtain ⟨i, gs, hin, rfl, hgl, hmp, V, M, N, O⟩ := hrel
        have Bo := B5.only O (by simp)
        have x0 := Bo.cell 0
        have x1 := Bo.cell 1
        simp only [List.getElem?_cons_zero, List.getElem?_cons_succ] at x0 x1
        by_cases hlt : i < n
        · obtain ⟨kb, koff, x, rfl, hkb, hx, cx⟩ := RdG.at (hR2.only O) i (by have := hn.out; omega)
          obtain ⟨A', cap', e1, _, _, hA⟩ := V.form
          obtain ⟨ga, hga, hga1, hga2, _⟩ := hA (by have := hgl.out; omega)
          obtain rfl : A = some ⟨ga, 0, none⟩ := by rw [← hga]; exact (Value.slice.inj e1).1
          obtain ⟨f, hf⟩ : ∃ f, gs[i]? = some f := ⟨_, List.getElem?_eq_getElem (by have := hgl.out; omega)⟩
          obtain ⟨p, hpp⟩ : ∃ p, (partsR m k)[i]? = some p := ⟨_, List.getElem?_eq_getElem (by have := hpl.out; omega)⟩
          have hpx : p.kind = x := by
            rw [← hpk.out, List.getElem?_map, hpp] at hx
            simpa using hx
          obtain ⟨cf, zf⟩ := ownF_at hgl.out V i f hf
          have V' := ownF_set hgl.out V i f x hf
          have hst := mid_step m k i p hpp gs f hf hmp.out
          rw [hpx] at hst
          have hgl' : (gs.set i { f with kind := x }).length = n := by rw [List.length_set]; exact hgl.out
          have M' : ∀ y ∈ gs.set i { f with kind := x }, FD.ok (wo.setCell ⟨ga, i * 4, none⟩ (.int .i64 x)) y ∧ y.off (.slice (some ⟨ga, 0, none⟩) n cap) := by
            have hfm := M f (List.mem_of_getElem? hf)
            refine mem_set (fun y hy => ⟨ok_setC (M y hy).1 (M y hy).2, (M y hy).2⟩) ⟨?_, hfm.2⟩
            exact ok_setC (FD.ok.with hfm.1 x f.n) hfm.2
          have N' : ∀ y ∈ gs.set i { f with kind := x }, U32 y.n := mem_set N (N f (List.mem_of_getElem? hf))
          have O' : Only [] w5 (wo.setCell ⟨ga, i * 4, none⟩ (.int .i64 x)) := O.setCell (p := ⟨ga, i * 4, none⟩) (.inr hga1) _
          replace hf := hide hf
          replace hpp := hide hpp
          replace hpx := hide hpx
          replace hx := hide hx
          replace hst := hide hst
          replace hgl' := hide hgl'
          replace M' := hide M'
          replace N' := hide N'
          clear M N hA e1 hga
          go_wp2_with fail
          go_roundw
          case rel => exact ⟨i + 1, _, by omega, by go_num, hgl', hst, V', M'.out, N'.out, O'⟩
          case measure => simp [intOf]; omega
        · obtain rfl : i = n := by omega
          have hmap : gs.map FD.pf = partsR m k := by
            rw [hmp.out]
            exact mid_end m k i hpl.out
          have RF := V.rdF (fun f hf => ⟨(M f hf).1, N f hf⟩)
          have WR := write_any wo A gs cap RF (by have := hgl.out; omega)
          rw [hmap, ← hew.out, hgl.out] at WR
          obtain ⟨E, hE⟩ : ∃ E, (encR m).1 = E := ⟨_, rfl⟩
          obtain ⟨l, hl2⟩ : ∃ l, (encR m).2 = l := ⟨_, rfl⟩
          have hpair : encR m = (E, l) := by rw [← hE, ← hl2]
          rw [hpair] at WR
          have Qo : Only [] w wo := Q5.trans O (by simp)
          have zo := Qo.size
          replace hmap := hide hmap
          replace hpair := hide hpair
          replace hE := hide hE
          replace hl2 := hide hl2
          clear M N
          go_wp2_with fail
          go_call WR as e w9 ⟨P9, v9, rfl, V9⟩
          clear WR
          have Q9 : Only [] w w9 := Qo.trans P9 (by simp)
          have B9 := Bo.only P9 (by simp)
          have x0 := B9.cell 0
          simp only [List.getElem?_cons_zero, List.getElem?_cons_succ] at x0
          dsimp only
          by_cases hz : E = 0
          · have hfin : EncPost w m (.returned (.tuple #[.string nm, v9, .int .i64 0])) w9 := by
              unfold EncPost
              rw [hE.out, hl2.out, hnk.out (by rw [hE.out]; exact hz), hnm.out, hz]
              exact ⟨Q9, v9, rfl, V9.mono zo⟩
            subst hz
            replace hfin := hide hfin
            go_wp2_with fail
            go_ret3
            exact hfin.out
          · have hzb : (E != 0) = true := by simpa using hz
            have hl0 : l = [] := by rw [← hl2.out]; exact encR_bad (by rw [hE.out]; exact hz)
            have hfin : EncPost w m (.returned (.tuple #[.string ⟨#[]⟩, .slice none 0 0, .int .i64 E])) w9 := encPost_bad w w9 m E (by rw [hpair.out, hl0]) hz Q9
            replace hfin := hide hfin
            replace hl0 := hide hl0
            replace hz := hide hz
            go_wp2_with fail
            go_ret3
            exact hfin.out
    · have hEb : (E0 != 0) = true := by simpa using hE
      have hfin : EncPost w m (.returned (.tuple #[.string ⟨#[]⟩, .slice none 0 0, .int .i64 E0])) w5 := encPost_bad w w5 m E0 (hea.out hE) hE Q5
      replace hfin := hide hfin
      replace hE := hide hE
      go_wp2_with fail
      go_ret3
      exact hfin.out
  · have OF := rof_none m.kind hk w1
    have hfin : ∀ w', Only [] w w' → EncPost w m (.returned (.tuple #[.string ⟨#[]⟩, .slice none 0 0, .int .i64 8])) w' := fun w' P => encPost_bad w w' m 8 (encR_none hk) (by decide) P
    replace hfin := hide hfin
    replace hk := hide hk
    go_enter Tryz.func20, Tryz.ntmps20
    go_wp2_with fail
    rw [← hw1]
    replace hw1 := hide hw1
    go_call OF as e w2 ⟨P2, rfl⟩
    go_wp2_with fail
    go_ret3
    exact hfin.out _ ((P1.trans P2 (by simp)).alloc _)
end Go.Proofs.YtdplnedpbkpgpaaGreatDoor

namespace Go.Proofs.YtdplnedpbkpgpaaGreatDoor
set_option linter.all false
set_option maxRecDepth 100000
open Go.RowKit
theorem flat8 (l : List Int) : l.flatMap cu8 = l.map (.int .u8) := by
  induction l with
  | nil => rfl
  | cons x l ih => rw [List.flatMap_cons, ih]; rfl
theorem rdX_rd {w : World} {A : Option Addr} {l : List Int} (h : RdX cu8 w A l) : Rd w A l := fun h0 => by
  obtain ⟨b, off, e, hlt, hc⟩ := h h0
  exact ⟨b, off, e, hlt, fun i v hi => hc i _ (by rw [flat8, List.getElem?_map, hi]; rfl)⟩
theorem rencode_s {m : RQ} (w : World) (hm : m.ok w) (hs : m.text.size ≤ 140737488355328) (hv : m.value.size ≤ 140737488355328) (hl : m.lang.size ≤ 140737488355328) {l : List Int} {nm : ByteArray} (e1 : encR m = (0, l)) (e2 : encName m = nm) : Calls Tryz.prog 20 #[m.val] w fun e w' => ∃ A cap, e = .returned (.tuple #[.string nm, .slice A l.length cap, .int .i64 0]) ∧ Only [] w w' ∧ OwnX cu8 5 1 w' w.heap.size (.slice A l.length cap) l := by
  refine (rencode_any m w hm hs hv hl).mono fun e w' h => ?_
  obtain ⟨O, v, he, hO⟩ := h
  rw [e1, e2] at he
  rw [e1] at hO
  have hX : OwnX cu8 5 1 w' w.heap.size v l := by
    unfold OwnX
    rw [flat8]
    exact hO
  obtain ⟨A, cap, e3, _⟩ := hX.form
  subst e3
  exact ⟨A, cap, he, O, hX⟩
def exeR : RQ := { zeroR with kind := 4, text := ⟨#[99, 97, 116, 32, 120]⟩ }
def sigR : RQ := { zeroR with kind := 8, text := ⟨#[73, 78, 84]⟩ }
theorem exeR_enc : encR exeR = (0, [0, 0, 0, 5, 99, 97, 116, 32, 120]) := by decide +kernel
theorem sigR_enc : encR sigR = (0, [0, 0, 0, 3, 73, 78, 84]) := by decide +kernel
theorem exeR_name : encName exeR = ⟨#[101, 120, 101, 99]⟩ := by
  unfold encName
  rw [exeR_enc]
  rfl
theorem sigR_name : encName sigR = ⟨#[115, 105, 103, 110, 97, 108]⟩ := by
  unfold encName
  rw [sigR_enc]
  rfl
theorem exR_ok27 (w : World) (m : RQ) (hm : m = exeR ∨ m = sigR) : m.ok w := by
  rcases hm with rfl | rfl
  · exact { zeroR_ok w with text := by decide, nums := by simp [exeR, zeroR, U32, RNums] }
  · exact { zeroR_ok w with text := by decide, nums := by simp [sigR, zeroR, U32, RNums] }
theorem exeR_dec {x : RQ} {E : Int} (h : DecR ⟨#[101, 120, 101, 99]⟩ [0, 0, 0, 5, 99, 97, 116, 32, 120] x E) : E = 0 ∧ x.kind = 4 ∧ x.text = ⟨#[99, 97, 116, 32, 120]⟩ := by
  have := rback_law (m := exeR) (x := x) (E := E) (by simp [exeR, zeroR, U32, RNums]) (by rw [exeR_enc]) (by rw [exeR_enc, exeR_name]; exact h)
  obtain ⟨e, hs, _⟩ := this
  exact ⟨e, hs.kind.symm.trans rfl, hs.text.symm.trans rfl⟩
theorem sigR_dec {x : RQ} {E : Int} (h : DecR ⟨#[115, 105, 103, 110, 97, 108]⟩ [0, 0, 0, 3, 73, 78, 84] x E) : E = 0 ∧ x.kind = 8 ∧ x.text = ⟨#[73, 78, 84]⟩ := by
  have := rback_law (m := sigR) (x := x) (E := E) (by simp [sigR, zeroR, U32, RNums]) (by rw [sigR_enc]) (by rw [sigR_enc, sigR_name]; exact h)
  obtain ⟨e, hs, _⟩ := this
  exact ⟨e, hs.kind.symm.trans rfl, hs.text.symm.trans rfl⟩
def zS : SS := ⟨false, ⟨#[]⟩, 0, 0, 0, 0, zeroT, [], false⟩
def zS1 : SS := { zS with st := true }
def psC : List PR := [⟨⟨#[99, 97, 116]⟩, none, 0, 0⟩, ⟨⟨#[115, 104]⟩, none, 0, 0⟩]
theorem exA27 {x : RQ} (hk : x.kind = 4) (ht : x.text = ⟨#[99, 97, 116, 32, 120]⟩) : askM zS x 0 psC = (zS1, ⟨true, 1, 0, 0, 0, 0, 0, 0⟩) := by
  unfold askM
  rw [if_neg (by simp), hk]
  show startS zS (cutS x.text) psC = _
  rw [ht]
  kernel_rfl
theorem exB27 {x : RQ} (hk : x.kind = 8) (ht : x.text = ⟨#[73, 78, 84]⟩) : askM zS x 0 psC = (zS, noA) := by
  unfold askM
  rw [if_neg (by simp), hk]
  show sigM zS x = _
  rfl
theorem exC27 {x : RQ} (hk : x.kind = 8) (ht : x.text = ⟨#[73, 78, 84]⟩) : askM zS1 x 0 psC = (zS1, ⟨true, 3, 0, 2, 0, 0, 0, 0⟩) := by
  unfold askM
  rw [if_neg (by simp), hk]
  show sigM zS1 x = _
  unfold sigM
  rw [ht]
  kernel_rfl
def busT : ByteArray := ⟨#[66, 85, 83, 64, 112, 97, 114, 108, 111, 117, 114]⟩
theorem end2007 : endR 2007 = { zeroR with kind := 10, text := busT, on := true } := by kernel_rfl
theorem end3 : endR 3 = { zeroR with kind := 9, code := 3 } := by kernel_rfl
theorem end1002 : endR 1002 = { zeroR with kind := 10, text := ⟨#[73, 78, 84]⟩ } := by kernel_rfl
end Go.Proofs.YtdplnedpbkpgpaaGreatDoor

namespace Go.Proofs.YtdplnedpbkpgpaaGreatDoor
set_option linter.all false
set_option maxRecDepth 100000
open Go.RowKit
/-- What an example asks: a session of no variables. -/
theorem askX {s : SS} {z : SS × AC} {nam : ByteArray} {l : List Int} (hs : s.env = []) (hz : z.1.env = []) (hl : ∀ x ∈ l, 0 ≤ x ∧ x < 256) (h0 : 0 < l.length) (hn : l.length ≤ 100) (hdec : ∀ x E, DecR nam l x E → E = 0 ∧ askM s x 0 psC = z) (A : Option Addr) (cap : Nat) (B : Option Addr) (c : Nat) (pb : Nat) (w : World) (i0 : Int) (h00 : w.cell? ⟨0, 0, none⟩ = some (.int .i64 i0)) (hB : RdX cu8 w B l) (hc1 : l.length ≤ c) (hc2 : c ≤ maxLen) (hp : RdX cPr w (some ⟨pb, 0, none⟩) psC) :
    Calls Tryz.prog 11 #[s.val A cap, .string nam, .slice B l.length c, .slice (some ⟨pb, 0, none⟩) 2 2] w fun e w' => ∃ x : Option Addr × Nat, e = .returned (.tuple #[z.1.val x.1 x.2, z.2.val]) ∧ Only [] w w' ∧ True := by
  refine (ask_any27 s A cap nam B c l (some ⟨pb, 0, none⟩) 2 psC w i0 h00 (fun h => by rw [hs] at h; exact absurd h (by simp)) (by rw [hs]; exact Nat.zero_le _) (rdX_rd hB) hl (by omega) hc1 hc2 (fun a ha => by
    obtain ⟨b, off, e, hlt, _⟩ := hB h0
    rw [ha] at e
    injection e with e
    rw [e]
    exact hlt) hp (by decide)).mono fun e w' h => ?_
  obtain ⟨O, m, E, A', cap', hD, he, _⟩ := h
  obtain ⟨rfl, hm⟩ := hdec m E hD
  rw [hm] at he
  exact ⟨(A', cap'), he, O, trivial⟩
theorem alive27_any (w : World) (i0 : Int) (h00 : w.cell? ⟨0, 0, none⟩ = some (.int .i64 i0)) : Calls Tryz.prog 8 #[] w fun e w' => e = .returned (.bool true) ∧ Only [] w w' := by
  refine Hs.enter Tryz.func8 [] [] [] [] (Mem.start0 w) (by kernel_rfl) (by kernel_rfl) ?_
  refine Hs.run1 300 (fun _ => by kernel_rfl) fun b0 => ?_
  refine Hs.callS (cf := cu8) (E := 5) (size := 1) (fun A cap => .tuple #[.string ⟨#[101, 120, 101, 99]⟩, .slice A 9 cap, .int .i64 0]) [0, 0, 0, 5, 99, 97, 116, 32, 120] 9 rfl (fun w' H => rencode_s w' (exR_ok27 w' exeR (.inl rfl)) (by decide) (by decide) (by decide) exeR_enc exeR_name) (by kernel_rfl) (by kernel_rfl) fun B1 c1 h1 h2 => ?_
  refine Hs.run0 300 (fun _ => by kernel_rfl) ?_
  refine Hs.callS (cf := cu8) (E := 5) (size := 1) (fun A cap => .tuple #[.string ⟨#[115, 105, 103, 110, 97, 108]⟩, .slice A 7 cap, .int .i64 0]) [0, 0, 0, 3, 73, 78, 84] 7 rfl (fun w' H => rencode_s w' (exR_ok27 w' sigR (.inr rfl)) (by decide) (by decide) (by decide) sigR_enc sigR_name) (by kernel_rfl) (by kernel_rfl) fun B2 c2 h3 h4 => ?_
  refine Hs.run0 300 (fun _ => by kernel_rfl) ?_
  refine Hs.callX (v := fun x : Option Addr × Nat => .tuple #[SS.val zS1 x.1 x.2, AC.val ⟨true, 1, 0, 0, 0, 0, 0, 0⟩]) (Q := fun _ => True) (fun w' H => askX (s := zS) (z := (zS1, ⟨true, 1, 0, 0, 0, 0, 0, 0⟩)) rfl rfl (by decide) (by decide) (by decide) (fun x E h => ⟨(exeR_dec h).1, exA27 (exeR_dec h).2.1 (exeR_dec h).2.2⟩) none 0 B1 c1 b0 w' i0 (cell_step H.only h00) (H.rdX 1 (A := B1) (cap := c1) (E := 5) (size := 1) (l := [0, 0, 0, 5, 99, 97, 116, 32, 120]) rfl (by kernel_rfl)) h1 h2 (H.rdB (gs := psC) 0 (wr := true) (T := 81) (cs := psC.flatMap PR.sc) (by kernel_rfl) rfl)) (by kernel_rfl) fun x1 _ => ?_
  obtain ⟨A1, p1⟩ := x1
  refine Hs.run2 300 (fun _ => by kernel_rfl) fun b3 b4 => ?_
  refine Hs.callX (v := fun x : Option Addr × Nat => .tuple #[SS.val zS x.1 x.2, AC.val noA]) (Q := fun _ => True) (fun w' H => askX (s := zS) (z := (zS, noA)) rfl rfl (by decide) (by decide) (by decide) (fun x E h => ⟨(sigR_dec h).1, exB27 (sigR_dec h).2.1 (sigR_dec h).2.2⟩) none 0 B2 c2 b0 w' i0 (cell_step H.only h00) (H.rdX 2 (A := B2) (cap := c2) (E := 5) (size := 1) (l := [0, 0, 0, 3, 73, 78, 84]) rfl (by kernel_rfl)) h3 h4 (H.rdB (gs := psC) 0 (wr := true) (T := 81) (cs := psC.flatMap PR.sc) (by kernel_rfl) rfl)) (by kernel_rfl) fun x2 _ => ?_
  obtain ⟨A2, p2⟩ := x2
  refine Hs.run2 300 (fun _ => by kernel_rfl) fun b5 b6 => ?_
  refine Hs.callX (v := fun x : Option Addr × Nat => .tuple #[SS.val zS1 x.1 x.2, AC.val ⟨true, 3, 0, 2, 0, 0, 0, 0⟩]) (Q := fun _ => True) (fun w' H => askX (s := zS1) (z := (zS1, ⟨true, 3, 0, 2, 0, 0, 0, 0⟩)) rfl rfl (by decide) (by decide) (by decide) (fun x E h => ⟨(sigR_dec h).1, exC27 (sigR_dec h).2.1 (sigR_dec h).2.2⟩) A1 p1 B2 c2 b0 w' i0 (cell_step H.only h00) (H.rdX 2 (A := B2) (cap := c2) (E := 5) (size := 1) (l := [0, 0, 0, 3, 73, 78, 84]) rfl (by kernel_rfl)) h3 h4 (H.rdB (gs := psC) 0 (wr := true) (T := 81) (cs := psC.flatMap PR.sc) (by kernel_rfl) rfl)) (by kernel_rfl) fun x3 _ => ?_
  obtain ⟨A3, p3⟩ := x3
  refine Hs.run2 300 (fun _ => by kernel_rfl) fun b7 b8 => ?_
  refine Hs.callV (v := RQ.val { zeroR with kind := 10, text := busT, on := true }) (fun w' H => by have := end_any27 2007 w'; rw [end2007] at this; exact this) (by kernel_rfl) ?_
  refine Hs.run1 300 (fun _ => by kernel_rfl) fun b9 => ?_
  refine Hs.rung0 [2, 7, 12, 16, 21, 26, 31, 36, 41, 46] 300 (fun _ => by kernel_rfl) ?_
  refine Hs.callV (v := RQ.val { zeroR with kind := 9, code := 3 }) (fun w' H => by have := end_any27 3 w'; rw [end3] at this; exact this) (by kernel_rfl) ?_
  refine Hs.rung0 [2, 7, 12, 16, 21, 26, 31, 36, 41, 46] 300 (fun _ => by kernel_rfl) ?_
  refine Hs.callV (v := RQ.val { zeroR with kind := 10, text := ⟨#[73, 78, 84]⟩ }) (fun w' H => by have := end_any27 1002 w'; rw [end1002] at this; exact this) (by kernel_rfl) ?_
  refine Hs.rung0 [2, 7, 12, 16, 21, 26, 31, 36, 41, 46] 300 (fun _ => by kernel_rfl) ?_
  exact Hs.ret (v := .bool true) Tryz.func8 (by kernel_rfl) fun w' H => ⟨rfl, H.only⟩
end Go.Proofs.YtdplnedpbkpgpaaGreatDoor

namespace Go.Proofs.YtdplnedpbkpgpaaGreatDoor
set_option linter.all false
set_option maxRecDepth 100000
open Go.RowKit
theorem rencode_g {m : RQ} (w : World) (hm : m.ok w) (hs : m.text.size ≤ 140737488355328) (hv : m.value.size ≤ 140737488355328) (hl : m.lang.size ≤ 140737488355328) {E : Int} {l : List Int} {nm : ByteArray} (e1 : encR m = (E, l)) (e2 : encName m = nm) : Calls Tryz.prog 20 #[m.val] w fun e w' => ∃ A cap, e = .returned (.tuple #[.string nm, .slice A l.length cap, .int .i64 E]) ∧ Only [] w w' ∧ OwnX cu8 5 1 w' w.heap.size (.slice A l.length cap) l := by
  refine (rencode_any m w hm hs hv hl).mono fun e w' h => ?_
  obtain ⟨O, v, he, hO⟩ := h
  rw [e1, e2] at he
  rw [e1] at hO
  have hX : OwnX cu8 5 1 w' w.heap.size v l := by
    unfold OwnX
    rw [flat8]
    exact hO
  obtain ⟨A, cap, e3, _⟩ := hX.form
  subst e3
  exact ⟨A, cap, he, O, hX⟩
def sig8 (tx : ByteArray) : RQ := { zeroR with kind := 8, text := tx }
theorem sig8_ok {tx : ByteArray} (h : tx.size ≤ 10000) (w : World) : (sig8 tx).ok w :=
  { zeroR_ok w with text := Nat.le_trans h (by decide), nums := by simp [sig8, zeroR, U32, RNums] }
theorem sig8_dec {tx nm : ByteArray} {l : List Int} {x : RQ} {E : Int} (e1 : encR (sig8 tx) = (0, l)) (e2 : encName (sig8 tx) = nm) (h : DecR nm l x E) : E = 0 ∧ x.kind = 8 ∧ x.text = tx ∧ l.length ≤ 33792 := by
  have := rback_law (m := sig8 tx) (x := x) (E := E) (by simp [sig8, zeroR, U32, RNums]) (by rw [e1]) (by rw [e1, e2]; exact h)
  obtain ⟨e, hs, hl⟩ := this
  rw [e1] at hl
  exact ⟨e, hs.kind.symm.trans rfl, hs.text.symm.trans rfl, hl⟩
def sigT (s : SS) (tx : ByteArray) : AC := if s.st then (if numB tx then (if wireS (numS tx) then ⟨true, 3, 0, numS tx, 0, 0, 0, 0⟩ else noA) else noA) else noA
theorem sig8_ask {s : SS} {tx : ByteArray} {x : RQ} {ps : List PR} (hk : x.kind = 8) (ht : x.text = tx) : askM s x 0 ps = (s, sigT s tx) := by
  unfold askM
  rw [if_neg (by simp), hk]
  show sigM s x = _
  unfold sigM sigT
  rw [ht]
  repeat' split
  all_goals rfl
/-- A session that is asked what is known to be made of it. -/
theorem askS {s : SS} {z : SS × AC} {nam : ByteArray} {l : List Int} {ps : List PR} {n : Nat} (hn : ps.length = n) (hdec : ∀ x E, DecR nam l x E → E = 0 ∧ askM s x 0 ps = z) (A : Option Addr) (cap : Nat) (B : Option Addr) (c : Nat) (pA : Option Addr) (pc : Nat) (w : World) (i0 : Int) (h00 : w.cell? ⟨0, 0, none⟩ = some (.int .i64 i0)) (hs : RdX cVar w A s.env) (hse : s.env.length ≤ 1000000) (hB : RdX cu8 w B l) (hl : ∀ x ∈ l, 0 ≤ x ∧ x < 256) (hln : l.length ≤ 140737488355000) (hc1 : l.length ≤ c) (hc2 : c ≤ maxLen) (hp : RdX cPr w pA ps) (hpl : ps.length ≤ maxLen) (hal : ∀ a, B = some a → a.block < w.heap.size) :
    Calls Tryz.prog 11 #[s.val A cap, .string nam, .slice B l.length c, .slice pA n pc] w fun e w' => ∃ A cap, e = .returned (.tuple #[z.1.val A cap, z.2.val]) ∧ Only [] w w' ∧ OwnX cVar 59 2 w' w.heap.size (.slice A z.1.env.length cap) z.1.env := by
  subst hn
  refine (ask_any27 s A cap nam B c l pA pc ps w i0 h00 hs hse (rdX_rd hB) hl hln hc1 hc2 hal hp hpl).mono fun e w' h => ?_
  obtain ⟨O, m, E, A', cap', hD, he, hO⟩ := h
  obtain ⟨rfl, hm⟩ := hdec m E hD
  rw [hm] at he hO
  exact ⟨A', cap', he, O, hO⟩
theorem ownX_lt {w w0 : World} {L β : List Nat} {hp : List HB} {E size : Nat} (H : Mem w0 L β hp w) (k : Nat) {A : Option Addr} {cap n : Nat} {vs : List Value} (hk : hp[k]? = some (.s A cap n E size vs)) : ∀ a, A = some a → a.block < w.heap.size := fun a ha => by
  subst ha
  exact HB.lies_lt (H.lies k _ hk) rfl
theorem parts_inb27 {w : World} {m : RQ} (ok : m.ok w) (k : Nat) (h1 : 1 ≤ k) (h2 : k ≤ 10) : InB ((partsR m k).flatMap bytesP) := by
  have hT : ∀ s, InB (pT s).text := fun s => u8i_range _
  have hN : InB ([] : List Int) := fun x hx => by simp at hx
  have hp : ∀ p ∈ partsR m k, InB p.text := by
    rcases k10 h1 h2 with rfl | rfl | rfl | rfl | rfl | rfl | rfl | rfl | rfl | rfl <;> intro p hp <;> simp only [partsR, List.mem_cons, List.not_mem_nil, or_false] at hp
    · rcases hp with rfl | rfl | rfl | rfl | rfl | rfl
      · exact hT _
      · exact hN
      · exact hN
      · exact hN
      · exact hN
      · exact ok.bytes
    · rcases hp with rfl | rfl
      · exact hT _
      · exact hT _
    · subst hp; exact hT _
    · subst hp; exact hT _
    · rcases hp with rfl | rfl | rfl | rfl <;> exact hN
    · subst hp; exact hN
    · subst hp; exact hT _
    · subst hp; exact hN
    · rcases hp with rfl | rfl | rfl | rfl
      · exact hT _
      · exact hN
      · exact hT _
      · exact hT _
  intro x hx
  obtain ⟨p, hpm, hxp⟩ := List.mem_flatMap.1 hx
  exact bytesP_range (hp p hpm) x hxp
theorem encR_inb {w : World} {m : RQ} (ok : m.ok w) (hz : (encR m).1 = 0) : InB (encR m).2 := by
  obtain ⟨k, h1, h2, hk, ha, ho, he, hnm⟩ := encR_ok hz
  rw [he]
  exact parts_inb27 ok k h1 h2
theorem encR_len (m : RQ) : (encR m).2.length ≤ 33792 := by
  unfold encR
  split
  · split
    · simp
    · exact writeP_len
  · simp
set_option maxHeartbeats 8000000 in
theorem signals_walk27 (s : SS) (A : Option Addr) (cap : Nat) (tx : ByteArray) (w : World) (i0 : Int) (h00 : w.cell? ⟨0, 0, none⟩ = some (.int .i64 i0)) (hr : RdX cVar w A s.env) : Calls Tryz.prog 6 #[s.val A cap, .string tx] w fun e w' => e = .returned (.bool true) ∧ Only [] w w' := by
  obtain ⟨E, l, hE⟩ : ∃ E l, encR (sig8 tx) = (E, l) := ⟨_, _, rfl⟩
  obtain ⟨nam, hnam⟩ : ∃ nam, encName (sig8 tx) = nam := ⟨_, rfl⟩
  refine Hs.enter Tryz.func6 [] [] [] [.g (s.sc A cap), .c (.v (.string tx))] (Mem.start0 w) (by kernel_rfl) (by kernel_rfl) ?_
  refine Hs.run1 300 (fun _ => by kernel_rfl) fun b0 => ?_
  refine Hs.callV (fun w' H => alive27_any w' i0 (cell_step H.only h00)) (by kernel_rfl) ?_
  refine Hs.run0 300 (fun _ => by kernel_rfl) ?_
  refine Hs.condF (by kernel_rfl) ?_
  refine Hs.run0 300 (fun _ => by kernel_rfl) ?_
  refine Hs.bool 19 (decide ((s.env.length : Int) > 100)) (by kernel_rfl) (fun h1 => ?_) (fun h1 => ?_)
  · refine Hs.rung0 [4] 300 (fun _ => by kernel_rfl) ?_
    refine Hs.condT (by kernel_rfl) ?_
    refine Hs.run0 300 (fun _ => by kernel_rfl) ?_
    exact Hs.ret (v := .bool true) Tryz.func6 (by kernel_rfl) fun w' H => ⟨rfl, H.only⟩
  replace h1 : s.env.length ≤ 100 := by simp at h1; omega
  refine Hs.rung0 [4] 300 (fun _ => by kernel_rfl) ?_
  refine Hs.condP ((tx.size : Int) > 10000) (by kernel_rfl) (fun h2 => ?_) (fun h2 => ?_)
  · refine Hs.run0 300 (fun _ => by kernel_rfl) ?_
    exact Hs.ret (v := .bool true) Tryz.func6 (by kernel_rfl) fun w' H => ⟨rfl, H.only⟩
  replace h2 : tx.size ≤ 10000 := by omega
  refine Hs.run0 300 (fun _ => by kernel_rfl) ?_
  refine Hs.callS (cf := cu8) (E := 5) (size := 1) (fun A cap => .tuple #[.string nam, .slice A l.length cap, .int .i64 E]) l l.length rfl (fun w' H => rencode_g w' (sig8_ok h2 w') (Nat.le_trans h2 (by decide)) (Nat.zero_le _) (Nat.zero_le _) hE hnam) (by kernel_rfl) (by kernel_rfl) fun B1 c1 h3 h4 => ?_
  refine Hs.run0 300 (fun _ => by kernel_rfl) ?_
  refine Hs.cond (E != 0) (by kernel_rfl) (fun h5 => ?_) (fun h5 => ?_)
  · refine Hs.run0 300 (fun _ => by kernel_rfl) ?_
    exact Hs.ret (v := .bool true) Tryz.func6 (by kernel_rfl) fun w' H => ⟨rfl, H.only⟩
  obtain rfl : E = 0 := by simpa using h5
  have hdec : ∀ x E, DecR nam l x E → E = 0 ∧ askM s x 0 [] = (s, sigT s tx) := fun x E h => by
    obtain ⟨h1, h2, h3, _⟩ := sig8_dec hE hnam h
    exact ⟨h1, sig8_ask h2 h3⟩
  have hll := encR_len (sig8 tx)
  have hrng : InB (encR (sig8 tx)).2 := encR_inb (sig8_ok h2 w) (by rw [hE])
  rw [hE] at hll hrng
  replace hll : l.length ≤ 33792 := hll
  replace hrng : ∀ x ∈ l, 0 ≤ x ∧ x < 256 := hrng
  generalize hz : sigT s tx = z at hdec
  refine Hs.run0 300 (fun _ => by kernel_rfl) ?_
  refine Hs.callS (cf := cVar) (E := 59) (size := 2) (fun A cap => s.val A cap) s.env s.env.length rfl (fun w' H => to27_any27 s A cap w' (hr.only H.only) (by omega)) (by kernel_rfl) (by kernel_rfl) fun A2 c2 h6 h7 => ?_
  refine Hs.run1 300 (fun _ => by kernel_rfl) fun b3 => ?_
  refine Hs.callS (cf := cVar) (E := 59) (size := 2) (fun A cap => .tuple #[s.val A cap, z.val]) s.env s.env.length rfl (fun w' H => askS (ps := []) (z := (s, z)) rfl hdec A2 c2 B1 c1 none 0 w' i0 (cell_step H.only h00) (H.rdX 2 rfl (by kernel_rfl : _ = some (HB.s A2 c2 s.env.length 59 2 (s.env.flatMap cVar)))) (by omega) (H.rdX 1 rfl (by kernel_rfl : _ = some (HB.s B1 c1 l.length 5 1 (l.flatMap cu8)))) hrng (by omega) h3 h4 rdX_nil (by decide) (ownX_lt H 1 (by kernel_rfl : _ = some (HB.s B1 c1 l.length 5 1 (l.flatMap cu8))))) (by kernel_rfl) (by kernel_rfl) fun A3 c3 h8 h9 => ?_
  refine Hs.run2 300 (fun _ => by kernel_rfl) fun b5 b6 => ?_
  refine Hs.any [3, 5] (by kernel_rfl) ?_
  refine Hs.run0 300 (fun _ => by kernel_rfl) ?_
  refine Hs.callS (cf := cVar) (E := 76) (size := 2) (fun A cap => s.val A cap) s.env s.env.length rfl (fun w' H => from27_any27 s A2 c2 w' (H.rdX 2 rfl (by kernel_rfl : _ = some (HB.s A2 c2 s.env.length 59 2 (s.env.flatMap cVar)))) (by omega)) (by kernel_rfl) (by kernel_rfl) fun A4 c4 _ _ => ?_
  refine Hs.run0 300 (fun _ => by kernel_rfl) ?_
  refine Hs.callS (cf := cVar) (E := 76) (size := 2) (fun A cap => s.val A cap) s.env s.env.length rfl (fun w' H => from27_any27 s A3 c3 w' (H.rdX 4 rfl (by kernel_rfl : _ = some (HB.s A3 c3 s.env.length 59 2 (s.env.flatMap cVar)))) (by omega)) (by kernel_rfl) (by kernel_rfl) fun A5 c5 _ _ => ?_
  refine Hs.run0 300 (fun _ => by kernel_rfl) ?_
  refine Hs.callV (fun w' H => rsame_any27 s A4 A5 c4 c5 w' (H.rdX 7 rfl (by kernel_rfl : _ = some (HB.s A4 c4 s.env.length 76 2 (s.env.flatMap cVar)))) (H.rdX 8 rfl (by kernel_rfl : _ = some (HB.s A5 c5 s.env.length 76 2 (s.env.flatMap cVar)))) (by omega)) (by kernel_rfl) ?_
  refine Hs.run0 300 (fun _ => by kernel_rfl) ?_
  refine Hs.condF (by kernel_rfl) ?_
  refine Hs.run0 300 (fun _ => by kernel_rfl) ?_
  refine Hs.callV (fun w' H => number_any18 tx w') (by kernel_rfl) ?_
  refine Hs.run0 300 (fun _ => by kernel_rfl) ?_
  refine Hs.bool 55 s.st (by kernel_rfl) (fun h8 => ?_) (fun h8 => ?_)
  · refine Hs.rung0 [2] 300 (fun _ => by kernel_rfl) ?_
    refine Hs.bool 58 (numB tx) (by kernel_rfl) (fun h9 => ?_) (fun h9 => ?_)
    · refine Hs.rung0 [2, 5] 300 (fun _ => by kernel_rfl) ?_
      refine Hs.callV (fun w' H => wire_any18 (numS tx) w') (by kernel_rfl) ?_
      refine Hs.rung0 [2, 5] 300 (fun _ => by kernel_rfl) ?_
      refine Hs.cond (wireS (numS tx)) (by kernel_rfl) (fun h10 => ?_) (fun h10 => ?_)
      · obtain rfl : z = ⟨true, 3, 0, numS tx, 0, 0, 0, 0⟩ := by rw [← hz]; unfold sigT; rw [if_pos h8, if_pos h9, if_pos h10]
        refine Hs.rung0 [2, 7] 300 (fun _ => by kernel_rfl) ?_
        exact Hs.ret (v := .bool (numS tx == numS tx)) Tryz.func6 (by kernel_rfl) fun w' H => ⟨by simp, H.only⟩
      · obtain rfl : z = noA := by rw [← hz]; unfold sigT; rw [if_pos h8, if_pos h9, if_neg (by rw [h10]; decide)]
        refine Hs.run0 5 (fun _ => by kernel_rfl) ?_
        refine Hs.same (op := .eql) (T := 44) #[.bool false, .int .i64 0, .int .i64 0, .int .i64 0, .int .u32 0, .int .u32 0, .int .u32 0, .int .u32 0] true (by kernel_rfl) (.inl ⟨rfl, rfl⟩) (by kernel_rfl) ?_
        refine Hs.run0 300 (fun _ => by kernel_rfl) ?_
        exact Hs.ret (v := .bool true) Tryz.func6 (by kernel_rfl) fun w' H => ⟨rfl, H.only⟩
    · refine Hs.rung0 [2, 5] 300 (fun _ => by kernel_rfl) ?_
      refine Hs.condF (by kernel_rfl) ?_
      obtain rfl : z = noA := by rw [← hz]; unfold sigT; rw [if_pos h8, if_neg (by rw [h9]; decide)]
      refine Hs.run0 5 (fun _ => by kernel_rfl) ?_
      refine Hs.same (op := .eql) (T := 44) #[.bool false, .int .i64 0, .int .i64 0, .int .i64 0, .int .u32 0, .int .u32 0, .int .u32 0, .int .u32 0] true (by kernel_rfl) (.inl ⟨rfl, rfl⟩) (by kernel_rfl) ?_
      refine Hs.run0 300 (fun _ => by kernel_rfl) ?_
      exact Hs.ret (v := .bool true) Tryz.func6 (by kernel_rfl) fun w' H => ⟨rfl, H.only⟩
  · refine Hs.rung0 [2, 5] 300 (fun _ => by kernel_rfl) ?_
    refine Hs.condF (by kernel_rfl) ?_
    obtain rfl : z = noA := by rw [← hz]; unfold sigT; rw [if_neg (by rw [h8]; decide)]
    refine Hs.run0 5 (fun _ => by kernel_rfl) ?_
    refine Hs.same (op := .eql) (T := 44) #[.bool false, .int .i64 0, .int .i64 0, .int .i64 0, .int .u32 0, .int .u32 0, .int .u32 0, .int .u32 0] true (by kernel_rfl) (.inl ⟨rfl, rfl⟩) (by kernel_rfl) ?_
    refine Hs.run0 300 (fun _ => by kernel_rfl) ?_
    exact Hs.ret (v := .bool true) Tryz.func6 (by kernel_rfl) fun w' H => ⟨rfl, H.only⟩
end Go.Proofs.YtdplnedpbkpgpaaGreatDoor

namespace Go.Proofs.YtdplnedpbkpgpaaGreatDoor
set_option linter.all false
set_option maxRecDepth 100000
open Go.RowKit Go.MapKept

section
variable {κ : Type} [DecidableEq κ]
def setE (k : κ) (v : Value) : List (κ × Value) → List (κ × Value)
  | [] => [(k, v)]
  | p :: es => if p.1 = k then (k, v) :: es else p :: setE k v es
def delE (k : κ) : List (κ × Value) → List (κ × Value)
  | [] => []
  | p :: es => if p.1 = k then es else p :: delE k es
theorem lookM_setE (k j : κ) (v : Value) : ∀ es : List (κ × Value), lookM j (setE k v es) = if k = j then some v else lookM j es
  | [] => rfl
  | p :: es => by
    have ih := lookM_setE k j v es
    unfold setE
    split
    · rename_i h
      unfold lookM
      split
      · rfl
      · rename_i h2
        rw [if_neg (by rw [h]; exact h2)]
    · rename_i h
      unfold lookM
      rw [ih]
      by_cases h1 : p.1 = j
      · rw [if_pos h1, if_pos h1, if_neg (by rw [← h1]; exact fun e => h e.symm)]
      · rw [if_neg h1, if_neg h1]
theorem setE_new {k : κ} (v : Value) : ∀ {es : List (κ × Value)}, lookM k es = none → setE k v es = es ++ [(k, v)]
  | [], _ => rfl
  | p :: es, h => by
    unfold lookM at h
    split at h
    · cases h
    · rename_i h1
      unfold setE
      rw [if_neg h1, setE_new v h]
      rfl
theorem delE_none {k : κ} : ∀ {es : List (κ × Value)}, lookM k es = none → delE k es = es
  | [], _ => rfl
  | p :: es, h => by
    unfold lookM at h
    split at h
    · cases h
    · rename_i h1
      unfold delE
      rw [if_neg h1, delE_none h]
theorem map_modify {α γ : Type} (g : α → γ) (f : α → α) (c : γ) (hc : ∀ e, g (f e) = c) : ∀ (l : List α) (q : Nat), (l.modify q f).map g = (l.map g).set q c
  | [], q => by cases q <;> rfl
  | a :: l, 0 => by simp [hc]
  | a :: l, q + 1 => by simp [map_modify g f c hc l q]
theorem map_erase {α γ : Type} (g : α → γ) : ∀ (l : List α) (q : Nat), (l.eraseIdx q).map g = (l.map g).eraseIdx q
  | [], q => by cases q <;> rfl
  | a :: l, 0 => rfl
  | a :: l, q + 1 => by simp [map_erase g l q]
end
section
variable {P : Program} {f : FuncId} {R : Ending → World → Prop} {n : Nat} {w0 : World} {L : List Nat} {β : List Nat} {m : SM}
variable {κ : Type} [DecidableEq κ]
variable {T kt et : TypeId} {z : Value} {ke : κ → Value}
theorem findNow_I {d : TypeDesc} (hk : ∀ a, IsKey d (ke a)) (hi : ∀ a b, ke a = ke b → a = b) (k : κ) : ∀ (l : List MapEntry) (es : List (κ × Value)) (i : Nat), l.map (fun e => (e.key, e.val)) = es.map (fun p => (ke p.1, p.2)) → ∃ o : Option (Nat × Value), Instr.findNow d (ke k) l i = some o ∧ (match o with
    | none => lookM k es = none
    | some (j, v) => ∃ q, j = i + q ∧ (∃ e, l[q]? = some e ∧ e.key = ke k) ∧ lookM k es = some v ∧ (∀ v', setE k v' es = es.set q (k, v')) ∧ delE k es = es.eraseIdx q)
  | [], [], i, _ => ⟨none, rfl, rfl⟩
  | [], _ :: _, i, h => by simp at h
  | _ :: _, [], i, h => by simp at h
  | e :: l, p :: es, i, h => by
    simp only [List.map_cons, List.cons.injEq, Prod.mk.injEq] at h
    obtain ⟨⟨h1, h2⟩, h3⟩ := h
    obtain ⟨r, hr, hiff⟩ := sameNow_of_keys (hk k) (show IsKey d e.key by rw [h1]; exact hk _)
    cases r with
    | true =>
      have e1 : p.1 = k := hi _ _ (by rw [← h1]; exact (hiff.1 rfl).symm)
      exact ⟨some (i, e.val), by simp [Instr.findNow, hr], 0, rfl, ⟨e, rfl, by rw [h1, e1]⟩, by simp [lookM, e1, h2], fun v' => by simp [setE, e1], by simp [delE, e1]⟩
    | false =>
      have e1 : ¬ p.1 = k := fun he => by
        have := hiff.2 (by rw [h1, he])
        cases this
      obtain ⟨o, ho1, ho2⟩ := findNow_I hk hi k l es (i + 1) h3
      refine ⟨o, by simp [Instr.findNow, hr, ho1], ?_⟩
      cases o with
      | none => simpa [lookM, e1] using ho2
      | some jv =>
        obtain ⟨j, v⟩ := jv
        obtain ⟨q, h4, h5, h6, h7, h8⟩ := ho2
        exact ⟨q + 1, by omega, by simpa using h5, by simpa [lookM, e1] using h6, fun v' => by simp [setE, e1, h7], by simp [delE, e1, h8]⟩
theorem sameBits_key {d : TypeDesc} {v : Value} (h : IsKey d v) : Instr.sameBits 10000 v v = true := by
  unfold IsKey at h
  split at h
  · simp [Instr.sameBits]
  · simp [Instr.sameBits]
  · rename_i s; unfold Instr.sameBits; rw [show (s == s) = (s.data == s.data) from rfl]; exact beq_self_eq_true _
  · exact h.elim
theorem run_setM (ht : KeyT P T kt et z ke) {w : World} {r : Nat} {es : List (κ × Value)} (hM : MapM ke w r es) (k : κ) (v : Value) : ∃ w', (Instr.mapUpdate T (.map (some r)) (ke k) v).run P w = .ok () w' ∧ MapM ke w' r (setE k v es) ∧ Only [r] w w' := by
  cases hn : lookM k es with
  | none =>
    rw [setE_new v hn]
    exact run_putM ht hM k hn v
  | some v0 =>
    obtain ⟨d, hd, hk⟩ := ht.d
    obtain ⟨a, clock, hb, he⟩ := hM
    obtain ⟨o, ho1, ho2⟩ := findNow_I hk ht.inj k a.toList es 0 he
    cases o with
    | none => rw [hn] at ho2; cases ho2
    | some jv =>
      obtain ⟨j, v1⟩ := jv
      obtain ⟨q, rfl, ⟨e, he1, he2⟩, _, h7, _⟩ := ho2
      rw [Nat.zero_add] at ho1
      have hck := run_checkKey (w := w) hd (hk k) false 9999
      have hf := run_findKey (w := w) hd ho1
      have hs := heap_set (o' := .map (a.modify q fun e => { e with key := ke k, val := v }) clock) hb
      have hkey : ((a[q]?).map (·.key)).getD (ke k) = ke k := by
        rw [← Array.getElem?_toList, he1]; exact he2
      have hkt : (Instr.keyThatStays (ke k) (ke k)).run P w = .ok (ke k) w := by
        unfold Instr.keyThatStays
        rw [if_pos (sameBits_key (hk k))]
        rfl
      refine ⟨{ w with heap := w.heap.setIfInBounds r (.map (a.modify q fun e => { e with key := ke k, val := v }) clock) }, ?_, ⟨_, _, hs.1, ?_⟩, ⟨rfl, rfl, rfl, by simp, fun b _ hb => hs.2 b (by simpa using hb)⟩⟩
      · have hset := MapKept.run_setObj_map (P := P) (.map (a.modify q fun e => { e with key := ke k, val := v }) clock) hb
        simp only [Instr.mapUpdate, Sem.run_bind, run_underlying ht.hm, Result.andThen_ok, MapKept.run_getObj_map hb, hck, hf, hkey, hkt]
        exact hset
      · rw [Array.toList_modify, map_modify (fun e : MapEntry => (e.key, e.val)) (fun e => { e with key := ke k, val := v }) (ke k, v) (fun _ => rfl), he, h7, List.map_set]
theorem run_delM (ht : KeyT P T kt et z ke) {w : World} {r : Nat} {es : List (κ × Value)} (hM : MapM ke w r es) (k : κ) (ty : TypeId) : ∃ w', (Builtin.delete_ #[T, kt] ty #[.map (some r), ke k]).run P w = .ok (.tuple #[]) w' ∧ MapM ke w' r (delE k es) ∧ Only [r] w w' := by
  obtain ⟨d, hd, hk⟩ := ht.d
  obtain ⟨a, clock, hb, he⟩ := hM
  obtain ⟨o, ho1, ho2⟩ := findNow_I hk ht.inj k a.toList es 0 he
  have hck := run_checkKey (w := w) hd (hk k) a.isEmpty 9999
  have hf := run_findKey (w := w) hd ho1
  cases o with
  | none =>
    rw [delE_none ho2]
    have hs := heap_set (o' := .map a clock) hb
    have hset := MapKept.run_setObj_map (P := P) (.map a clock) hb
    refine ⟨{ w with heap := w.heap.setIfInBounds r (.map a clock) }, ?_, ⟨_, _, hs.1, he⟩, ⟨rfl, rfl, rfl, by simp, fun b _ hb => hs.2 b (by simpa using hb)⟩⟩
    simp only [Builtin.delete_, Sem.run_bind, run_underlying ht.hm, Result.andThen_ok, MapKept.run_getObj_map hb, hck, hf, List.getElem?_toArray, List.getElem?_cons_zero, List.getElem?_cons_succ]
    rw [hset]
    rfl
  | some jv =>
    obtain ⟨j, v1⟩ := jv
    obtain ⟨q, rfl, _, _, _, h8⟩ := ho2
    rw [Nat.zero_add] at ho1 hf
    have hs := heap_set (o' := .map (a.eraseIdxIfInBounds q) clock) hb
    have hset := MapKept.run_setObj_map (P := P) (.map (a.eraseIdxIfInBounds q) clock) hb
    refine ⟨{ w with heap := w.heap.setIfInBounds r (.map (a.eraseIdxIfInBounds q) clock) }, ?_, ⟨_, _, hs.1, ?_⟩, ⟨rfl, rfl, rfl, by simp, fun b _ hb => hs.2 b (by simpa using hb)⟩⟩
    · simp only [Builtin.delete_, Sem.run_bind, run_underlying ht.hm, Result.andThen_ok, MapKept.run_getObj_map hb, hck, hf, List.getElem?_toArray, List.getElem?_cons_zero, List.getElem?_cons_succ]
      rw [hset]
      rfl
    · rw [Array.toList_eraseIdxIfInBounds, map_erase, he, h8, map_erase]
theorem run_lenM (hm : P.underlying T = some (.map kt et)) {w : World} {r : Nat} {es : List (κ × Value)} (hM : MapM ke w r es) (ty : TypeId) : (Builtin.len_ #[T] ty #[.map (some r)]).run P w = .ok (.int .i64 es.length) w := by
  obtain ⟨a, clock, hb, he⟩ := hM
  have hl : a.size = es.length := by
    have := congrArg List.length he
    simpa using this
  simp only [Builtin.len_, Sem.run_bind, run_underlying hm, Result.andThen_ok, List.getElem?_toArray, List.getElem?_cons_zero, MapKept.run_getObj_map hb, hl, Sem.run_pure]
  rfl
/-- An entry, new or set anew. -/
theorem Hs.setM (k : Nat) (ht : KeyT P T kt et z ke) {r : Nat} {es : List (κ × Value)} (key : κ) (v : Value) (hs : semOf n β m = some (unitS (Instr.mapUpdate T (.map (some r)) (ke key) v))) (hk : m.hp[k]? = some (HB.mp ke r es)) (hrd : (rdOf m).contains k = false)
    (h : Hs P f R n w0 L β (m.put (dstOf m) (.c (.v undef)) (m.hp.set k (HB.mp ke r (setE key v es))))) : Hs P f R n w0 L β m := by
  refine Hs.opU hs fun w H W => ?_
  have hM : MapM ke w r es := H.atQ k (wr := true) (A := some ⟨r, 0, none⟩) (Q := fun w => MapM ke w r es) (st := MapM.st) hk
  obtain ⟨w', hr, hM', O⟩ := run_setM ht hM key v
  have hl : (HB.mp ke r (setE key v es)).lies w' β (nm β k) := ⟨hM', fun a ha => by injection ha with ha; subst ha; exact hM'.lt⟩
  refine ⟨m.hp.set k (HB.mp ke r (setE key v es)), w', hr, H.swap k hk O (fun x hx => by simp only [List.mem_singleton] at hx; subst hx; rfl) rfl hl (fun x hx => .inl hx), ?_, fun j hj b hb => ?_, h⟩
  · simp only [Bool.and_eq_true, Nat.ble_eq, List.length_set]
    exact ⟨Nat.le_refl _, set_wf (SM.wf_hp W) rfl⟩
  · rw [List.getElem?_set, if_neg (fun e => by
      subst e
      simp at hrd
      exact hrd hj)]
    exact hb
/-- An entry taken away. -/
theorem Hs.delM (k : Nat) (ht : KeyT P T kt et z ke) {r : Nat} {es : List (κ × Value)} (key : κ) {ty : TypeId} (hs : semOf n β m = some (valS (Builtin.delete_ #[T, kt] ty #[.map (some r), ke key]))) (hk : m.hp[k]? = some (HB.mp ke r es)) (hrd : (rdOf m).contains k = false)
    (h : Hs P f R n w0 L β (m.put (dstOf m) (.t []) (m.hp.set k (HB.mp ke r (delE key es))))) : Hs P f R n w0 L β m := by
  refine Hs.opW hs fun w H W => ?_
  have hM : MapM ke w r es := H.atQ k (wr := true) (A := some ⟨r, 0, none⟩) (Q := fun w => MapM ke w r es) (st := MapM.st) hk
  obtain ⟨w', hr, hM', O⟩ := run_delM ht hM key ty
  have hl : (HB.mp ke r (delE key es)).lies w' β (nm β k) := ⟨hM', fun a ha => by injection ha with ha; subst ha; exact hM'.lt⟩
  refine ⟨[], .t [], m.hp.set k (HB.mp ke r (delE key es)), w', hr, by rw [List.append_nil]; exact H.swap k hk O (fun x hx => by simp only [List.mem_singleton] at hx; subst hx; rfl) rfl hl (fun x hx => .inl hx), ?_, fun j hj b hb => ?_, by rw [List.append_nil]; exact h⟩
  · simp only [SV.wf, List.all_nil, Bool.true_and, Bool.and_eq_true, Nat.ble_eq, List.length_set]
    exact ⟨Nat.le_refl _, set_wf (SM.wf_hp W) rfl⟩
  · rw [List.getElem?_set, if_neg (fun e => by
      subst e
      simp at hrd
      exact hrd hj)]
    exact hb
/-- How many entries there are. -/
theorem Hs.lenM (ht : KeyT P T kt et z ke) {r : Nat} {es : List (κ × Value)} {ty : TypeId} (hs : semOf n β m = some (valS (Builtin.len_ #[T] ty #[.map (some r)]))) (hM : ∀ w, Mem w0 L β m.hp w → MapM ke w r es)
    (h : Hs P f R n w0 L β (m.put (dstOf m) (.c (.v (.int .i64 es.length))) m.hp)) : Hs P f R n w0 L β m :=
  Hs.opV (.c (.v (.int .i64 es.length))) hs rfl (fun w H => run_lenM ht.hm (hM w H) ty) h
end
end Go.Proofs.YtdplnedpbkpgpaaGreatDoor

namespace Go.Proofs.YtdplnedpbkpgpaaGreatDoor
set_option linter.all false
set_option maxRecDepth 100000
open Go.RowKit Go.MapKept
theorem bytes_eq {a b : ByteArray} : (a.toList == b.toList) = true ↔ a = b := by
  rw [ByteArray.toList_eq, ByteArray.toList_eq]
  constructor
  · intro h
    have h1 := eq_of_beq h
    obtain ⟨x⟩ := a
    obtain ⟨y⟩ := b
    have h2 : x.toList = y.toList := h1
    rw [Array.toList_inj] at h2
    rw [h2]
  · intro h
    subst h
    exact beq_self_eq_true _
def kS (s : ByteArray) : Value := .string s
theorem keySS : KeyT Tryz.prog 75 9 9 (.string ⟨#[]⟩) kS where
  hm := Tryz.underlying75
  zero := fun w => by kernel_rfl
  d := ⟨_, Tryz.underlying9, fun a => trivial⟩
  inj := fun a b h => by injection h
def gV (x : VR) : ByteArray × Value := (x.n, .string x.v)
theorem look_idx (n : ByteArray) : ∀ (l : List VR) (k : Int), (∃ (i : Nat) (x : VR), l[i]? = some x ∧ idxS n (l.map VR.n) k = k + i ∧ lookM n (l.map gV) = some (.string x.v) ∧ ∀ v, (l.set i ⟨x.n, v⟩).map gV = setE n (.string v) (l.map gV)) ∨ (idxS n (l.map VR.n) k = -1 ∧ lookM n (l.map gV) = none)
  | [], k => .inr ⟨rfl, rfl⟩
  | x :: l, k => by
    by_cases h : x.n = n
    · refine .inl ⟨0, x, rfl, ?_, ?_, fun v => ?_⟩
      · rw [List.map_cons, idx_yes (bytes_eq.2 h.symm)]; simp
      · rw [List.map_cons]; unfold lookM; rw [if_pos (show (gV x).1 = n from h)]; rfl
      · rw [List.set_cons_zero, List.map_cons, List.map_cons]
        unfold setE
        rw [if_pos (show (gV x).1 = n from h)]
        unfold gV
        rw [h]
    · have hne : (n.toList == x.n.toList) = false := by
        cases hb : (n.toList == x.n.toList) with
        | false => rfl
        | true => exact absurd (bytes_eq.1 hb).symm h
      rcases look_idx n l (k + 1) with ⟨i, y, h1, h2, h3, h4⟩ | ⟨h1, h2⟩
      · refine .inl ⟨i + 1, y, h1, ?_, ?_, fun v => ?_⟩
        · rw [List.map_cons, idx_no hne, h2]; push_cast; omega
        · rw [List.map_cons]; unfold lookM; rw [if_neg (show ¬ (gV x).1 = n from h)]; exact h3
        · rw [List.set_cons_succ, List.map_cons, List.map_cons, h4 v]
          conv => rhs; unfold setE
          rw [if_neg (show ¬ (gV x).1 = n from h)]
      · refine .inr ⟨?_, ?_⟩
        · rw [List.map_cons, idx_no hne, h1]
        · rw [List.map_cons]; unfold lookM; rw [if_neg (show ¬ (gV x).1 = n from h)]; exact h2
def sE (env : List VR) : SS := ⟨false, ⟨#[]⟩, 0, 0, 0, 0, zeroT, env, false⟩
def envZ (env : List VR) (n v : ByteArray) : SS × AC := if varI n env ≥ 0 then (sE (env.set (varI n env).toNat ⟨((env.map VR.n)[(varI n env).toNat]?).getD ⟨#[]⟩, v⟩), okA) else if (env.length : Int) ≥ 16 then (sE env, noA) else (sE (env ++ [⟨n, v⟩]), okA)
theorem env_ask {env : List VR} {n v : ByteArray} {x : RQ} {ps : List PR} (hk : x.kind = 2) (ht : x.text = n) (hv : x.value = v) : askM (sE env) x 0 ps = envZ env n v := by
  unfold askM
  rw [if_neg (by simp), hk]
  show envM (sE env) x = _
  unfold envM envZ
  rw [if_neg (show ¬ (sE env).st = true by simp [sE]), ht, hv]
  rfl
theorem env_cases (env : List VR) (n v : ByteArray) :
    (∃ o env', lookM n (env.map gV) = some (.string o) ∧ env'.length = env.length ∧ env'.map gV = setE n (.string v) (env.map gV) ∧ envZ env n v = (sE env', okA)) ∨
    (∃ env', lookM n (env.map gV) = none ∧ env.length < 16 ∧ env'.length = env.length + 1 ∧ env'.map gV = setE n (.string v) (env.map gV) ∧ envZ env n v = (sE env', okA)) ∨
    (lookM n (env.map gV) = none ∧ 16 ≤ env.length ∧ envZ env n v = (sE env, noA)) := by
  rcases look_idx n env 0 with ⟨i, x, h1, h2, h3, h4⟩ | ⟨h1, h2⟩
  · have hi : varI n env = i := by unfold varI; rw [h2]; omega
    refine .inl ⟨x.v, env.set i ⟨x.n, v⟩, h3, List.length_set .., h4 v, ?_⟩
    unfold envZ
    rw [if_pos (by omega), hi, Int.toNat_natCast, List.getElem?_map, h1]
    rfl
  · have hi : varI n env = -1 := h1
    by_cases h16 : 16 ≤ env.length
    · refine .inr (.inr ⟨h2, h16, ?_⟩)
      unfold envZ
      rw [if_neg (by omega), if_pos (by omega)]
    · refine .inr (.inl ⟨env ++ [⟨n, v⟩], h2, by omega, by simp, ?_, ?_⟩)
      · rw [List.map_append, setE_new _ h2]; rfl
      · unfold envZ
        rw [if_neg (by omega), if_neg (by omega)]
def env2R (n v : ByteArray) : RQ := { zeroR with kind := 2, text := n, value := v }
theorem env2_ok {n v : ByteArray} (h : n.size ≤ 1000) (h2 : v.size ≤ 5000) (w : World) : (env2R n v).ok w :=
  { zeroR_ok w with text := Nat.le_trans h (by decide), value := Nat.le_trans h2 (by decide), nums := by simp [env2R, zeroR, U32, RNums] }
theorem env2_dec {n v nm : ByteArray} {l : List Int} {x : RQ} {E : Int} (e1 : encR (env2R n v) = (0, l)) (e2 : encName (env2R n v) = nm) (h : DecR nm l x E) : E = 0 ∧ x.kind = 2 ∧ x.text = n ∧ x.value = v := by
  have := rback_law (m := env2R n v) (x := x) (E := E) (by simp [env2R, zeroR, U32, RNums]) (by rw [e1]) (by rw [e1, e2]; exact h)
  obtain ⟨e, hs, hl⟩ := this
  exact ⟨e, hs.kind.symm.trans rfl, hs.text.symm.trans rfl, hs.value.symm.trans rfl⟩
structure VrIn (w : World) (A : Option Addr) (c : Nat) (l : List VR) : Prop where
  rd : RdX cVar w A l
  le : l.length ≤ c
  max : c ≤ maxLen
set_option maxHeartbeats 64000000 in
theorem env_walk27 (l : List VR) (A : Option Addr) (c : Nat) (w : World) (i0 : Int) (h00 : w.cell? ⟨0, 0, none⟩ = some (.int .i64 i0)) (hl : VrIn w A c l) : Calls Tryz.prog 7 #[.slice A l.length c] w fun e w' => e = .returned (.bool true) ∧ Only [] w w' := by
  have hlen : l.length ≤ maxLen := Nat.le_trans hl.le hl.max
  -- what stands there at the end
  have K : ∀ (env : List VR), env.length ≤ 16 → ∀ (d i : Nat), env.length - i = d → i ≤ env.length → ∀ (b0 r : Nat) (A4 : Option Addr) (c4 : Nat) (es : List (ByteArray × Value)), es = (env.drop i).map gV → ∀ (u : Nat → Value), Hs Tryz.prog 7 (fun e w' => e = .returned (.bool true) ∧ Only [] w w') (Tryz.f7).ntmps w [] [b0, 0, r] ⟨.no, loopAt Tryz.f7 1, pins [(3, .c (.p 0 0)), (4, .c (.v (.map (some r)))), (94, .c (.v (.slice A4 env.length c4))), (95, .c (.v (.int .i64 env.length))), (96, .c (.v (.int .i64 i)))] (.vals u), [.b true 41 ((sE env).sc A4 c4), .s A4 c4 env.length 59 2 (env.flatMap cVar), HB.mp kS r es]⟩ := by
    intro env henv d
    induction d with
    | zero =>
      intro i hd hi b0 r A4 c4 es he u
      obtain rfl : i = env.length := by omega
      refine Hs.run0 300 (fun _ => by kernel_rfl) ?_
      refine Hs.condP ((env.length : Int) < (env.length : Int)) (by kernel_rfl) (fun h => by omega) (fun _ => ?_)
      refine Hs.run0 300 (fun _ => by kernel_rfl) ?_
      exact Hs.ret (v := .bool true) Tryz.func7 (by kernel_rfl) fun w' H => ⟨rfl, H.only⟩
    | succ d ih =>
      intro i hd hi b0 r A4 c4 es he u
      have hil : i < env.length := by omega
      obtain ⟨x, hx⟩ : ∃ x, env[i]? = some x := ⟨_, List.getElem?_eq_getElem hil⟩
      have hdr : env.drop i = x :: env.drop (i + 1) := by
        rw [List.drop_eq_getElem_cons hil]
        rw [List.getElem?_eq_getElem hil] at hx
        injection hx with hx
        rw [hx]
      rw [hdr, List.map_cons] at he
      have hlook : lookM x.n es = some (.string x.v) := by rw [he]; unfold lookM; rw [if_pos (show (gV x).1 = x.n from rfl)]; rfl
      have hdel : delE x.n es = (env.drop (i + 1)).map gV := by rw [he]; unfold delE; rw [if_pos (show (gV x).1 = x.n from rfl)]
      clear he
      refine Hs.someS (A := A4) (cap := c4) (nl := env.length) (E := 59) (size := 2) (vs := env.flatMap cVar) 1 (by kernel_rfl) (by omega) fun g hA => ?_
      have hih := fun b0 r es he u => ih (i + 1) (by omega) (by omega) b0 r A4 c4 es he u
      clear ih
      subst hA
      refine Hs.run0 300 (fun _ => by kernel_rfl) ?_
      refine Hs.condP ((i : Int) < (env.length : Int)) (by kernel_rfl) (fun _ => ?_) (fun h => by omega)
      refine Hs.run0 300 (fun _ => by kernel_rfl) ?_
      refine Hs.idx (b := g) (off := 0) (len := env.length) (c := c4) (i := i) elemVr hil (by kernel_rfl) ?_
      refine Hs.ldx (cf := cVar) (size := 2) (E := 59) (b := g) (off := 0) (i := i) (l := env) (x := x) cVar_len (.g x.sc) (by kernel_rfl) (fun w' H => H.rdX 1 rfl (by kernel_rfl : _ = some (HB.s (some ⟨g, 0, none⟩) c4 env.length 59 2 (env.flatMap cVar)))) hx (by kernel_rfl) (by kernel_rfl) rfl (by kernel_rfl) ?_
      refine Hs.run1 300 (fun _ => by kernel_rfl) fun b3 => ?_
      refine Hs.getM keySS x.n true (.tuple #[.string x.v, .bool true]) (by rw [hlook]; rfl) (by kernel_rfl) (fun w' H => H.mapM 2 (r := r) (ke := kS) (es := es) (by kernel_rfl)) ?_
      refine Hs.run0 300 (fun _ => by kernel_rfl) ?_
      refine Hs.rung0 [2] 300 (fun _ => by kernel_rfl) ?_
      refine Hs.cond (!(x.v.toList == x.v.toList)) (by kernel_rfl) (fun h => by simp at h) (fun _ => ?_)
      refine Hs.run0 300 (fun _ => by kernel_rfl) ?_
      refine Hs.delM 2 keySS (ty := 0) (r := r) (es := es) x.n (by kernel_rfl) (by kernel_rfl) (by kernel_rfl) ?_
      refine Hs.run0 300 (fun _ => by kernel_rfl) ?_
      refine Hs.slot 96 (.c (.v (.int .i64 (i + 1 : Nat)))) rfl ((by kernel_rfl : _ = Value.int .i64 (IntKind.i64.wrap ((i : Int) + 1))).trans (wrap_nextJ (Nat.le_trans henv (by decide)))) ?_
      refine Hs.loop (by kernel_rfl) ?_
      exact Hs.goto (loopAt Tryz.f7 1) [0, 1, 2] [.b true 41 ((sE env).sc (some ⟨g, 0, none⟩) c4), .s (some ⟨g, 0, none⟩) c4 env.length 59 2 (env.flatMap cVar), HB.mp kS r (delE x.n es)] [(3, .c (.p 0 0)), (4, .c (.v (.map (some r)))), (94, .c (.v (.slice (some ⟨g, 0, none⟩) env.length c4))), (95, .c (.v (.int .i64 env.length))), (96, .c (.v (.int .i64 (i + 1 : Nat))))] (by kernel_rfl) (by decide) (by kernel_rfl) (by kernel_rfl) (fun _ => (by kernel_rfl)) (fun u => hih b0 r (delE x.n es) hdel u)
  have J : ∀ (d i : Nat), l.length - i = d → i ≤ l.length → ∀ (env : List VR), env.length ≤ 16 → ∀ (b0 r : Nat) (A4 : Option Addr) (c4 : Nat) (es : List (ByteArray × Value)), es = env.map gV → ∀ (u : Nat → Value), Hs Tryz.prog 7 (fun e w' => e = .returned (.bool true) ∧ Only [] w w') (Tryz.f7).ntmps w [] [b0, 0, r] ⟨.no, loopAt Tryz.f7 0, pins [(3, .c (.p 0 0)), (4, .c (.v (.map (some r)))), (23, .c (.v (.slice A l.length c))), (24, .c (.v (.int .i64 l.length))), (25, .c (.v (.int .i64 i)))] (.vals u), [.b true 41 ((sE env).sc A4 c4), .s A4 c4 env.length 59 2 (env.flatMap cVar), HB.mp kS r es]⟩ := by
    intro d
    induction d with
    | zero =>
      intro i hd hi env henv b0 r A4 c4 es he u
      obtain rfl : i = l.length := by omega
      have hel : es.length = env.length := by rw [he, List.length_map]
      refine Hs.run0 300 (fun _ => by kernel_rfl) ?_
      refine Hs.condP ((l.length : Int) < (l.length : Int)) (by kernel_rfl) (fun h => by omega) (fun _ => ?_)
      refine Hs.run0 300 (fun _ => by kernel_rfl) ?_
      refine Hs.lenM keySS (ty := 0) (r := r) (es := es) (by kernel_rfl) (fun w' H => H.mapM 2 (r := r) (ke := kS) (es := es) (by kernel_rfl)) ?_
      rw [hel]
      refine Hs.run0 300 (fun _ => by kernel_rfl) ?_
      refine Hs.cond ((env.length : Int) != (env.length : Int)) (by kernel_rfl) (fun h => by simp at h) (fun _ => ?_)
      refine Hs.run0 300 (fun _ => by kernel_rfl) ?_
      refine Hs.loop (by kernel_rfl) ?_
      exact Hs.goto (loopAt Tryz.f7 1) [0, 1, 2] [.b true 41 ((sE env).sc A4 c4), .s A4 c4 env.length 59 2 (env.flatMap cVar), HB.mp kS r es] [(3, .c (.p 0 0)), (4, .c (.v (.map (some r)))), (94, .c (.v (.slice A4 env.length c4))), (95, .c (.v (.int .i64 env.length))), (96, .c (.v (.int .i64 (0 : Nat))))] (by kernel_rfl) (by decide) (by kernel_rfl) (by kernel_rfl) (fun _ => (by kernel_rfl)) (fun u => K env henv env.length 0 (by omega) (by omega) b0 r A4 c4 es he u)
    | succ d ih =>
      intro i hd hi env henv b0 r A4 c4 es he u
      have hil : i < l.length := by omega
      obtain ⟨x, hx⟩ : ∃ x, l[i]? = some x := ⟨_, List.getElem?_eq_getElem hil⟩
      obtain ⟨ab, aoff, hA, _, _⟩ := hl.rd (by omega)
      have hih := fun env henv b0 r A4 c4 es he u => ih (i + 1) (by omega) (by omega) env henv b0 r A4 c4 es he u
      clear ih
      have hrd := hl.rd
      rw [hA] at hih hrd ⊢
      have hel : es.length = env.length := by rw [he, List.length_map]
      have hec := env_cases env x.n x.v
      rw [← he] at hec
      obtain ⟨E, lb, hE⟩ : ∃ E lb, encR (env2R x.n x.v) = (E, lb) := ⟨_, _, rfl⟩
      obtain ⟨nam, hnam⟩ : ∃ nam, encName (env2R x.n x.v) = nam := ⟨_, rfl⟩
      refine Hs.run0 300 (fun _ => by kernel_rfl) ?_
      refine Hs.condP ((i : Int) < (l.length : Int)) (by kernel_rfl) (fun _ => ?_) (fun h => by omega)
      refine Hs.run0 300 (fun _ => by kernel_rfl) ?_
      refine Hs.idx (b := ab) (off := aoff) (len := l.length) (c := c) (i := i) elemRv27 hil (by kernel_rfl) ?_
      refine Hs.ldx (cf := cVar) (size := 2) (E := 76) (b := ab) (off := aoff) (i := i) (l := l) (x := x) cVar_len (.g x.sc) (by kernel_rfl) (fun w' H => hrd.only H.only) hx (by kernel_rfl) (by kernel_rfl) rfl (by kernel_rfl) ?_
      refine Hs.run1 300 (fun _ => by kernel_rfl) fun b3 => ?_
      refine Hs.bool 33 (decide ((x.n.size : Int) > 1000)) (by kernel_rfl) (fun h1 => ?_) (fun h1 => ?_)
      · refine Hs.rung0 [4] 300 (fun _ => by kernel_rfl) ?_
        refine Hs.condT (by kernel_rfl) ?_
        refine Hs.run0 300 (fun _ => by kernel_rfl) ?_
        exact Hs.ret (v := .bool true) Tryz.func7 (by kernel_rfl) fun w' H => ⟨rfl, H.only⟩
      replace h1 : x.n.size ≤ 1000 := by simp at h1; omega
      refine Hs.rung0 [4] 300 (fun _ => by kernel_rfl) ?_
      refine Hs.condP ((x.v.size : Int) > 5000) (by kernel_rfl) (fun h2 => ?_) (fun h2 => ?_)
      · refine Hs.run0 300 (fun _ => by kernel_rfl) ?_
        exact Hs.ret (v := .bool true) Tryz.func7 (by kernel_rfl) fun w' H => ⟨rfl, H.only⟩
      replace h2 : x.v.size ≤ 5000 := by omega
      refine Hs.run0 300 (fun _ => by kernel_rfl) ?_
      refine Hs.callS (cf := cu8) (E := 5) (size := 1) (fun A cap => .tuple #[.string nam, .slice A lb.length cap, .int .i64 E]) lb lb.length rfl (fun w' H => rencode_g w' (env2_ok h1 h2 w') (Nat.le_trans h1 (by decide)) (Nat.le_trans h2 (by decide)) (Nat.zero_le _) hE hnam) (by kernel_rfl) (by kernel_rfl) fun B1 c1 h3 h4 => ?_
      refine Hs.run0 300 (fun _ => by kernel_rfl) ?_
      refine Hs.cond (E != 0) (by kernel_rfl) (fun h5 => ?_) (fun h5 => ?_)
      · refine Hs.run0 300 (fun _ => by kernel_rfl) ?_
        refine Hs.slot 25 (.c (.v (.int .i64 (i + 1 : Nat)))) rfl ((by kernel_rfl : _ = Value.int .i64 (IntKind.i64.wrap ((i : Int) + 1))).trans (wrap_nextJ hlen)) ?_
        refine Hs.loop (by kernel_rfl) ?_
        exact Hs.goto (loopAt Tryz.f7 0) [0, 1, 2] [.b true 41 ((sE env).sc A4 c4), .s A4 c4 env.length 59 2 (env.flatMap cVar), HB.mp kS r es] [(3, .c (.p 0 0)), (4, .c (.v (.map (some r)))), (23, .c (.v (.slice (some ⟨ab, aoff, none⟩) l.length c))), (24, .c (.v (.int .i64 l.length))), (25, .c (.v (.int .i64 (i + 1 : Nat))))] (by kernel_rfl) (by decide) (by kernel_rfl) (by kernel_rfl) (fun _ => (by kernel_rfl)) (fun u => hih env henv b0 r A4 c4 es he u)
      obtain rfl : E = 0 := by simpa using h5
      obtain ⟨z, hz⟩ : ∃ z, envZ env x.n x.v = z := ⟨_, rfl⟩
      have hdec : ∀ q E, DecR nam lb q E → E = 0 ∧ askM (sE env) q 0 [] = z := fun q E h => by
        obtain ⟨h1, h2, h3, h4⟩ := env2_dec hE hnam h
        exact ⟨h1, (env_ask h2 h3 h4).trans hz⟩
      have hll := encR_len (env2R x.n x.v)
      have hrng : InB (encR (env2R x.n x.v)).2 := encR_inb (env2_ok h1 h2 w) (by rw [hE])
      rw [hE] at hll hrng
      rw [hz] at hec
      replace hll : lb.length ≤ 33792 := hll
      replace hrng : ∀ y ∈ lb, 0 ≤ y ∧ y < 256 := hrng
      have hask := fun (w' : World) (h00' : w'.cell? ⟨0, 0, none⟩ = some (.int .i64 i0)) (hs' : RdX cVar w' A4 env) (hB : RdX cu8 w' B1 lb) (hal : ∀ a, B1 = some a → a.block < w'.heap.size) => askS (s := sE env) (ps := []) (z := z) (n := 0) rfl hdec A4 c4 B1 c1 none 0 w' i0 h00' hs' (Nat.le_trans henv (by decide)) hB hrng (by omega) h3 h4 rdX_nil (by decide) hal
      rcases hec with ⟨o, env', hlook, hn, hm, rfl⟩ | ⟨env', hlook, h16, hn, hm, rfl⟩ | ⟨hlook, h16, rfl⟩
      · refine Hs.run1 300 (fun _ => by kernel_rfl) fun b5 => ?_
        refine Hs.callS (cf := cVar) (E := 59) (size := 2) (fun A cap => .tuple #[(sE env').val A cap, AC.val okA]) env' env'.length rfl (fun w' H => hask w' (cell_step H.only h00) (H.rdX 1 rfl (by kernel_rfl : _ = some (HB.s A4 c4 env.length 59 2 (env.flatMap cVar)))) (H.rdX 4 rfl (by kernel_rfl : _ = some (HB.s B1 c1 lb.length 5 1 (lb.flatMap cu8)))) (ownX_lt H 4 (by kernel_rfl : _ = some (HB.s B1 c1 lb.length 5 1 (lb.flatMap cu8))))) (by kernel_rfl) (by kernel_rfl) fun A5 c5 _ _ => ?_
        refine Hs.run0 300 (fun _ => by kernel_rfl) ?_
        refine Hs.getM keySS x.n true (.tuple #[.string o, .bool true]) (by rw [hlook]; rfl) (by kernel_rfl) (fun w' H => H.mapM 2 (r := r) (ke := kS) (es := es) (by kernel_rfl)) ?_
        refine Hs.rung0 [3, 9] 300 (fun _ => by kernel_rfl) ?_
        refine Hs.condF (by kernel_rfl) ?_
        refine Hs.run0 300 (fun _ => by kernel_rfl) ?_
        refine Hs.condT (by kernel_rfl) ?_
        refine Hs.run0 300 (fun _ => by kernel_rfl) ?_
        refine Hs.setM 2 keySS (r := r) (es := es) x.n (.string x.v) (by kernel_rfl) (by kernel_rfl) (by kernel_rfl) ?_
        refine Hs.run0 300 (fun _ => by kernel_rfl) ?_
        refine Hs.slot 25 (.c (.v (.int .i64 (i + 1 : Nat)))) rfl ((by kernel_rfl : _ = Value.int .i64 (IntKind.i64.wrap ((i : Int) + 1))).trans (wrap_nextJ hlen)) ?_
        refine Hs.loop (by kernel_rfl) ?_
        exact Hs.goto (loopAt Tryz.f7 0) [0, 6, 2] [.b true 41 ((sE env').sc A5 c5), .s A5 c5 env'.length 59 2 (env'.flatMap cVar), HB.mp kS r (setE x.n (.string x.v) es)] [(3, .c (.p 0 0)), (4, .c (.v (.map (some r)))), (23, .c (.v (.slice (some ⟨ab, aoff, none⟩) l.length c))), (24, .c (.v (.int .i64 l.length))), (25, .c (.v (.int .i64 (i + 1 : Nat))))] (by kernel_rfl) (by decide) (by kernel_rfl) (by kernel_rfl) (fun _ => (by kernel_rfl)) (fun u => hih env' (by omega) b0 r A5 c5 (setE x.n (.string x.v) es) hm.symm u)
      · refine Hs.run1 300 (fun _ => by kernel_rfl) fun b5 => ?_
        refine Hs.callS (cf := cVar) (E := 59) (size := 2) (fun A cap => .tuple #[(sE env').val A cap, AC.val okA]) env' env'.length rfl (fun w' H => hask w' (cell_step H.only h00) (H.rdX 1 rfl (by kernel_rfl : _ = some (HB.s A4 c4 env.length 59 2 (env.flatMap cVar)))) (H.rdX 4 rfl (by kernel_rfl : _ = some (HB.s B1 c1 lb.length 5 1 (lb.flatMap cu8)))) (ownX_lt H 4 (by kernel_rfl : _ = some (HB.s B1 c1 lb.length 5 1 (lb.flatMap cu8))))) (by kernel_rfl) (by kernel_rfl) fun A5 c5 _ _ => ?_
        refine Hs.run0 300 (fun _ => by kernel_rfl) ?_
        refine Hs.getM keySS x.n true (.tuple #[.string ⟨#[]⟩, .bool false]) (by rw [hlook]; rfl) (by kernel_rfl) (fun w' H => H.mapM 2 (r := r) (ke := kS) (es := es) (by kernel_rfl)) ?_
        refine Hs.rung0 [3, 9] 300 (fun _ => by kernel_rfl) ?_
        refine Hs.lenM keySS (ty := 0) (r := r) (es := es) (by kernel_rfl) (fun w' H => H.mapM 2 (r := r) (ke := kS) (es := es) (by kernel_rfl)) ?_
        rw [hel]
        refine Hs.rung0 [3] 2 (fun _ => by kernel_rfl) ?_
        refine Hs.bool 71 (decide ((env.length : Int) < 16)) (by kernel_rfl) (fun _ => ?_) (fun h => by simp at h; omega)
        refine Hs.rung0 [3, 9] 300 (fun _ => by kernel_rfl) ?_
        refine Hs.condF (by kernel_rfl) ?_
        refine Hs.run0 300 (fun _ => by kernel_rfl) ?_
        refine Hs.condT (by kernel_rfl) ?_
        refine Hs.run0 300 (fun _ => by kernel_rfl) ?_
        refine Hs.setM 2 keySS (r := r) (es := es) x.n (.string x.v) (by kernel_rfl) (by kernel_rfl) (by kernel_rfl) ?_
        refine Hs.run0 300 (fun _ => by kernel_rfl) ?_
        refine Hs.slot 25 (.c (.v (.int .i64 (i + 1 : Nat)))) rfl ((by kernel_rfl : _ = Value.int .i64 (IntKind.i64.wrap ((i : Int) + 1))).trans (wrap_nextJ hlen)) ?_
        refine Hs.loop (by kernel_rfl) ?_
        exact Hs.goto (loopAt Tryz.f7 0) [0, 6, 2] [.b true 41 ((sE env').sc A5 c5), .s A5 c5 env'.length 59 2 (env'.flatMap cVar), HB.mp kS r (setE x.n (.string x.v) es)] [(3, .c (.p 0 0)), (4, .c (.v (.map (some r)))), (23, .c (.v (.slice (some ⟨ab, aoff, none⟩) l.length c))), (24, .c (.v (.int .i64 l.length))), (25, .c (.v (.int .i64 (i + 1 : Nat))))] (by kernel_rfl) (by decide) (by kernel_rfl) (by kernel_rfl) (fun _ => (by kernel_rfl)) (fun u => hih env' (by omega) b0 r A5 c5 (setE x.n (.string x.v) es) hm.symm u)
      · refine Hs.run1 300 (fun _ => by kernel_rfl) fun b5 => ?_
        refine Hs.callS (cf := cVar) (E := 59) (size := 2) (fun A cap => .tuple #[(sE env).val A cap, AC.val noA]) env env.length rfl (fun w' H => hask w' (cell_step H.only h00) (H.rdX 1 rfl (by kernel_rfl : _ = some (HB.s A4 c4 env.length 59 2 (env.flatMap cVar)))) (H.rdX 4 rfl (by kernel_rfl : _ = some (HB.s B1 c1 lb.length 5 1 (lb.flatMap cu8)))) (ownX_lt H 4 (by kernel_rfl : _ = some (HB.s B1 c1 lb.length 5 1 (lb.flatMap cu8))))) (by kernel_rfl) (by kernel_rfl) fun A5 c5 _ _ => ?_
        refine Hs.run0 300 (fun _ => by kernel_rfl) ?_
        refine Hs.getM keySS x.n true (.tuple #[.string ⟨#[]⟩, .bool false]) (by rw [hlook]; rfl) (by kernel_rfl) (fun w' H => H.mapM 2 (r := r) (ke := kS) (es := es) (by kernel_rfl)) ?_
        refine Hs.rung0 [3, 9] 300 (fun _ => by kernel_rfl) ?_
        refine Hs.lenM keySS (ty := 0) (r := r) (es := es) (by kernel_rfl) (fun w' H => H.mapM 2 (r := r) (ke := kS) (es := es) (by kernel_rfl)) ?_
        rw [hel]
        refine Hs.rung0 [3] 2 (fun _ => by kernel_rfl) ?_
        refine Hs.bool 71 (decide ((env.length : Int) < 16)) (by kernel_rfl) (fun h => by simp at h; omega) (fun _ => ?_)
        refine Hs.rung0 [3, 9] 300 (fun _ => by kernel_rfl) ?_
        refine Hs.condF (by kernel_rfl) ?_
        refine Hs.run0 300 (fun _ => by kernel_rfl) ?_
        refine Hs.condF (by kernel_rfl) ?_
        refine Hs.run0 300 (fun _ => by kernel_rfl) ?_
        refine Hs.slot 25 (.c (.v (.int .i64 (i + 1 : Nat)))) rfl ((by kernel_rfl : _ = Value.int .i64 (IntKind.i64.wrap ((i : Int) + 1))).trans (wrap_nextJ hlen)) ?_
        refine Hs.loop (by kernel_rfl) ?_
        exact Hs.goto (loopAt Tryz.f7 0) [0, 6, 2] [.b true 41 ((sE env).sc A5 c5), .s A5 c5 env.length 59 2 (env.flatMap cVar), HB.mp kS r es] [(3, .c (.p 0 0)), (4, .c (.v (.map (some r)))), (23, .c (.v (.slice (some ⟨ab, aoff, none⟩) l.length c))), (24, .c (.v (.int .i64 l.length))), (25, .c (.v (.int .i64 (i + 1 : Nat))))] (by kernel_rfl) (by decide) (by kernel_rfl) (by kernel_rfl) (fun _ => (by kernel_rfl)) (fun u => hih env (by omega) b0 r A5 c5 es he u)
  refine Hs.enter Tryz.func7 [] [] [] [.c (.v (.slice A l.length c))] (Mem.start0 w) (by kernel_rfl) (by kernel_rfl) ?_
  refine Hs.run0 300 (fun _ => by kernel_rfl) ?_
  refine Hs.callV (fun w' H => alive27_any w' i0 (cell_step H.only h00)) (by kernel_rfl) ?_
  refine Hs.run0 300 (fun _ => by kernel_rfl) ?_
  refine Hs.condF (by kernel_rfl) ?_
  refine Hs.run0 300 (fun _ => by kernel_rfl) ?_
  refine Hs.condP ((l.length : Int) > 100) (by kernel_rfl) (fun h1 => ?_) (fun h1 => ?_)
  · refine Hs.run0 300 (fun _ => by kernel_rfl) ?_
    exact Hs.ret (v := .bool true) Tryz.func7 (by kernel_rfl) fun w' H => ⟨rfl, H.only⟩
  refine Hs.run1 300 (fun _ => by kernel_rfl) fun b0 => ?_
  refine Hs.mkM (T := 75) kS (by kernel_rfl) (by kernel_rfl) fun r => ?_
  refine Hs.run0 300 (fun _ => by kernel_rfl) ?_
  refine Hs.nilS 59 2 (by kernel_rfl) ?_ (by kernel_rfl)
  refine Hs.loop (by kernel_rfl) ?_
  exact Hs.goto (loopAt Tryz.f7 0) [0, 2, 1] [.b true 41 ((sE []).sc none 0), .s none 0 0 59 2 (([] : List VR).flatMap cVar), HB.mp kS r []] [(3, .c (.p 0 0)), (4, .c (.v (.map (some r)))), (23, .c (.v (.slice A l.length c))), (24, .c (.v (.int .i64 l.length))), (25, .c (.v (.int .i64 (0 : Nat))))] (by kernel_rfl) (by decide) (by kernel_rfl) (by kernel_rfl) (fun _ => (by kernel_rfl)) (fun u => J l.length 0 (by omega) (by omega) [] (by decide) b0 r none 0 [] rfl u)
end Go.Proofs.YtdplnedpbkpgpaaGreatDoor

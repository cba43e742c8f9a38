/- Layer 26: Take, whole; for all channels and messages; no condition. -/
import Derived.Test.YtbamojbkehnmkaaMuxG
import Derived.Test.YtbamojbkehnmkaaMuxI
import Derived.Test.YtbamojbkehnmkaaMuxJ
namespace Go.Proofs.Ytbamojbkehnmkaa
set_option linter.all false
set_option maxRecDepth 100000
open Go.RowKit

theorem take_dead (xA : Option Addr) (xcap : Nat) (l : List CH) (lim : Int) (m : MD) (w : World) (hx : MX.ok w ⟨xA, xcap, l, lim, true⟩) (hf : Few l) : Calls Try.prog 9 #[MX.val ⟨xA, xcap, l, lim, true⟩, m.val] w (MTakeP ⟨xA, xcap, l, lim, true⟩ ⟨l, true, [], [], 9⟩ w) := by
  refine Hs.enter Try.func9 [] [] [] [.g (MX.sc ⟨xA, xcap, l, lim, true⟩), .g m.sc] (Mem.start0 w) (by kernel_rfl) (by kernel_rfl) ?_
  refine Hs.run3 300 (fun _ => by kernel_rfl) fun b0 b1 b2 => ?_
  refine Hs.callS (cf := CH.cells) (E := 45) (size := 12) (fun A cap => MX.val ⟨A, cap, l, lim, true⟩) l l.length rfl (fun w' H => twin_any ⟨xA, xcap, l, lim, true⟩ w' (hx.only H.only) hf) (by kernel_rfl) (by kernel_rfl) fun A cap h1 h2 => ?_
  refine Hs.run1 300 (fun _ => by kernel_rfl) fun b4 => ?_
  refine Hs.condT (by kernel_rfl) ?_
  refine Hs.run0 300 (fun _ => by kernel_rfl) ?_
  exact Hs.ret (v := .tuple #[MX.val ⟨A, cap, l, lim, true⟩, .slice none 0 0, .slice none 0 0, .int .i64 9]) Try.func9 (by kernel_rfl) fun w' H => ⟨A, cap, none, 0, none, 0, rfl, H.only, ⟨H.fresh 3 rfl (by kernel_rfl), ⟨[], rfl, ownX_nil⟩, ⟨[], rfl, ownX_nil⟩⟩⟩
theorem take_any (x : MX) (m : MD) (w : World) (hx : x.ok w) (hf : Few x.l) (hm : MIn w m) : Calls Try.prog 9 #[x.val, m.val] w (MTakeP x (takeR x.l x.lim x.dead m) w) := by
  obtain ⟨xA, xcap, l, lim, dead⟩ := x
  unfold takeR
  dsimp only
  cases dead with
  | true => exact take_dead xA xcap l lim m w hx hf
  | false =>
    rw [if_neg (by simp)]
    by_cases k1 : m.kind = 1
    · rw [if_pos k1]; exact take_leave xA xcap l lim m w hx hf k1
    rw [if_neg k1]
    by_cases k80 : m.kind = 80
    · rw [if_pos k80]; exact take_global xA xcap l lim m w hx hf k80
    rw [if_neg k80]
    by_cases k90 : m.kind = 90
    · rw [if_pos k90]; exact take_open xA xcap l lim m w hx hf k90
    rw [if_neg k90]
    by_cases k93 : m.kind = 93
    · rw [if_pos k93]; exact take_comes_more xA xcap l lim m w hx hf k93 hm
    rw [if_neg k93]
    by_cases k94 : m.kind = 94
    · rw [if_pos k94]; exact take_comes_input xA xcap l lim m w hx hf k94 hm
    rw [if_neg k94]
    by_cases k95 : m.kind = 95
    · rw [if_pos k95]; exact take_comes_input2 xA xcap l lim m w hx hf k95 hm
    rw [if_neg k95]
    by_cases k96 : m.kind = 96
    · rw [if_pos k96]; exact take_comes_ended xA xcap l lim m w hx hf k96 hm
    rw [if_neg k96]
    by_cases k97 : m.kind = 97
    · rw [if_pos k97]; exact take_comes_closed xA xcap l lim m w hx hf k97 hm
    rw [if_neg k97]
    by_cases k98 : m.kind = 98
    · rw [if_pos k98]; exact take_comes_asked xA xcap l lim m w hx hf k98 hm
    rw [if_neg k98]
    refine take_strange xA xcap l lim m w hx hf ?_
    simp [lookM, kindsL, Ne.symm k1, Ne.symm k80, Ne.symm k90, Ne.symm k93, Ne.symm k94, Ne.symm k95, Ne.symm k96, Ne.symm k97, Ne.symm k98]
theorem MTakeQ.rdOut {x : MX} {r : TR} {w w' : World} {A : Option Addr} {cap : Nat} {oA : Option Addr} {oC : Nat} {eA : Option Addr} {eC : Nat} (h : MTakeQ x r w w' A cap oA oC eA eC) : ∃ outs : List MD, outs.map (fun o => (o.kind, o.chan)) = r.out ∧ RdX MD.row w' oA outs ∧ ∀ a, oA = some a → w.heap.size ≤ a.block := by
  obtain ⟨outs, h1, h2⟩ := h.out
  have hl : r.out.length = outs.length := by rw [← h1]; simp
  rw [hl] at h2
  obtain ⟨A1, c1, e, _, _, h3, h4⟩ := h2.form
  injection e with e1
  subst e1
  exact ⟨outs, h1, h3, fun a ha => (h4 a ha).1⟩
theorem MTakeQ.rdEv {x : MX} {r : TR} {w w' : World} {A : Option Addr} {cap : Nat} {oA : Option Addr} {oC : Nat} {eA : Option Addr} {eC : Nat} (h : MTakeQ x r w w' A cap oA oC eA eC) : ∃ evs : List EV, evs.map (·.kind) = r.ev ∧ RdX EV.row w' eA evs ∧ ∀ a, eA = some a → w.heap.size ≤ a.block := by
  obtain ⟨outs, h1, h2⟩ := h.ev
  have hl : r.ev.length = outs.length := by rw [← h1]; simp
  rw [hl] at h2
  obtain ⟨A1, c1, e, _, _, h3, h4⟩ := h2.form
  injection e with e1
  subst e1
  exact ⟨outs, h1, h3, fun a ha => (h4 a ha).1⟩
theorem MTakeQ.rdChs {x : MX} {r : TR} {w w' : World} {A : Option Addr} {cap : Nat} {oA : Option Addr} {oC : Nat} {eA : Option Addr} {eC : Nat} (h : MTakeQ x r w w' A cap oA oC eA eC) : RdX CH.cells w' A r.l ∧ r.l.length ≤ cap ∧ cap ≤ maxLen ∧ ∀ a, A = some a → w.heap.size ≤ a.block := by
  obtain ⟨A1, c1, e, h1, h2, h3, h4⟩ := h.chs.form
  injection e with e1 _ e3
  subst e1; subst e3
  exact ⟨h3, h1, h2, fun a ha => (h4 a ha).1⟩
/-- Channels keep within their numbers. -/
theorem oL_u32 {c : CH} (hc : c.ok) {n : Int} (hn : 0 ≤ n) : U32 (oL c.inl n) := by
  have := hc.inl
  unfold oL U32 at *
  split <;> omega
theorem gL_u32 {c : CH} (hc : c.ok) {n : Int} (hn : U32 n) : U32 (gL c.left n) := by
  have := hc.left
  unfold gL U32 at *
  split <;> omega
theorem recvC_ok {c : CH} (hc : c.ok) {k wn : Int} (hw : U32 wn) (want : Bool) {n : Int} (hn : 0 ≤ n) : (recvC c k wn want n).1.ok := by
  unfold recvC
  repeat' split
  all_goals first
    | exact hc
    | exact ⟨hc.loc, hc.rem, hc.left, hc.pack, oL_u32 hc hn, hc.lim, hc.owed⟩
    | exact ⟨hc.loc, hc.rem, gL_u32 hc hw, hc.pack, hc.inl, hc.lim, hc.owed⟩
    | exact ⟨hc.loc, hc.rem, hc.left, hc.pack, hc.inl, hc.lim, hc.owed⟩
    | exact ⟨hc.loc, hc.rem, hc.left, hc.pack, hc.inl, hc.lim, by
        dsimp only; rw [IntKind.wrap_i64]; omega⟩
theorem recvC_loc (c : CH) (k wn : Int) (want : Bool) (n : Int) : (recvC c k wn want n).1.loc = c.loc ∧ (recvC c k wn want n).1.rem = c.rem := by
  unfold recvC
  repeat' split
  all_goals exact ⟨rfl, rfl⟩
theorem takeR_ok {l : List CH} {lim : Int} {dead : Bool} {m : MD} {w : World} (h : ∀ c ∈ l, c.ok) (hlim : U32 lim) (hm : MIn w m) : ∀ c ∈ (takeR l lim dead m).l, c.ok := by
  have hcm : ∀ k, ∀ c ∈ (comesR l m k).l, c.ok := fun k => by
    unfold comesR
    split
    · exact h
    · rename_i c hc
      split
      · exact h
      · split
        · exact h
        · intro d hd
          rcases List.mem_or_eq_of_mem_set hd with hd | rfl
          · exact h d hd
          · exact recvC_ok (h c (List.mem_of_getElem? hc)) hm.win _ (by omega)
  have hop : ∀ c ∈ (openR l lim m).l, c.ok := by
    unfold openR
    split
    · exact h
    · split
      · exact h
      · rename_i h8
        split
        · exact h
        · intro c hc
          simp only [insL, List.mem_append, List.mem_cons] at hc
          rcases hc with hc | rfl | hc
          · exact h c (List.mem_of_mem_take hc)
          · have := freeN_le l
            refine ⟨?_, hm.send, hm.win, hm.pack, hlim, hlim, by simp [newC]⟩
            unfold newC U32
            dsimp only
            omega
          · exact h c (List.mem_of_mem_drop hc)
  unfold takeR
  split
  · exact h
  split
  · exact h
  split
  · exact h
  split
  · exact hop
  repeat' (split; exact hcm _)
  exact h
theorem takeR_len (l : List CH) (lim : Int) (dead : Bool) (m : MD) : (takeR l lim dead m).l.length ≤ l.length + 1 := by
  have hcm : ∀ k, (comesR l m k).l.length ≤ l.length + 1 := fun k => by
    unfold comesR wrongR
    repeat' split
    all_goals simp
  have hop : (openR l lim m).l.length ≤ l.length + 1 := by
    unfold openR wrongR
    repeat' split
    all_goals first
      | (rw [insL_len (atN_le _ _)]; exact Nat.le_refl _)
      | simp
  unfold takeR wrongR
  repeat' split
  all_goals first | exact hop | exact hcm _ | simp
end Go.Proofs.Ytbamojbkehnmkaa

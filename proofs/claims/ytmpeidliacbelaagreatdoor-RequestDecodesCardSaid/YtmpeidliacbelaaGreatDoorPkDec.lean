/- The document's answer for layer 4: Decode; no condition · Layer 4: what is decoded is one; no condition. -/
import Derived.Test.YtmpeidliacbelaaGreatDoorPkW
import Derived.Test.YtmpeidliacbelaaGreatDoorReqWC
import Derived.Test.YtmpeidliacbelaaGreatDoorReqWD
import Derived.Test.YtmpeidliacbelaaGreatDoorReqWE
import Derived.Test.YtmpeidliacbelaaGreatDoorPkOpen
import Derived.HandedShaped
namespace Go.Proofs.YtmpeidliacbelaaGreatDoor
set_option linter.all false
open Go.RowKit

theorem refRDecode_any (s : ByteArray) (A : Option Addr) (l : List Int) (c : Nat) (w : World) (h : Rd w A l) (hl : InB l) (hln : l.length ≤ 140737488355000) (hlc : l.length ≤ c) (hlm : c ≤ maxLen) :
    Calls Tryz.prog 7 #[.string s, .slice A l.length c] w (RefDecPost w s l) := by
  by_cases h1 : rname 1 = s
  · rw [← h1]; exact refdec_k1 A l c w h hl hln hlc hlm
  by_cases h2 : rname 2 = s
  · rw [← h2]; exact refdec_k2 A l c w h hl hln hlc hlm
  by_cases h3 : rname 3 = s
  · rw [← h3]; exact refdec_k3 A l c w h hl hln hlc hlm
  by_cases h4 : rname 4 = s
  · rw [← h4]; exact refdec_k4 A l c w h hl hln hlc hlm
  by_cases h5 : rname 5 = s
  · rw [← h5]; exact refdec_k5 A l c w h hl hln hlc hlm
  by_cases h6 : rname 6 = s
  · rw [← h6]; exact refdec_k6 A l c w h hl hln hlc hlm
  by_cases h7 : rname 7 = s
  · rw [← h7]; exact refdec_k7 A l c w h hl hln hlc hlm
  by_cases h8 : rname 8 = s
  · rw [← h8]; exact refdec_k8 A l c w h hl hln hlc hlm
  by_cases h9 : rname 9 = s
  · rw [← h9]; exact refdec_k9 A l c w h hl hln hlc hlm
  by_cases h10 : rname 10 = s
  · rw [← h10]; exact refdec_k10 A l c w h hl hln hlc hlm
  exact refdec_none s (fun j j1 j2 => by
    rcases k10 j1 (by omega : j ≤ 10) with rfl | rfl | rfl | rfl | rfl | rfl | rfl | rfl | rfl | rfl
    · exact h1
    · exact h2
    · exact h3
    · exact h4
    · exact h5
    · exact h6
    · exact h7
    · exact h8
    · exact h9
    · exact h10) A l c w h hl hln hlc hlm
end Go.Proofs.YtmpeidliacbelaaGreatDoor

namespace Go.Proofs.YtmpeidliacbelaaGreatDoor
set_option linter.all false
open Go.ChangeShapes Go.WideShapes Go.ChangeAt Go.RowKit Go.Deep

def Soft (fs : List FD) (w : World) : Prop := ∀ f ∈ fs, ∀ b off, f.tA = some ⟨b, off, none⟩ → ∀ i, i < f.text.length → (∃ x, w.cell? ⟨b, off + i, none⟩ = some (.int .u8 x)) ∧ w.frozen? ⟨b, off + i, none⟩ = false
theorem Soft.set {fs : List FD} {w : World} (h : Soft fs w) (p : Addr) (x : Int) : Soft fs (w.setCell p (.int .u8 x)) := fun f hf b off ha i hi => by
  obtain ⟨h1, h2⟩ := h f hf b off ha i hi
  exact ⟨someInt_setCell h1 p x, by rw [World.frozen?_setCell]; exact h2⟩
theorem Soft.drew {fs : List FD} {w : World} (h : Soft fs w) : Soft fs w.drew := fun f hf b off ha i hi => h f hf b off ha i hi
theorem putR_pf (k : Nat) (h1 : 1 ≤ k) (h2 : k ≤ 10) {fs gs : List FD} (hk : fs.map (fun f => f.pf.kind) = rkinds k) (h : fs.map FD.pf = gs.map FD.pf) : SameR (putR (firstR k) k fs) (putR (firstR k) k gs) := by
  have T : ∀ {x y : FD}, y.pf = x.pf → strOfNums y.text = strOfNums x.text := fun {x y} e => by rw [show y.text = x.text from congrArg PF.text e]
  have N : ∀ {x y : FD}, y.pf = x.pf → y.n = x.n := fun e => congrArg PF.n e
  have B : ∀ {x y : FD}, y.pf = x.pf → decide (y.n = 1) = decide (x.n = 1) := fun {x y} e => by rw [show y.n = x.n from congrArg PF.n e]
  rcases k10 h1 h2 with rfl | rfl | rfl | rfl | rfl | rfl | rfl | rfl | rfl | rfl
  · obtain ⟨a, b, c, d, e, f, rfl, _⟩ := ks6 hk
    obtain ⟨a', b', c', d', e', f', rfl, ha, hb, hc, hd, he, hf⟩ := fs6 h.symm
    exact ⟨rfl, T ha, rfl, rfl, N hb, N hc, N hd, N he, rfl, rfl, congrArg PF.text hf⟩
  · obtain ⟨a, b, rfl, _⟩ := ks2 hk
    obtain ⟨a', b', rfl, ha, hb⟩ := fs2 h.symm
    exact ⟨rfl, T ha, T hb, rfl, rfl, rfl, rfl, rfl, rfl, rfl, rfl⟩
  · exact SameR.refl _
  · obtain ⟨a, rfl, _⟩ := ks1 hk
    obtain ⟨a', rfl, ha⟩ := fs1 h.symm
    exact ⟨rfl, T ha, rfl, rfl, rfl, rfl, rfl, rfl, rfl, rfl, rfl⟩
  · obtain ⟨a, rfl, _⟩ := ks1 hk
    obtain ⟨a', rfl, ha⟩ := fs1 h.symm
    exact ⟨rfl, T ha, rfl, rfl, rfl, rfl, rfl, rfl, rfl, rfl, rfl⟩
  · obtain ⟨b, c, d, e, rfl, _⟩ := ks4 hk
    obtain ⟨b', c', d', e', rfl, hb, hc, hd, he⟩ := fs4 h.symm
    exact ⟨rfl, rfl, rfl, rfl, N hb, N hc, N hd, N he, rfl, rfl, rfl⟩
  · obtain ⟨a, rfl, _⟩ := ks1 hk
    obtain ⟨a', rfl, ha⟩ := fs1 h.symm
    exact ⟨rfl, rfl, rfl, rfl, rfl, rfl, rfl, rfl, B ha, rfl, rfl⟩
  · obtain ⟨a, rfl, _⟩ := ks1 hk
    obtain ⟨a', rfl, ha⟩ := fs1 h.symm
    exact ⟨rfl, T ha, rfl, rfl, rfl, rfl, rfl, rfl, rfl, rfl, rfl⟩
  · obtain ⟨a, rfl, _⟩ := ks1 hk
    obtain ⟨a', rfl, ha⟩ := fs1 h.symm
    exact ⟨rfl, rfl, rfl, rfl, rfl, rfl, rfl, rfl, rfl, N ha, rfl⟩
  · obtain ⟨a, b, c, d, rfl, _⟩ := ks4 hk
    obtain ⟨a', b', c', d', rfl, ha, hb, hc, hd⟩ := fs4 h.symm
    exact ⟨rfl, T ha, T hc, T hd, rfl, rfl, rfl, rfl, B hb, rfl, rfl⟩
/-- What is decoded is one. -/
theorem decR_same {s : ByteArray} {l : List Int} (hl : InB l) {a b : RQ} {E F : Int} (h : DecR s l a E) (g : DecR s l b F) : F = E ∧ SameR a b := by
  unfold DecR at h g
  cases hk : kindL s.data.toList with
  | none =>
    rw [hk] at h g
    exact ⟨g.1.trans h.1.symm, by rw [h.2, g.2]; exact SameR.refl _⟩
  | some k =>
    rw [hk] at h g
    obtain ⟨h1, h2, _⟩ := kindL_range hk
    dsimp only at h g
    unfold DecK at h g
    by_cases h0 : (readP (rkinds k) l).1 ≠ 0
    · rw [if_pos h0] at h g
      exact ⟨g.1.trans h.1.symm, by rw [h.2, g.2]; exact SameR.refl _⟩
    · rw [if_neg h0] at h g
      obtain ⟨fs, e1, h⟩ := h
      obtain ⟨gs, e2, g⟩ := g
      have hkk : fs.map (fun f => f.pf.kind) = rkinds k := by
        have := (readP_good (rkinds k) l hl (by simpa using h0)).1
        rw [← e1, List.map_map] at this
        exact this
      have hs := putR_pf k h1 h2 hkk (e1.trans e2.symm)
      have ha := askR_same hs k h1 h2
      rw [ha] at g
      split at h
      · rename_i hf
        rw [if_pos hf] at g
        exact ⟨g.1.trans h.1.symm, by rw [h.2, g.2]; exact hs⟩
      · rename_i hf
        rw [if_neg hf] at g
        exact ⟨g.1.trans h.1.symm, by rw [h.2, g.2]; exact SameR.refl _⟩
end Go.Proofs.YtmpeidliacbelaaGreatDoor

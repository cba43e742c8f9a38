/- The law PtySizes holds: one event for each other size, to the group in front; the last size counts; for all terminals and sizes; no condition. -/
import Derived.Test.YtnfcdbjckdhieaaGreatPtF
import Derived.Test.YtnfcdbjckdhieaaGreatLdOpn
namespace Go.Proofs.YtnfcdbjckdhieaaGreat
set_option linter.all false
open Go.ChangeShapes Go.WideShapes Go.ChangeAt Go.RowKit Go.Deep

section
variable {H : Type} {enc : TypeId × Value → H} {w : World} {base : Nat} {spare : Nat → Bool} {held : Bool} {R : Nat}
set_option maxRecDepth 100000 in
theorem size_cells {n : Nat} {l : List Value} (hl : l.length = 4) (h : TrodW enc Tryz.prog w base spare held R n 32 l) : ∃ q : SZ, l = q.cells := by
  obtain ⟨n1, hf⟩ := h.fields Tryz.underlying32
  match l, hl with
  | [c0, c1, c2, c3], _ =>
  have g0 := hf.at_ 0 24 0 1 _ rfl rfl rfl (by kernel_rfl) rfl
  have g1 := hf.at_ 1 24 1 1 _ rfl rfl rfl (by kernel_rfl) rfl
  have g2 := hf.at_ 2 24 2 1 _ rfl rfl rfl (by kernel_rfl) rfl
  have g3 := hf.at_ 3 24 3 1 _ rfl rfl rfl (by kernel_rfl) rfl
  obtain ⟨a, rfl, _⟩ := TrodW.int Tryz.underlying24 g0
  obtain ⟨b, rfl, _⟩ := TrodW.int Tryz.underlying24 g1
  obtain ⟨c, rfl, _⟩ := TrodW.int Tryz.underlying24 g2
  obtain ⟨e, rfl, _⟩ := TrodW.int Tryz.underlying24 g3
  exact ⟨⟨a, b, c, e⟩, rfl⟩
set_option maxRecDepth 100000 in
theorem open_sizes {r : Reach} {b0 : Nat} {v : Value} {d : DataW H} {p : List MemPlace} (hW : ∀ q ∈ d.weights Tryz.prog 35, q ≤ R) (hv : Value.okWide Tryz.prog w r b0 35 v) (h : DataW.Trod enc Tryz.prog w base spare held 35 v d p) : ∃ (A : Option Addr) (l : List SZ) (cap : Nat), v = .slice A l.length cap ∧ RdX SZ.cells w A l ∧ l.length ≤ cap ∧ cap ≤ maxLen := by
  obtain ⟨a0, len, c0, rfl⟩ := okWide_slice Tryz.underlying35 hv
  obtain ⟨fuel, hf⟩ := h
  obtain ⟨A, l, cap, e, h1, h2, h3, _, _⟩ := TrodW.slice (R := R) (cf := SZ.cells) (ok := fun _ => True) (size := 4) Tryz.underlying35 (by kernel_rfl) (by decide) (fun _ => rfl) (fun n l hl h => by
    obtain ⟨q, rfl⟩ := size_cells hl h
    exact ⟨q, rfl, trivial⟩) ⟨_, hf, hW⟩
  exact ⟨A, l, cap, e, h3, h1, h2⟩
set_option maxRecDepth 100000 in
theorem open_lpty {r : Reach} {b0 : Nat} {v : Value} {d : DataW H} {p : List MemPlace} (hW : ∀ q ∈ d.weights Tryz.prog 34, q ≤ R) (hv : Value.okWide Tryz.prog w r b0 34 v) (h : DataW.Trod enc Tryz.prog w base spare held 34 v d p) : ∃ (x : PM) (d : DM) (s : DS), v = .agg (lptyV x d s).toArray ∧ DArg w R d s := by
  obtain ⟨l, n, rfl, hl, hf⟩ := open_structW Tryz.underlying34 (by kernel_rfl : Tryz.prog.cellsOf 34 = 42) hW hv h
  obtain ⟨n1, hf⟩ := hf.fields Tryz.underlying34
  have e := List.take_append_drop 34 l
  have h2 : (l.drop 34).length = 8 := by rw [List.length_drop]; omega
  have h3 : (l.take 34).length = 34 := by rw [List.length_take]; omega
  match hd : l.drop 34, h2 with
  | [c0, c1, c2, c3, c4, c5, c6, c7], _ =>
  rw [hd] at e
  generalize l.take 34 = l1 at e h3
  subst e
  have g0 := hf.at_ (l' := l1) 0 30 0 34 _ rfl rfl rfl (by kernel_rfl) (by rw [List.drop_zero, List.take_append_of_le_length (by omega), ← h3, List.take_length])
  obtain ⟨d, s, rfl, hD⟩ := disc16_cells h3 g0
  have g1 := hf.at_ 1 32 34 4 _ rfl rfl rfl (by kernel_rfl) rfl
  obtain ⟨q, hq⟩ := size_cells rfl g1
  have g2 := hf.at_ 2 3 38 1 _ rfl rfl rfl (by kernel_rfl) rfl
  have g3 := hf.at_ 3 3 39 1 _ rfl rfl rfl (by kernel_rfl) rfl
  have g4 := hf.at_ 4 3 40 1 _ rfl rfl rfl (by kernel_rfl) rfl
  have g5 := hf.at_ 5 4 41 1 _ rfl rfl rfl (by kernel_rfl) rfl
  obtain ⟨ses, rfl, _⟩ := TrodW.int Tryz.underlying3 g2
  obtain ⟨grp, rfl, _⟩ := TrodW.int Tryz.underlying3 g3
  obtain ⟨sl, rfl, _⟩ := TrodW.int Tryz.underlying3 g4
  obtain ⟨hg, rfl⟩ := TrodW.bool Tryz.underlying4 g5
  have hq : [c0, c1, c2, c3] = q.cells := hq
  simp only [SZ.cells, List.cons.injEq, and_true] at hq
  obtain ⟨rfl, rfl, rfl, rfl⟩ := hq
  exact ⟨⟨q.co, q.ro, q.wi, q.he, ses, grp, sl, hg⟩, d, s, rfl, hD⟩
end
theorem DArg.len {w : World} {R : Nat} {d : DM} {s : DS} (h : DArg w R d s) (hR : R ≤ 140737488355328) : LenOk d := ⟨Nat.le_trans h.line hR, Nat.le_trans h.raw hR, Nat.le_trans h.out hR, fun p hp => Nat.le_trans (h.txt p hp) hR⟩
set_option maxRecDepth 100000 in
theorem ptySizes_law : LawWalkS Tryz.prog 3 Tryz.f3 := by
  intro H enc W base args ds ps hval hA hsz
  rw [Tryz.params3] at hA hval hsz
  obtain ⟨v0, v1, d0, d1, p0, p1, rfl, rfl, rfl, h0, h1⟩ := trodAll_two hA
  have hw := fun (j : Nat) {t : TypeId} {d : DataW H} (a : _) (b : _) (k : Nat) (hk : _) => (by
    have := List.all_eq_true.1 hsz k (DataW.weights_mem_each (j := j) (t := t) (d := d) a b k hk)
    simpa using this : k ≤ reachBytes)
  obtain ⟨x, d, s, rfl, hD⟩ := open_lpty (R := reachBytes) (hw 0 rfl rfl) (hval 0 34 v0 rfl rfl) h0
  obtain ⟨A, l, cap, rfl, r1, r2, r3⟩ := open_sizes (R := reachBytes) (hw 1 rfl rfl) (hval 1 35 v1 rfl rfl) h1
  exact (sizes_walk x d s A cap l W hD.data (hD.len (by decide)) r1 r2 r3).mono fun e w' h => ⟨h.1, h.2.below (Nat.le_refl _) (by simp)⟩

set_option maxRecDepth 100000 in
theorem ptySizes_holds : Rows.PtySizesSaid :=
  OpenClaim.holds_of_wide 3 Tryz.f3 rfl rfl rfl rfl rfl rfl rfl ⟨rfl, rfl, rfl, rfl, rfl⟩ rfl rfl rfl rfl rfl (by kernel_rfl) Tryz.func3 (by kernel_rfl)
    (of_decide_eq_true (by kernel_rfl)) (by unfold Func.isWrapper; rw [if_neg (by decide +kernel)]; exact ⟨rfl, rfl⟩)
    (fun os started H enc _ => law_liftedS own laidOut Tryz.underlying4 3 Tryz.f3 Rows.ptySizesSpec Tryz.func3 (by kernel_rfl) (by kernel_rfl) (by kernel_rfl) rfl
      (fun H ds hl => by
        have hl : ds.length = 2 := hl
        match ds, hl with
        | [d1, d2], _ => rfl)
      ptySizes_law os started H enc
      (ChangeSpec.witness6 (enc := enc) (C := Tryz.checked) false ⟨#[], #[.agg (lptyV ⟨0, 0, 0, 0, 0, 0, 0, false⟩ (newD ⟨fun _ => 0, 0, 0, 0, 0, 0⟩) nilS).toArray, .slice none 0 0], []⟩ 8 (by kernel_rfl) (by kernel_rfl) (by kernel_rfl) (by kernel_rfl)))
#print axioms ptySizes_holds
end Go.Proofs.YtnfcdbjckdhieaaGreat

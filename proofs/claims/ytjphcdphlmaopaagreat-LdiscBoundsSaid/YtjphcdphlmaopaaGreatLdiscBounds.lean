/- The law LdiscBounds holds: nothing that waits is ever more than it may be; for all settings and steps; no condition. -/
import Derived.Test.YtjphcdphlmaopaaGreatLdBA
namespace Go.Proofs.YtjphcdphlmaopaaGreat
set_option linter.all false
open Go.ChangeShapes Go.WideShapes Go.ChangeAt Go.RowKit Go.Deep

section
variable {H : Type} {enc : TypeId × Value → H} {w : World} {base : Nat} {spare : Nat → Bool} {held : Bool} {R : Nat}
set_option maxRecDepth 100000 in
theorem op16_cells {n : Nat} {l : List Value} (hl : l.length = 28) (h : TrodW enc Tryz.prog w base spare held R n 79 l) : ∃ x : OpM, l = cOp x ∧ RdU w x.A x.c x.b ∧ OpOk x := by
  obtain ⟨n1, hf⟩ := h.fields Tryz.underlying79
  have e := List.take_append_drop 4 l
  have h2 : (l.take 4).length = 4 := by rw [List.length_take]; omega
  have h3 : (l.drop 4).length = 24 := by rw [List.length_drop]; omega
  match hd : l.take 4, h2 with
  | [c0, c1, c2, c3], _ =>
  rw [hd] at e
  generalize l.drop 4 = l1 at e h3
  subst e
  have g0 := hf.at_ 0 3 0 1 _ rfl rfl rfl (by kernel_rfl) rfl
  have g1 := hf.at_ 1 3 1 1 _ rfl rfl rfl (by kernel_rfl) rfl
  have g2 := hf.at_ 2 3 2 1 _ rfl rfl rfl (by kernel_rfl) rfl
  have g3 := hf.at_ 3 27 3 1 _ rfl rfl rfl (by kernel_rfl) rfl
  have g4 := hf.at_ (l' := l1) 4 26 4 24 _ rfl rfl rfl (by kernel_rfl) (by
    show List.take 24 l1 = l1
    rw [← h3, List.take_length])
  obtain ⟨k, rfl, _⟩ := TrodW.int Tryz.underlying3 g0
  obtain ⟨m, rfl, u1⟩ := TrodW.int Tryz.underlying3 g1
  obtain ⟨q, rfl, u2⟩ := TrodW.int Tryz.underlying3 g2
  obtain ⟨A, b, cap, rfl, k1, _, _⟩ := g3.bytes
  obtain ⟨t, rfl, ht⟩ := termios_cells h3 g4
  exact ⟨⟨k, m, q, A, cap, b, t⟩, rfl, k1, wf_i64 u1, wf_i64 u2, ht⟩
set_option maxRecDepth 100000 in
theorem open_ops16 {r : Reach} {b0 : Nat} {v : Value} {d : DataW H} {p : List MemPlace} (hW : ∀ q ∈ d.weights Tryz.prog 76, q ≤ R) (hv : Value.okWide Tryz.prog w r b0 76 v) (h : DataW.Trod enc Tryz.prog w base spare held 76 v d p) : ∃ (A : Option Addr) (l : List OpM) (cap : Nat), v = .slice A l.length cap ∧ RdOp w A cap l ∧ ∀ x ∈ l, OpOk x := by
  obtain ⟨a0, len, c0, rfl⟩ := okWide_slice Tryz.underlying76 hv
  obtain ⟨fuel, hf⟩ := h
  obtain ⟨A, l, cap, e, h1, h2, h3, h4, _⟩ := TrodW.slice (R := R) (cf := cOp) (ok := fun x => RdU w x.A x.c x.b ∧ OpOk x) (size := 28) Tryz.underlying76 (by kernel_rfl) (by decide) cOp_len (fun n l hl h => op16_cells hl h) ⟨_, hf, hW⟩
  exact ⟨A, l, cap, e, ⟨h3, h1, h2, fun x hx => (h4 x hx).1⟩, fun x hx => (h4 x hx).2⟩
end
set_option maxRecDepth 100000 in
theorem ldiscBounds_law : LawWalkS Tryz.prog 8 Tryz.f8 := by
  intro H enc W base args ds ps hval hA hsz
  rw [Tryz.params8] at hA hval hsz
  obtain ⟨w0, w1, d0, d1, p0, p1, rfl, rfl, rfl, h0, h1⟩ := trodAll_two hA
  have hw := fun (j : Nat) {t : TypeId} {d : DataW H} (a : _) (b : _) (k : Nat) (hk : _) => (by
    have := List.all_eq_true.1 hsz k (DataW.weights_mem_each (j := j) (t := t) (d := d) a b k hk)
    simpa using this : k ≤ reachBytes)
  obtain ⟨v0, rfl, ht0⟩ := open_termios (R := reachBytes) (hw 0 rfl rfl) (hval 0 26 w0 rfl rfl) h0
  obtain ⟨A1, l1, cap1, rfl, hl1⟩ := open_ops16 (R := reachBytes) (hw 1 rfl rfl) (hval 1 76 w1 rfl rfl) h1
  exact (bounds_walk v0 A1 cap1 l1 W ht0 hl1).mono fun e w' h => ⟨h.1, h.2.below (Nat.le_refl _) (by simp)⟩

set_option maxRecDepth 100000 in
theorem ldiscBounds_holds : Rows.LdiscBoundsSaid :=
  OpenClaim.holds_of_wide 8 Tryz.f8 rfl rfl rfl rfl rfl rfl rfl ⟨rfl, rfl, rfl, rfl, rfl⟩ rfl rfl rfl rfl rfl (by kernel_rfl) Tryz.func8 (by kernel_rfl)
    (of_decide_eq_true (by kernel_rfl)) (by unfold Func.isWrapper; rw [if_neg (by decide +kernel)]; exact ⟨rfl, rfl⟩)
    (fun os started H enc _ => law_liftedS own laidOut Tryz.underlying4 8 Tryz.f8 Rows.ldiscBoundsSpec Tryz.func8 (by kernel_rfl) (by kernel_rfl) (by kernel_rfl) rfl
      (fun H ds hl => by
        have hl : ds.length = 2 := hl
        match ds, hl with
        | [d1, d2], _ => rfl)
      ldiscBounds_law os started H enc
      (ChangeSpec.witness6 (enc := enc) (C := Tryz.checked) false ⟨#[], #[TM.val ⟨fun _ => 0, 0, 0, 0, 0, 0⟩, .slice none 0 0], []⟩ 8 (by kernel_rfl) (by kernel_rfl) (by kernel_rfl) (by kernel_rfl)))
#print axioms ldiscBounds_holds
end Go.Proofs.YtjphcdphlmaopaaGreat

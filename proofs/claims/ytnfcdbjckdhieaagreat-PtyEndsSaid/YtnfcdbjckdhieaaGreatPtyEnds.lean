/- The law PtyEnds holds: what is typed and written at a terminal's ends is what the discipline alone makes of it; for all settings and bytes; no condition. -/
import Derived.Test.YtnfcdbjckdhieaaGreatPtR
import Derived.Test.YtnfcdbjckdhieaaGreatLdOpn
namespace Go.Proofs.YtnfcdbjckdhieaaGreat
set_option linter.all false
open Go.ChangeShapes Go.WideShapes Go.ChangeAt Go.RowKit Go.Deep

section
variable {H : Type} {enc : TypeId × Value → H} {w : World} {base : Nat} {spare : Nat → Bool} {held : Bool} {R : Nat}
set_option maxRecDepth 100000 in
theorem open_ends {r : Reach} {b0 : Nat} {v : Value} {d : DataW H} {p : List MemPlace} (hW : ∀ q ∈ d.weights Tryz.prog 49, q ≤ R) (hv : Value.okWide Tryz.prog w r b0 49 v) (h : DataW.Trod enc Tryz.prog w base spare held 49 v d p) : ∃ q : ED, v = .agg q.cells.toArray ∧ RdU w q.A q.a q.x ∧ RdU w q.B q.b q.y ∧ TOk q.t ∧ (0 ≤ q.n ∧ q.n < 256) := by
  obtain ⟨l, n, rfl, hl, hf⟩ := open_structW Tryz.underlying49 (by kernel_rfl : Tryz.prog.cellsOf 49 = 27) hW hv h
  obtain ⟨n1, hf⟩ := hf.fields Tryz.underlying49
  have e := List.take_append_drop 24 l
  have h2 : (l.drop 24).length = 3 := by rw [List.length_drop]; omega
  have h3 : (l.take 24).length = 24 := by rw [List.length_take]; omega
  match hd : l.drop 24, h2 with
  | [c0, c1, c2], _ =>
  rw [hd] at e
  generalize l.take 24 = l1 at e h3
  subst e
  have g0 := hf.at_ (l' := l1) 0 26 0 24 _ rfl rfl rfl (by kernel_rfl) (by rw [List.drop_zero, List.take_append_of_le_length (by omega), ← h3, List.take_length])
  obtain ⟨t, rfl, ht⟩ := termios_cells h3 g0
  have g1 := hf.at_ 1 27 24 1 _ rfl rfl rfl (by kernel_rfl) rfl
  have g2 := hf.at_ 2 27 25 1 _ rfl rfl rfl (by kernel_rfl) rfl
  have g3 := hf.at_ 3 5 26 1 _ rfl rfl rfl (by kernel_rfl) rfl
  obtain ⟨A, b, cap, rfl, k1, _, _⟩ := g1.bytes
  obtain ⟨B, y, cap2, rfl, k2, _, _⟩ := g2.bytes
  obtain ⟨m, rfl, u3⟩ := TrodW.int Tryz.underlying5 g3
  exact ⟨⟨t, A, cap, b, B, cap2, y, m⟩, rfl, k1, k2, ht, wf_u8' u3⟩
end
set_option maxRecDepth 100000 in
theorem ptyEnds_law : LawWalkS Tryz.prog 4 Tryz.f4 := by
  intro H enc W base args ds ps hval hA hsz
  rw [Tryz.params4] at hA hval hsz
  obtain ⟨w0, d0, rfl, rfl, h0⟩ := trodAll_one hA
  have hw := fun (j : Nat) {t : TypeId} {d : DataW H} (a : _) (b : _) (k : Nat) (hk : _) => (by
    have := List.all_eq_true.1 hsz k (DataW.weights_mem_each (j := j) (t := t) (d := d) a b k hk)
    simpa using this : k ≤ reachBytes)
  obtain ⟨v0, rfl, h0'⟩ := open_ends (R := reachBytes) (hw 0 rfl rfl) (hval 0 49 w0 rfl rfl) h0
  exact (ends_walk v0 W h0'.1 h0'.2.1 h0'.2.2.1 h0'.2.2.2).mono fun e w' h => ⟨h.1, h.2.below (Nat.le_refl _) (by simp)⟩

set_option maxRecDepth 100000 in
theorem ptyEnds_holds : Rows.PtyEndsSaid :=
  OpenClaim.holds_of_wide 4 Tryz.f4 rfl rfl rfl rfl rfl rfl rfl ⟨rfl, rfl, rfl, rfl, rfl⟩ rfl rfl rfl rfl rfl (by kernel_rfl) Tryz.func4 (by kernel_rfl)
    (of_decide_eq_true (by kernel_rfl)) (by unfold Func.isWrapper; rw [if_neg (by decide +kernel)]; exact ⟨rfl, rfl⟩)
    (fun os started H enc _ => law_liftedS own laidOut Tryz.underlying4 4 Tryz.f4 Rows.ptyEndsSpec Tryz.func4 (by kernel_rfl) (by kernel_rfl) (by kernel_rfl) rfl
      (fun H ds hl => by
        have hl : ds.length = 1 := hl
        match ds, hl with
        | [d1], _ => rfl)
      ptyEnds_law os started H enc
      (ChangeSpec.witness6 (enc := enc) (C := Tryz.checked) false ⟨#[], #[.agg (ED.cells ⟨⟨fun _ => 0, 0, 0, 0, 0, 0⟩, none, 0, [], none, 0, [], 0⟩).toArray], []⟩ 8 (by kernel_rfl) (by kernel_rfl) (by kernel_rfl) (by kernel_rfl)))
#print axioms ptyEnds_holds
end Go.Proofs.YtnfcdbjckdhieaaGreat

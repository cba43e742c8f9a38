/- Layer 17: arguments opened: terminals, steps; no condition. -/
import Derived.Test.YtnfcdbjckdhieaaGreatPtK
import Derived.Test.YtnfcdbjckdhieaaGreatLdOpn
namespace Go.Proofs.YtnfcdbjckdhieaaGreat
set_option linter.all false
open Go.ChangeShapes Go.WideShapes Go.ChangeAt Go.RowKit Go.Deep

section
variable {H : Type} {enc : TypeId × Value → H} {w : World} {base : Nat} {spare : Nat → Bool} {held : Bool} {R : Nat}
set_option maxRecDepth 100000 in
theorem size_cells {n : Nat} {l : List Value} (hl : l.length = 4) (h : TrodW enc Tryz.prog w base spare held R n 32 l) : ∃ q : SZ, l = q.cells := by
  obtain ⟨n1, hf⟩ := h.fields Tryz.underlying32
  match l, hl with
  | [c0, c1, c2, c3], _ =>
  have g0 := hf.at_ 0 24 0 1 _ rfl rfl rfl (by kernel_rfl) rfl
  have g1 := hf.at_ 1 24 1 1 _ rfl rfl rfl (by kernel_rfl) rfl
  have g2 := hf.at_ 2 24 2 1 _ rfl rfl rfl (by kernel_rfl) rfl
  have g3 := hf.at_ 3 24 3 1 _ rfl rfl rfl (by kernel_rfl) rfl
  obtain ⟨a, rfl, _⟩ := TrodW.int Tryz.underlying24 g0
  obtain ⟨b, rfl, _⟩ := TrodW.int Tryz.underlying24 g1
  obtain ⟨c, rfl, _⟩ := TrodW.int Tryz.underlying24 g2
  obtain ⟨e, rfl, _⟩ := TrodW.int Tryz.underlying24 g3
  exact ⟨⟨a, b, c, e⟩, rfl⟩
set_option maxRecDepth 100000 in
theorem open_lpty {r : Reach} {b0 : Nat} {v : Value} {d : DataW H} {p : List MemPlace} (hW : ∀ q ∈ d.weights Tryz.prog 34, q ≤ R) (hv : Value.okWide Tryz.prog w r b0 34 v) (h : DataW.Trod enc Tryz.prog w base spare held 34 v d p) : ∃ (x : PM) (d : DM) (s : DS), v = .agg (lptyV x d s).toArray ∧ DArg w R d s := by
  obtain ⟨l, n, rfl, hl, hf⟩ := open_structW Tryz.underlying34 (by kernel_rfl : Tryz.prog.cellsOf 34 = 42) hW hv h
  obtain ⟨n1, hf⟩ := hf.fields Tryz.underlying34
  have e := List.take_append_drop 34 l
  have h2 : (l.drop 34).length = 8 := by rw [List.length_drop]; omega
  have h3 : (l.take 34).length = 34 := by rw [List.length_take]; omega
  match hd : l.drop 34, h2 with
  | [c0, c1, c2, c3, c4, c5, c6, c7], _ =>
  rw [hd] at e
  generalize l.take 34 = l1 at e h3
  subst e
  have g0 := hf.at_ (l' := l1) 0 30 0 34 _ rfl rfl rfl (by kernel_rfl) (by rw [List.drop_zero, List.take_append_of_le_length (by omega), ← h3, List.take_length])
  obtain ⟨d, s, rfl, hD⟩ := disc16_cells h3 g0
  have g1 := hf.at_ 1 32 34 4 _ rfl rfl rfl (by kernel_rfl) rfl
  obtain ⟨q, hq⟩ := size_cells rfl g1
  have g2 := hf.at_ 2 3 38 1 _ rfl rfl rfl (by kernel_rfl) rfl
  have g3 := hf.at_ 3 3 39 1 _ rfl rfl rfl (by kernel_rfl) rfl
  have g4 := hf.at_ 4 3 40 1 _ rfl rfl rfl (by kernel_rfl) rfl
  have g5 := hf.at_ 5 4 41 1 _ rfl rfl rfl (by kernel_rfl) rfl
  obtain ⟨ses, rfl, _⟩ := TrodW.int Tryz.underlying3 g2
  obtain ⟨grp, rfl, _⟩ := TrodW.int Tryz.underlying3 g3
  obtain ⟨sl, rfl, _⟩ := TrodW.int Tryz.underlying3 g4
  obtain ⟨hg, rfl⟩ := TrodW.bool Tryz.underlying4 g5
  have hq : [c0, c1, c2, c3] = q.cells := hq
  simp only [SZ.cells, List.cons.injEq, and_true] at hq
  obtain ⟨rfl, rfl, rfl, rfl⟩ := hq
  exact ⟨⟨q.co, q.ro, q.wi, q.he, ses, grp, sl, hg⟩, d, s, rfl, hD⟩
set_option maxRecDepth 100000 in
theorem op17_cells {n : Nat} {l : List Value} (hl : l.length = 32) (h : TrodW enc Tryz.prog w base spare held R n 80 l) : ∃ x : OQ, l = cOQ x ∧ RdU w x.A x.c x.b ∧ OQOk x := by
  obtain ⟨n1, hf⟩ := h.fields Tryz.underlying80
  have e := List.take_append_drop 4 l
  have h2 : (l.take 4).length = 4 := by rw [List.length_take]; omega
  have h3 : (l.drop 4).length = 28 := by rw [List.length_drop]; omega
  match hd : l.take 4, h2 with
  | [c0, c1, c2, c3], _ =>
  rw [hd] at e
  generalize l.drop 4 = l1 at e h3
  have e1 := List.take_append_drop 24 l1
  have h4 : (l1.take 24).length = 24 := by rw [List.length_take]; omega
  have h5 : (l1.drop 24).length = 4 := by rw [List.length_drop]; omega
  generalize l1.take 24 = l2 at e1 h4
  match hd2 : l1.drop 24, h5 with
  | [s0, s1, s2, s3], _ =>
  rw [hd2] at e1
  subst e1
  subst e
  have g0 := hf.at_ 0 3 0 1 _ rfl rfl rfl (by kernel_rfl) rfl
  have g1 := hf.at_ 1 3 1 1 _ rfl rfl rfl (by kernel_rfl) rfl
  have g2 := hf.at_ 2 3 2 1 _ rfl rfl rfl (by kernel_rfl) rfl
  have g3 := hf.at_ 3 27 3 1 _ rfl rfl rfl (by kernel_rfl) rfl
  have g4 := hf.at_ (l' := l2) 4 26 4 24 _ rfl rfl rfl (by kernel_rfl) (by
    show List.take 24 (l2 ++ [s0, s1, s2, s3]) = l2
    rw [List.take_append_of_le_length (by omega), ← h4, List.take_length])
  have g5 := hf.at_ (l' := [s0, s1, s2, s3]) 5 32 28 4 _ rfl rfl rfl (by kernel_rfl) (by
    show List.take 4 (List.drop 24 (l2 ++ [s0, s1, s2, s3])) = _
    rw [← h4, List.drop_left]; rfl)
  obtain ⟨k, rfl, _⟩ := TrodW.int Tryz.underlying3 g0
  obtain ⟨m, rfl, u1⟩ := TrodW.int Tryz.underlying3 g1
  obtain ⟨q, rfl, u2⟩ := TrodW.int Tryz.underlying3 g2
  obtain ⟨A, b, cap, rfl, k1, _, _⟩ := g3.bytes
  obtain ⟨t, rfl, ht⟩ := termios_cells h4 g4
  obtain ⟨z, hz⟩ := size_cells rfl g5
  refine ⟨⟨k, m, q, A, cap, b, t, z⟩, ?_, k1, wf_i64 u1, wf_i64 u2, ht⟩
  rw [hz]
  rfl
set_option maxRecDepth 100000 in
theorem open_ops17 {r : Reach} {b0 : Nat} {v : Value} {d : DataW H} {p : List MemPlace} (hW : ∀ q ∈ d.weights Tryz.prog 76, q ≤ R) (hv : Value.okWide Tryz.prog w r b0 76 v) (h : DataW.Trod enc Tryz.prog w base spare held 76 v d p) : ∃ (A : Option Addr) (l : List OQ) (cap : Nat), v = .slice A l.length cap ∧ RdOQ w A cap l ∧ ∀ x ∈ l, OQOk x := by
  obtain ⟨a0, len, c0, rfl⟩ := okWide_slice Tryz.underlying76 hv
  obtain ⟨fuel, hf⟩ := h
  obtain ⟨A, l, cap, e, h1, h2, h3, h4, _⟩ := TrodW.slice (R := R) (cf := cOQ) (ok := fun x => RdU w x.A x.c x.b ∧ OQOk x) (size := 32) Tryz.underlying76 (by kernel_rfl) (by decide) cOQ_len (fun n l hl h => op17_cells hl h) ⟨_, hf, hW⟩
  exact ⟨A, l, cap, e, ⟨h3, h1, h2, fun x hx => (h4 x hx).1⟩, fun x hx => (h4 x hx).2⟩
end
theorem DArg.len {w : World} {R : Nat} {d : DM} {s : DS} (h : DArg w R d s) (hR : R ≤ 140737488355328) : LenOk d := ⟨Nat.le_trans h.line hR, Nat.le_trans h.raw hR, Nat.le_trans h.out hR, fun p hp => Nat.le_trans (h.txt p hp) hR⟩
end Go.Proofs.YtnfcdbjckdhieaaGreat

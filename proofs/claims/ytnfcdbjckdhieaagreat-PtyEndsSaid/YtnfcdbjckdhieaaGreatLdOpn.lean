/- Layer 16: arguments opened: settings, disciplines, bytes; no condition. -/
import Derived.Test.YtnfcdbjckdhieaaGreatPkA
import Derived.Test.YtnfcdbjckdhieaaGreatLdAI
namespace Go.Proofs.YtnfcdbjckdhieaaGreat
set_option linter.all false
set_option maxRecDepth 100000
open Go.ChangeShapes Go.WideShapes Go.ChangeAt Go.RowKit Go.Deep

theorem arN24 {l : List Value} (h : l.length = 24) : ∃ c0 c1 c2 c3 c4 c5 c6 c7 c8 c9 c10 c11 c12 c13 c14 c15 c16 c17 c18 c19 c20 c21 c22 c23, l = [c0, c1, c2, c3, c4, c5, c6, c7, c8, c9, c10, c11, c12, c13, c14, c15, c16, c17, c18, c19, c20, c21, c22, c23] := by
  match l, h with
  | [c0, c1, c2, c3, c4, c5, c6, c7, c8, c9, c10, c11, c12, c13, c14, c15, c16, c17, c18, c19, c20, c21, c22, c23], _ => exact ⟨c0, c1, c2, c3, c4, c5, c6, c7, c8, c9, c10, c11, c12, c13, c14, c15, c16, c17, c18, c19, c20, c21, c22, c23, rfl⟩
theorem arN34 {l : List Value} (h : l.length = 34) : ∃ l1 c24 c25 c26 c27 c28 c29 c30 c31 c32 c33, l1.length = 24 ∧ l = l1 ++ [c24, c25, c26, c27, c28, c29, c30, c31, c32, c33] := by
  have e := List.take_append_drop 24 l
  have h2 : (l.drop 24).length = 10 := by rw [List.length_drop]; omega
  match hl : l.drop 24, h2 with
  | [c24, c25, c26, c27, c28, c29, c30, c31, c32, c33], _ => exact ⟨l.take 24, c24, c25, c26, c27, c28, c29, c30, c31, c32, c33, by rw [List.length_take]; omega, by rw [← hl, e]⟩
/-- The numbers of a setting are such as the program has. -/
structure TOk (t : TM) : Prop where
  ch : ∀ i, i < 19 → 0 ≤ t.ch i ∧ t.ch i < 256
  fl : 0 ≤ t.fl ∧ t.fl < 18446744073709551616
  mn : -9223372036854775808 ≤ t.mn ∧ t.mn ≤ 9223372036854775807
  tm : -9223372036854775808 ≤ t.tm ∧ t.tm ≤ 9223372036854775807
theorem wf_u64 {n : Int} (h : (Lit.int .u64 n).wf = true) : 0 ≤ n ∧ n < 18446744073709551616 := by
  simp [Lit.wf, IntKind.min, IntKind.max, IntKind.bits, IntKind.signed] at h; omega
theorem wf_u8' {n : Int} (h : (Lit.int .u8 n).wf = true) : 0 ≤ n ∧ n < 256 := by
  have := wf_u8 h
  omega
section
variable {H : Type} {enc : TypeId × Value → H} {w : World} {base : Nat} {spare : Nat → Bool} {held : Bool} {R : Nat}
theorem termios_cells {n : Nat} {l : List Value} (hl : l.length = 24) (h : TrodW enc Tryz.prog w base spare held R n 26 l) : ∃ t : TM, l = t.cells ∧ TOk t := by
  obtain ⟨n1, hf⟩ := h.fields Tryz.underlying26
  obtain ⟨c0, c1, c2, c3, c4, c5, c6, c7, c8, c9, c10, c11, c12, c13, c14, c15, c16, c17, c18, c19, c20, c21, c22, c23, rfl⟩ := arN24 hl
  have g0 := hf.at_ 0 22 0 19 _ rfl rfl rfl (by kernel_rfl) rfl
  have g1 := hf.at_ 1 23 19 1 _ rfl rfl rfl (by kernel_rfl) rfl
  have g2 := hf.at_ 2 24 20 1 _ rfl rfl rfl (by kernel_rfl) rfl
  have g3 := hf.at_ 3 24 21 1 _ rfl rfl rfl (by kernel_rfl) rfl
  have g4 := hf.at_ 4 3 22 1 _ rfl rfl rfl (by kernel_rfl) rfl
  have g5 := hf.at_ 5 3 23 1 _ rfl rfl rfl (by kernel_rfl) rfl
  obtain ⟨n2, ha⟩ := g0.arr Tryz.underlying22
  rw [(by kernel_rfl : Tryz.prog.cellsOf 5 = 1)] at ha
  obtain ⟨x0, rfl, u0⟩ := TrodW.int (c := c0) Tryz.underlying5 (ha 0 (by decide))
  obtain ⟨x1, rfl, u1⟩ := TrodW.int (c := c1) Tryz.underlying5 (ha 1 (by decide))
  obtain ⟨x2, rfl, u2⟩ := TrodW.int (c := c2) Tryz.underlying5 (ha 2 (by decide))
  obtain ⟨x3, rfl, u3⟩ := TrodW.int (c := c3) Tryz.underlying5 (ha 3 (by decide))
  obtain ⟨x4, rfl, u4⟩ := TrodW.int (c := c4) Tryz.underlying5 (ha 4 (by decide))
  obtain ⟨x5, rfl, u5⟩ := TrodW.int (c := c5) Tryz.underlying5 (ha 5 (by decide))
  obtain ⟨x6, rfl, u6⟩ := TrodW.int (c := c6) Tryz.underlying5 (ha 6 (by decide))
  obtain ⟨x7, rfl, u7⟩ := TrodW.int (c := c7) Tryz.underlying5 (ha 7 (by decide))
  obtain ⟨x8, rfl, u8⟩ := TrodW.int (c := c8) Tryz.underlying5 (ha 8 (by decide))
  obtain ⟨x9, rfl, u9⟩ := TrodW.int (c := c9) Tryz.underlying5 (ha 9 (by decide))
  obtain ⟨x10, rfl, u10⟩ := TrodW.int (c := c10) Tryz.underlying5 (ha 10 (by decide))
  obtain ⟨x11, rfl, u11⟩ := TrodW.int (c := c11) Tryz.underlying5 (ha 11 (by decide))
  obtain ⟨x12, rfl, u12⟩ := TrodW.int (c := c12) Tryz.underlying5 (ha 12 (by decide))
  obtain ⟨x13, rfl, u13⟩ := TrodW.int (c := c13) Tryz.underlying5 (ha 13 (by decide))
  obtain ⟨x14, rfl, u14⟩ := TrodW.int (c := c14) Tryz.underlying5 (ha 14 (by decide))
  obtain ⟨x15, rfl, u15⟩ := TrodW.int (c := c15) Tryz.underlying5 (ha 15 (by decide))
  obtain ⟨x16, rfl, u16⟩ := TrodW.int (c := c16) Tryz.underlying5 (ha 16 (by decide))
  obtain ⟨x17, rfl, u17⟩ := TrodW.int (c := c17) Tryz.underlying5 (ha 17 (by decide))
  obtain ⟨x18, rfl, u18⟩ := TrodW.int (c := c18) Tryz.underlying5 (ha 18 (by decide))
  obtain ⟨fl, rfl, v1⟩ := TrodW.int Tryz.underlying23 g1
  obtain ⟨inn, rfl, v2⟩ := TrodW.int Tryz.underlying24 g2
  obtain ⟨out, rfl, v3⟩ := TrodW.int Tryz.underlying24 g3
  obtain ⟨mn, rfl, v4⟩ := TrodW.int Tryz.underlying3 g4
  obtain ⟨tm, rfl, v5⟩ := TrodW.int Tryz.underlying3 g5
  refine ⟨⟨fun k => [x0, x1, x2, x3, x4, x5, x6, x7, x8, x9, x10, x11, x12, x13, x14, x15, x16, x17, x18].getD k 0, fl, inn, out, mn, tm⟩, rfl, ⟨fun i hi => ?_, wf_u64 v1, wf_i64 v4, wf_i64 v5⟩⟩
  match i, hi with
  | 0, _ => exact wf_u8' u0
  | 1, _ => exact wf_u8' u1
  | 2, _ => exact wf_u8' u2
  | 3, _ => exact wf_u8' u3
  | 4, _ => exact wf_u8' u4
  | 5, _ => exact wf_u8' u5
  | 6, _ => exact wf_u8' u6
  | 7, _ => exact wf_u8' u7
  | 8, _ => exact wf_u8' u8
  | 9, _ => exact wf_u8' u9
  | 10, _ => exact wf_u8' u10
  | 11, _ => exact wf_u8' u11
  | 12, _ => exact wf_u8' u12
  | 13, _ => exact wf_u8' u13
  | 14, _ => exact wf_u8' u14
  | 15, _ => exact wf_u8' u15
  | 16, _ => exact wf_u8' u16
  | 17, _ => exact wf_u8' u17
  | 18, _ => exact wf_u8' u18
  | k + 19, hi => exact absurd hi (by omega)
theorem TrodW.bytes {n : Nat} {v : Value} (h : TrodW enc Tryz.prog w base spare held R n 27 [v]) : ∃ (A : Option Addr) (l : List Int) (cap : Nat), v = .slice A l.length cap ∧ RdU w A cap l ∧ (∀ x ∈ l, 0 ≤ x ∧ x < 256) ∧ l.length ≤ R := by
  obtain ⟨A, l, cap, e, h1, h2, h3, h4, h5⟩ := h.slice (cf := cu8) (ok := fun x => 0 ≤ x ∧ x < 256) (size := 1) Tryz.underlying27 (by kernel_rfl) (by decide) cu8_len (fun n l hl h => by
    match l, hl with
    | [c], _ =>
      obtain ⟨a, rfl, u⟩ := TrodW.int Tryz.underlying5 h
      exact ⟨a, rfl, wf_u8' u⟩)
  rw [by_u8, Nat.mul_one] at h5
  exact ⟨A, l, cap, e, ⟨h3, h1, h2⟩, h4, h5⟩
theorem line16_cells {n : Nat} {l : List Value} (hl : l.length = 2) (h : TrodW enc Tryz.prog w base spare held R n 103 l) : ∃ x : Ln, l = cLn x ∧ LnOk w x ∧ x.txt.length ≤ R := by
  obtain ⟨n1, hf⟩ := h.fields Tryz.underlying103
  match l, hl with
  | [c0, c1], _ =>
  have g0 := hf.at_ 0 27 0 1 _ rfl rfl rfl (by kernel_rfl) rfl
  have g1 := hf.at_ 1 4 1 1 _ rfl rfl rfl (by kernel_rfl) rfl
  obtain ⟨A, t, cap, rfl, h1, _, h3⟩ := g0.bytes
  obtain ⟨b, rfl⟩ := TrodW.bool Tryz.underlying4 g1
  exact ⟨⟨A, cap, t, b⟩, rfl, h1, h3⟩
/-- A discipline handed in. -/
structure DArg (w : World) (R : Nat) (d : DM) (s : DS) : Prop where
  data : Data s d w
  t : TOk d.t
  line : d.line.length ≤ R
  raw : d.raw.length ≤ R
  out : d.out.length ≤ R
  txt : ∀ p ∈ d.lines, p.1.length ≤ R
  col : -9223372036854775808 ≤ d.col ∧ d.col ≤ 9223372036854775807
  frm : -9223372036854775808 ≤ d.frm ∧ d.frm ≤ 9223372036854775807
  idle : -9223372036854775808 ≤ d.idle ∧ d.idle ≤ 9223372036854775807
theorem disc16_cells {n : Nat} {l : List Value} (hl : l.length = 34) (h : TrodW enc Tryz.prog w base spare held R n 30 l) : ∃ (d : DM) (s : DS), l = discV d s ∧ DArg w R d s := by
  obtain ⟨n1, hf⟩ := h.fields Tryz.underlying30
  obtain ⟨l1, c24, c25, c26, c27, c28, c29, c30, c31, c32, c33, hl1, rfl⟩ := arN34 hl
  have h0 := hf.at_ (l' := l1) 0 26 0 24 _ rfl rfl rfl (by kernel_rfl) (by rw [List.drop_zero, List.take_append_of_le_length (by omega), ← hl1, List.take_length])
  obtain ⟨t, rfl, ht⟩ := termios_cells hl1 h0
  have g1 := hf.at_ 1 27 24 1 _ rfl rfl rfl (by kernel_rfl) rfl
  have g2 := hf.at_ 2 4 25 1 _ rfl rfl rfl (by kernel_rfl) rfl
  have g3 := hf.at_ 3 28 26 1 _ rfl rfl rfl (by kernel_rfl) rfl
  have g4 := hf.at_ 4 27 27 1 _ rfl rfl rfl (by kernel_rfl) rfl
  have g5 := hf.at_ 5 4 28 1 _ rfl rfl rfl (by kernel_rfl) rfl
  have g6 := hf.at_ 6 4 29 1 _ rfl rfl rfl (by kernel_rfl) rfl
  have g7 := hf.at_ 7 27 30 1 _ rfl rfl rfl (by kernel_rfl) rfl
  have g8 := hf.at_ 8 3 31 1 _ rfl rfl rfl (by kernel_rfl) rfl
  have g9 := hf.at_ 9 3 32 1 _ rfl rfl rfl (by kernel_rfl) rfl
  have g10 := hf.at_ 10 3 33 1 _ rfl rfl rfl (by kernel_rfl) rfl
  obtain ⟨la, line, lc, rfl, k1, _, m1⟩ := g1.bytes
  obtain ⟨next, rfl⟩ := TrodW.bool Tryz.underlying4 g2
  obtain ⟨sa, xs, sc, rfl, a1, a2, a3, a4, _⟩ := g3.slice (cf := cLn) (ok := fun x => LnOk w x ∧ x.txt.length ≤ R) (size := 2) Tryz.underlying28 (by kernel_rfl) (by decide) cLn_len (fun n l hl h => line16_cells hl h)
  obtain ⟨ra, raw, rc, rfl, k4, _, m4⟩ := g4.bytes
  obtain ⟨st, rfl⟩ := TrodW.bool Tryz.underlying4 g5
  obtain ⟨hd, rfl⟩ := TrodW.bool Tryz.underlying4 g6
  obtain ⟨oa, out, oc, rfl, k7, _, m7⟩ := g7.bytes
  obtain ⟨col, rfl, u8⟩ := TrodW.int Tryz.underlying3 g8
  obtain ⟨frm, rfl, u9⟩ := TrodW.int Tryz.underlying3 g9
  obtain ⟨idle, rfl, u10⟩ := TrodW.int Tryz.underlying3 g10
  refine ⟨⟨t, line, next, xs.map Ln.m, raw, st, hd, out, col, frm, idle⟩, ⟨la, lc, sa, sc, xs, ra, rc, oa, oc⟩, by rw [discV]; simp only [List.length_map], ⟨⟨k1, ⟨a3, a1, a2, fun x hx => (a4 x hx).1⟩, rfl, k4, k7⟩, ht, m1, m4, m7, fun p hp => ?_, wf_i64 u8, wf_i64 u9, wf_i64 u10⟩⟩
  obtain ⟨x, hx, rfl⟩ := List.mem_map.1 hp
  exact (a4 x hx).2
theorem open_disc16 {r : Reach} {b0 : Nat} {v : Value} {d : DataW H} {p : List MemPlace} (hW : ∀ q ∈ d.weights Tryz.prog 30, q ≤ R) (hv : Value.okWide Tryz.prog w r b0 30 v) (h : DataW.Trod enc Tryz.prog w base spare held 30 v d p) : ∃ (d : DM) (s : DS), v = .agg (discV d s).toArray ∧ DArg w R d s := by
  obtain ⟨l, n, rfl, hl, hf⟩ := open_structW Tryz.underlying30 (by kernel_rfl : Tryz.prog.cellsOf 30 = 34) hW hv h
  obtain ⟨d, s, rfl, hd⟩ := disc16_cells hl hf
  exact ⟨d, s, rfl, hd⟩
theorem open_termios {r : Reach} {b0 : Nat} {v : Value} {d : DataW H} {p : List MemPlace} (hW : ∀ q ∈ d.weights Tryz.prog 26, q ≤ R) (hv : Value.okWide Tryz.prog w r b0 26 v) (h : DataW.Trod enc Tryz.prog w base spare held 26 v d p) : ∃ t : TM, v = t.val ∧ TOk t := by
  obtain ⟨l, n, rfl, hl, hf⟩ := open_structW Tryz.underlying26 (by kernel_rfl : Tryz.prog.cellsOf 26 = 24) hW hv h
  obtain ⟨t, rfl, ht⟩ := termios_cells hl hf
  exact ⟨t, rfl, ht⟩
theorem open_bytesW {r : Reach} {b0 : Nat} {v : Value} {d : DataW H} {p : List MemPlace} (hW : ∀ q ∈ d.weights Tryz.prog 27, q ≤ R) (hv : Value.okWide Tryz.prog w r b0 27 v) (h : DataW.Trod enc Tryz.prog w base spare held 27 v d p) : ∃ (A : Option Addr) (l : List Int) (cap : Nat), v = .slice A l.length cap ∧ RdU w A cap l ∧ (∀ x ∈ l, 0 ≤ x ∧ x < 256) ∧ l.length ≤ R := by
  obtain ⟨a0, len, c0, rfl⟩ := okWide_slice Tryz.underlying27 hv
  obtain ⟨fuel, hf⟩ := h
  exact TrodW.bytes ⟨_, hf, hW⟩
end
end Go.Proofs.YtnfcdbjckdhieaaGreat

/- Layer 25: arguments opened: messages, requests, steps; no condition. -/
import Derived.Test.YtpojfcpeibnohaaGreatDoorChM
import Derived.Test.YtpojfcpeibnohaaGreatDoorOpn
namespace Go.Proofs.YtpojfcpeibnohaaGreatDoor
set_option linter.all false
set_option maxRecDepth 100000
open Go.ChangeShapes Go.WideShapes Go.ChangeAt Go.RowKit Go.Deep

theorem arrN10 {l : List Value} (h : l.length = 10) : ∃ c0 c1 c2 c3 c4 c5 c6 c7 c8 c9, l = [c0, c1, c2, c3, c4, c5, c6, c7, c8, c9] := by
  match l, h with
  | [c0, c1, c2, c3, c4, c5, c6, c7, c8, c9], _ => exact ⟨c0, c1, c2, c3, c4, c5, c6, c7, c8, c9, rfl⟩
theorem arrN11 {l : List Value} (h : l.length = 11) : ∃ c0 c1 c2 c3 c4 c5 c6 c7 c8 c9 c10, l = [c0, c1, c2, c3, c4, c5, c6, c7, c8, c9, c10] := by
  match l, h with
  | [c0, c1, c2, c3, c4, c5, c6, c7, c8, c9, c10], _ => exact ⟨c0, c1, c2, c3, c4, c5, c6, c7, c8, c9, c10, rfl⟩
theorem arrN25 {l : List Value} (h : l.length = 25) : ∃ c0 c1 c2 c3 c4 c5 c6 c7 c8 c9 c10 c11 c12 c13 c14 c15 c16 c17 c18 c19 c20 c21 c22 c23 c24, l = [c0, c1, c2, c3, c4, c5, c6, c7, c8, c9, c10, c11, c12, c13, c14, c15, c16, c17, c18, c19, c20, c21, c22, c23, c24] := by
  match l, h with
  | [c0, c1, c2, c3, c4, c5, c6, c7, c8, c9, c10, c11, c12, c13, c14, c15, c16, c17, c18, c19, c20, c21, c22, c23, c24], _ => exact ⟨c0, c1, c2, c3, c4, c5, c6, c7, c8, c9, c10, c11, c12, c13, c14, c15, c16, c17, c18, c19, c20, c21, c22, c23, c24, rfl⟩
section
variable {H : Type} {enc : TypeId × Value → H} {w : World} {base : Nat} {spare : Nat → Bool} {held : Bool}
theorem md_cells {n : Nat} {l : List Value} {y : DataW H × List MemPlace} (hl : l.length = 10) (h : DataW.trod enc Tryz.prog w base spare held n 35 l = some y) : ∃ x : MD, l = x.cells ∧ x.ok w := by
  obtain ⟨n1, hf⟩ := trod_fields Tryz.underlying35 h
  obtain ⟨c0, c1, c2, c3, c4, c5, c6, c7, c8, c9, rfl⟩ := arrN10 hl
  obtain ⟨_, g0⟩ := hf.at_ 0 3 0 1 _ rfl rfl rfl (by kernel_rfl) rfl
  obtain ⟨_, g1⟩ := hf.at_ 1 22 1 1 _ rfl rfl rfl (by kernel_rfl) rfl
  obtain ⟨_, g2⟩ := hf.at_ 2 22 2 1 _ rfl rfl rfl (by kernel_rfl) rfl
  obtain ⟨_, g3⟩ := hf.at_ 3 22 3 1 _ rfl rfl rfl (by kernel_rfl) rfl
  obtain ⟨_, g4⟩ := hf.at_ 4 22 4 1 _ rfl rfl rfl (by kernel_rfl) rfl
  obtain ⟨_, g5⟩ := hf.at_ 5 22 5 1 _ rfl rfl rfl (by kernel_rfl) rfl
  obtain ⟨_, g6⟩ := hf.at_ 6 9 6 1 _ rfl rfl rfl (by kernel_rfl) rfl
  obtain ⟨_, g7⟩ := hf.at_ 7 9 7 1 _ rfl rfl rfl (by kernel_rfl) rfl
  obtain ⟨_, g8⟩ := hf.at_ 8 4 8 1 _ rfl rfl rfl (by kernel_rfl) rfl
  obtain ⟨_, g9⟩ := hf.at_ 9 33 9 1 _ rfl rfl rfl (by kernel_rfl) rfl
  obtain ⟨kind, rfl, _⟩ := agg_int Tryz.underlying3 g0
  obtain ⟨chan, rfl, u1⟩ := agg_int Tryz.underlying22 g1
  obtain ⟨sender, rfl, u2⟩ := agg_int Tryz.underlying22 g2
  obtain ⟨window, rfl, u3⟩ := agg_int Tryz.underlying22 g3
  obtain ⟨packet, rfl, u4⟩ := agg_int Tryz.underlying22 g4
  obtain ⟨code, rfl, u5⟩ := agg_int Tryz.underlying22 g5
  obtain ⟨name, rfl, s6⟩ := agg_strP Tryz.underlying9 g6
  obtain ⟨lang, rfl, s7⟩ := agg_strP Tryz.underlying9 g7
  obtain ⟨want, rfl⟩ := agg_boolP Tryz.underlying4 g8
  obtain ⟨A, cap, zs, rfl, z1, z2, z3, z4⟩ := agg_bytes Tryz.underlying33 Tryz.underlying5 (by kernel_rfl) g9
  exact ⟨⟨kind, chan, sender, window, packet, code, name, lang, want, A, cap, zs⟩, rfl, ⟨z3, z1, z2, z4, ⟨wf_u32 u1, wf_u32 u2, wf_u32 u3, wf_u32 u4, wf_u32 u5⟩, s6, s7⟩⟩
theorem rq_cells {n : Nat} {l : List Value} {y : DataW H × List MemPlace} (hl : l.length = 11) (h : DataW.trod enc Tryz.prog w base spare held n 39 l = some y) : ∃ x : RQ, l = x.cells ∧ x.ok w := by
  obtain ⟨n1, hf⟩ := trod_fields Tryz.underlying39 h
  obtain ⟨c0, c1, c2, c3, c4, c5, c6, c7, c8, c9, c10, rfl⟩ := arrN11 hl
  obtain ⟨_, g0⟩ := hf.at_ 0 3 0 1 _ rfl rfl rfl (by kernel_rfl) rfl
  obtain ⟨_, g1⟩ := hf.at_ 1 9 1 1 _ rfl rfl rfl (by kernel_rfl) rfl
  obtain ⟨_, g2⟩ := hf.at_ 2 9 2 1 _ rfl rfl rfl (by kernel_rfl) rfl
  obtain ⟨_, g3⟩ := hf.at_ 3 9 3 1 _ rfl rfl rfl (by kernel_rfl) rfl
  obtain ⟨_, gs⟩ := hf.at_ 4 37 4 4 _ rfl rfl rfl (by kernel_rfl) rfl
  obtain ⟨n2, hs⟩ := trod_fields Tryz.underlying37 gs
  obtain ⟨_, g4⟩ := hs.at_ 0 22 0 1 _ rfl rfl rfl (by kernel_rfl) rfl
  obtain ⟨_, g5⟩ := hs.at_ 1 22 1 1 _ rfl rfl rfl (by kernel_rfl) rfl
  obtain ⟨_, g6⟩ := hs.at_ 2 22 2 1 _ rfl rfl rfl (by kernel_rfl) rfl
  obtain ⟨_, g7⟩ := hs.at_ 3 22 3 1 _ rfl rfl rfl (by kernel_rfl) rfl
  obtain ⟨_, g8⟩ := hf.at_ 5 33 8 1 _ rfl rfl rfl (by kernel_rfl) rfl
  obtain ⟨_, g9⟩ := hf.at_ 6 4 9 1 _ rfl rfl rfl (by kernel_rfl) rfl
  obtain ⟨_, g10⟩ := hf.at_ 7 22 10 1 _ rfl rfl rfl (by kernel_rfl) rfl
  obtain ⟨kind, rfl, _⟩ := agg_int Tryz.underlying3 g0
  obtain ⟨text, rfl, s1⟩ := agg_strP Tryz.underlying9 g1
  obtain ⟨value, rfl, s2⟩ := agg_strP Tryz.underlying9 g2
  obtain ⟨lang, rfl, s3⟩ := agg_strP Tryz.underlying9 g3
  obtain ⟨cols, rfl, u4⟩ := agg_int Tryz.underlying22 g4
  obtain ⟨rows, rfl, u5⟩ := agg_int Tryz.underlying22 g5
  obtain ⟨width, rfl, u6⟩ := agg_int Tryz.underlying22 g6
  obtain ⟨height, rfl, u7⟩ := agg_int Tryz.underlying22 g7
  obtain ⟨A, cap, zs, rfl, z1, z2, z3, z4⟩ := agg_bytes Tryz.underlying33 Tryz.underlying5 (by kernel_rfl) g8
  obtain ⟨on, rfl⟩ := agg_boolP Tryz.underlying4 g9
  obtain ⟨code, rfl, u10⟩ := agg_int Tryz.underlying22 g10
  exact ⟨⟨kind, text, value, lang, cols, rows, width, height, A, cap, zs, on, code⟩, rfl, ⟨z3, z1, z2, z4, ⟨wf_u32 u4, wf_u32 u5, wf_u32 u6, wf_u32 u7, wf_u32 u10⟩, s1, s2, s3⟩⟩
theorem opd_cells {n : Nat} {l : List Value} {y : DataW H × List MemPlace} (hl : l.length = 25) (h : DataW.trod enc Tryz.prog w base spare held n 41 l = some y) : ∃ x : OPD, l = x.cells ∧ x.ok w := by
  obtain ⟨n1, hf⟩ := trod_fields Tryz.underlying41 h
  obtain ⟨c0, c1, c2, c3, c4, c5, c6, c7, c8, c9, c10, c11, c12, c13, c14, c15, c16, c17, c18, c19, c20, c21, c22, c23, c24, rfl⟩ := arrN25 hl
  obtain ⟨_, g0⟩ := hf.at_ 0 3 0 1 _ rfl rfl rfl (by kernel_rfl) rfl
  obtain ⟨_, g1⟩ := hf.at_ 1 3 1 1 _ rfl rfl rfl (by kernel_rfl) rfl
  obtain ⟨_, gm⟩ := hf.at_ 2 35 2 10 _ rfl rfl rfl (by kernel_rfl) rfl
  obtain ⟨_, gr⟩ := hf.at_ 3 39 12 11 _ rfl rfl rfl (by kernel_rfl) rfl
  obtain ⟨_, gb⟩ := hf.at_ 4 33 23 1 _ rfl rfl rfl (by kernel_rfl) rfl
  obtain ⟨_, go⟩ := hf.at_ 5 4 24 1 _ rfl rfl rfl (by kernel_rfl) rfl
  obtain ⟨kind, rfl, _⟩ := agg_int Tryz.underlying3 g0
  obtain ⟨nn, rfl, un⟩ := agg_int Tryz.underlying3 g1
  obtain ⟨m, em, hm⟩ := md_cells (by rfl) gm
  obtain ⟨r, er, hr⟩ := rq_cells (by rfl) gr
  obtain ⟨A, cap, zs, rfl, z1, z2, z3, z4⟩ := agg_bytes Tryz.underlying33 Tryz.underlying5 (by kernel_rfl) gb
  obtain ⟨on, rfl⟩ := agg_boolP Tryz.underlying4 go
  refine ⟨⟨kind, nn, m, r, A, cap, zs, on⟩, ?_, ⟨wf_i64 un, hm, hr, z3, z1, z2, z4⟩⟩
  show _ = .int .i64 kind :: .int .i64 nn :: (m.cells ++ (r.cells ++ [.slice A zs.length cap, .bool on]))
  rw [← em, ← er]
  rfl
/-- Steps that are handed in. -/
theorem open_ops {v : Value} {d : DataW H} {p : List MemPlace} {r : Reach} {b0 : Nat} (hv : Value.okWide Tryz.prog w r b0 23 v) (h : DataW.Trod enc Tryz.prog w base spare held 23 v d p) : ∃ (A : Option Addr) (ops : List OPD) (cap : Nat), v = .slice A ops.length cap ∧ ops.length ≤ cap ∧ cap ≤ maxLen ∧ RdX OPD.cells w A ops ∧ ∀ o ∈ ops, o.ok w :=
  open_rdX Tryz.underlying23 (by kernel_rfl : Tryz.prog.cellsOf 41 = 25) (by decide) (fun _ => rfl) (fun n l y hl hy => opd_cells hl hy) hv h
end
end Go.Proofs.YtpojfcpeibnohaaGreatDoor

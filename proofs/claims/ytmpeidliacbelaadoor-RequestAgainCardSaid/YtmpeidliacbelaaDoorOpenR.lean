/- Arguments opened: a request; no condition. -/
import Derived.Test.YtmpeidliacbelaaDoorOpenN
import Derived.Test.YtmpeidliacbelaaDoorReqP
namespace Go.Proofs.YtmpeidliacbelaaDoor
set_option linter.all false
open Go.ChangeShapes Go.WideShapes Go.ChangeAt Go.RowKit Go.Deep

theorem arr11 {l : List Value} (h : l.length = 11) : ∃ c0 c1 c2 c3 c4 c5 c6 c7 c8 c9 c10, l = [c0, c1, c2, c3, c4, c5, c6, c7, c8, c9, c10] := by
  match l, h with
  | [c0, c1, c2, c3, c4, c5, c6, c7, c8, c9, c10], _ => exact ⟨c0, c1, c2, c3, c4, c5, c6, c7, c8, c9, c10, rfl⟩
set_option maxRecDepth 100000 in
/-- A request, opened. -/
theorem openR {H : Type} {enc : TypeId × Value → H} {w : World} {base : Nat} {spare : Nat → Bool} {held : Bool} {v : Value} {d : DataW H} {p : List MemPlace} {r : Reach} {b0 : Nat} (hv : Value.okWide Tryd.prog w r b0 28 v) (h : DataW.Trod enc Tryd.prog w base spare held 28 v d p) :
    ∃ m : RQ, v = m.val ∧ m.ok w := by
  obtain ⟨l, n, rfl, hl, hf⟩ := open_struct (k := 11) Tryd.underlying28 (by kernel_rfl) hv h
  obtain ⟨c0, c1, c2, c3, c4, c5, c6, c7, c8, c9, c10, rfl⟩ := arr11 hl
  obtain ⟨_, g0⟩ := hf.at_ 0 3 0 1 _ rfl rfl rfl (by kernel_rfl) rfl
  obtain ⟨_, g1⟩ := hf.at_ 1 9 1 1 _ rfl rfl rfl (by kernel_rfl) rfl
  obtain ⟨_, g2⟩ := hf.at_ 2 9 2 1 _ rfl rfl rfl (by kernel_rfl) rfl
  obtain ⟨_, g3⟩ := hf.at_ 3 9 3 1 _ rfl rfl rfl (by kernel_rfl) rfl
  obtain ⟨_, gs⟩ := hf.at_ 4 26 4 4 _ rfl rfl rfl (by kernel_rfl) rfl
  obtain ⟨n2, hs⟩ := trod_fields Tryd.underlying26 gs
  obtain ⟨_, g4⟩ := hs.at_ 0 24 0 1 _ rfl rfl rfl (by kernel_rfl) rfl
  obtain ⟨_, g5⟩ := hs.at_ 1 24 1 1 _ rfl rfl rfl (by kernel_rfl) rfl
  obtain ⟨_, g6⟩ := hs.at_ 2 24 2 1 _ rfl rfl rfl (by kernel_rfl) rfl
  obtain ⟨_, g7⟩ := hs.at_ 3 24 3 1 _ rfl rfl rfl (by kernel_rfl) rfl
  obtain ⟨_, g8⟩ := hf.at_ 5 22 8 1 _ rfl rfl rfl (by kernel_rfl) rfl
  obtain ⟨_, g9⟩ := hf.at_ 6 4 9 1 _ rfl rfl rfl (by kernel_rfl) rfl
  obtain ⟨_, g10⟩ := hf.at_ 7 24 10 1 _ rfl rfl rfl (by kernel_rfl) rfl
  obtain ⟨kind, rfl, _⟩ := agg_int Tryd.underlying3 g0
  obtain ⟨text, rfl, s1⟩ := agg_strP Tryd.underlying9 g1
  obtain ⟨value, rfl, s2⟩ := agg_strP Tryd.underlying9 g2
  obtain ⟨lang, rfl, s3⟩ := agg_strP Tryd.underlying9 g3
  obtain ⟨cols, rfl, u4⟩ := agg_int Tryd.underlying24 g4
  obtain ⟨rows, rfl, u5⟩ := agg_int Tryd.underlying24 g5
  obtain ⟨width, rfl, u6⟩ := agg_int Tryd.underlying24 g6
  obtain ⟨height, rfl, u7⟩ := agg_int Tryd.underlying24 g7
  obtain ⟨A, cap, zs, rfl, hlc, hcm, hR, hb⟩ := agg_bytes Tryd.underlying22 Tryd.underlying5 (by kernel_rfl) g8
  obtain ⟨on, rfl⟩ := agg_boolP Tryd.underlying4 g9
  obtain ⟨code, rfl, u10⟩ := agg_int Tryd.underlying24 g10
  exact ⟨⟨kind, text, value, lang, cols, rows, width, height, A, cap, zs, on, code⟩, rfl, ⟨hR, hlc, hcm, hb, ⟨wf_u32 u4, wf_u32 u5, wf_u32 u6, wf_u32 u7, wf_u32 u10⟩, s1, s2, s3⟩⟩
end Go.Proofs.YtmpeidliacbelaaDoor

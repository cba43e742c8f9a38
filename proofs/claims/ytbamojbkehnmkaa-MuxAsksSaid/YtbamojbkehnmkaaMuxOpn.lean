/- Layer 26: arguments opened: channels, messages; no condition. -/
import Derived.Test.YtbamojbkehnmkaaMuxO
import Derived.Test.YtbamojbkehnmkaaFrameE
namespace Go.Proofs.Ytbamojbkehnmkaa
set_option linter.all false
set_option maxRecDepth 100000
open Go.ChangeShapes Go.WideShapes Go.ChangeAt Go.RowKit Go.Deep

theorem arN10 {l : List Value} (h : l.length = 10) : ∃ c0 c1 c2 c3 c4 c5 c6 c7 c8 c9, l = [c0, c1, c2, c3, c4, c5, c6, c7, c8, c9] := by
  match l, h with
  | [c0, c1, c2, c3, c4, c5, c6, c7, c8, c9], _ => exact ⟨c0, c1, c2, c3, c4, c5, c6, c7, c8, c9, rfl⟩
theorem arN12 {l : List Value} (h : l.length = 12) : ∃ c0 c1 c2 c3 c4 c5 c6 c7 c8 c9 c10 c11, l = [c0, c1, c2, c3, c4, c5, c6, c7, c8, c9, c10, c11] := by
  match l, h with
  | [c0, c1, c2, c3, c4, c5, c6, c7, c8, c9, c10, c11], _ => exact ⟨c0, c1, c2, c3, c4, c5, c6, c7, c8, c9, c10, c11, rfl⟩
section
variable {H : Type} {enc : TypeId × Value → H} {w : World} {base : Nat} {spare : Nat → Bool} {held : Bool}
theorem u8c_rd {A : Option Addr} {zs : List Int} (h : RdG (.int .u8) w A zs) : RdX u8c w A zs := fun h0 => by
  obtain ⟨b, off, e, hlt, hc⟩ := h h0
  refine ⟨b, off, e, hlt, fun j u hj => ?_⟩
  have hm : zs.flatMap u8c = zs.map (.int .u8) := by
    clear hj hc e h h0
    induction zs with
    | nil => rfl
    | cons a r ih => rw [List.flatMap_cons, ih]; rfl
  rw [hm, List.getElem?_map] at hj
  cases hz : zs[j]? with
  | none => rw [hz] at hj; cases hj
  | some x =>
    rw [hz] at hj
    injection hj with hj
    subst hj
    exact hc j x hz
theorem msg_cells {n : Nat} {l : List Value} {y : DataW H × List MemPlace} (hl : l.length = 10) (h : DataW.trod enc Try.prog w base spare held n 28 l = some y) : ∃ x : MD, l = x.row ∧ MArg w x := by
  obtain ⟨n1, hf⟩ := trod_fields Try.underlying28 h
  obtain ⟨c0, c1, c2, c3, c4, c5, c6, c7, c8, c9, rfl⟩ := arN10 hl
  obtain ⟨_, g0⟩ := hf.at_ 0 3 0 1 _ rfl rfl rfl (by kernel_rfl) rfl
  obtain ⟨_, g1⟩ := hf.at_ 1 23 1 1 _ rfl rfl rfl (by kernel_rfl) rfl
  obtain ⟨_, g2⟩ := hf.at_ 2 23 2 1 _ rfl rfl rfl (by kernel_rfl) rfl
  obtain ⟨_, g3⟩ := hf.at_ 3 23 3 1 _ rfl rfl rfl (by kernel_rfl) rfl
  obtain ⟨_, g4⟩ := hf.at_ 4 23 4 1 _ rfl rfl rfl (by kernel_rfl) rfl
  obtain ⟨_, g5⟩ := hf.at_ 5 23 5 1 _ rfl rfl rfl (by kernel_rfl) rfl
  obtain ⟨_, g6⟩ := hf.at_ 6 9 6 1 _ rfl rfl rfl (by kernel_rfl) rfl
  obtain ⟨_, g7⟩ := hf.at_ 7 9 7 1 _ rfl rfl rfl (by kernel_rfl) rfl
  obtain ⟨_, g8⟩ := hf.at_ 8 4 8 1 _ rfl rfl rfl (by kernel_rfl) rfl
  obtain ⟨_, g9⟩ := hf.at_ 9 26 9 1 _ rfl rfl rfl (by kernel_rfl) rfl
  obtain ⟨kind, rfl, _⟩ := agg_int Try.underlying3 g0
  obtain ⟨chan, rfl, u1⟩ := agg_int Try.underlying23 g1
  obtain ⟨sender, rfl, u2⟩ := agg_int Try.underlying23 g2
  obtain ⟨window, rfl, u3⟩ := agg_int Try.underlying23 g3
  obtain ⟨packet, rfl, u4⟩ := agg_int Try.underlying23 g4
  obtain ⟨code, rfl, u5⟩ := agg_int Try.underlying23 g5
  obtain ⟨name, rfl, s6⟩ := agg_strP Try.underlying9 g6
  obtain ⟨lang, rfl, s7⟩ := agg_strP Try.underlying9 g7
  obtain ⟨want, rfl⟩ := agg_boolP Try.underlying4 g8
  obtain ⟨A, cap, zs, rfl, z1, z2, z3, z4⟩ := agg_bytes Try.underlying26 Try.underlying5 (by kernel_rfl) g9
  exact ⟨⟨kind, chan, sender, window, packet, code, name, lang, want, A, cap, zs⟩, rfl, ⟨u8c_rd z3, z1, z2, wf_u32 u3, wf_u32 u4, wf_u32 u2⟩⟩
theorem lch_cells {n : Nat} {l : List Value} {y : DataW H × List MemPlace} (hl : l.length = 12) (h : DataW.trod enc Try.prog w base spare held n 53 l = some y) : ∃ x : CH, l = x.cells ∧ x.ok := by
  obtain ⟨n1, hf⟩ := trod_fields Try.underlying53 h
  obtain ⟨c0, c1, c2, c3, c4, c5, c6, c7, c8, c9, c10, c11, rfl⟩ := arN12 hl
  obtain ⟨_, g0⟩ := hf.at_ 0 23 0 1 _ rfl rfl rfl (by kernel_rfl) rfl
  obtain ⟨_, g1⟩ := hf.at_ 1 23 1 1 _ rfl rfl rfl (by kernel_rfl) rfl
  obtain ⟨_, g2⟩ := hf.at_ 2 23 2 1 _ rfl rfl rfl (by kernel_rfl) rfl
  obtain ⟨_, g3⟩ := hf.at_ 3 23 3 1 _ rfl rfl rfl (by kernel_rfl) rfl
  obtain ⟨_, g4⟩ := hf.at_ 4 23 4 1 _ rfl rfl rfl (by kernel_rfl) rfl
  obtain ⟨_, g5⟩ := hf.at_ 5 23 5 1 _ rfl rfl rfl (by kernel_rfl) rfl
  obtain ⟨_, g6⟩ := hf.at_ 6 4 6 1 _ rfl rfl rfl (by kernel_rfl) rfl
  obtain ⟨_, g7⟩ := hf.at_ 7 4 7 1 _ rfl rfl rfl (by kernel_rfl) rfl
  obtain ⟨_, g8⟩ := hf.at_ 8 4 8 1 _ rfl rfl rfl (by kernel_rfl) rfl
  obtain ⟨_, g9⟩ := hf.at_ 9 4 9 1 _ rfl rfl rfl (by kernel_rfl) rfl
  obtain ⟨_, g10⟩ := hf.at_ 10 3 10 1 _ rfl rfl rfl (by kernel_rfl) rfl
  obtain ⟨_, g11⟩ := hf.at_ 11 4 11 1 _ rfl rfl rfl (by kernel_rfl) rfl
  obtain ⟨loc, rfl, u0⟩ := agg_int Try.underlying23 g0
  obtain ⟨rem, rfl, u1⟩ := agg_int Try.underlying23 g1
  obtain ⟨left, rfl, u2⟩ := agg_int Try.underlying23 g2
  obtain ⟨pack, rfl, u3⟩ := agg_int Try.underlying23 g3
  obtain ⟨inl, rfl, u4⟩ := agg_int Try.underlying23 g4
  obtain ⟨lim, rfl, u5⟩ := agg_int Try.underlying23 g5
  obtain ⟨sE, rfl⟩ := agg_boolP Try.underlying4 g6
  obtain ⟨sC, rfl⟩ := agg_boolP Try.underlying4 g7
  obtain ⟨gE, rfl⟩ := agg_boolP Try.underlying4 g8
  obtain ⟨gC, rfl⟩ := agg_boolP Try.underlying4 g9
  obtain ⟨owed, rfl, u10⟩ := agg_int Try.underlying3 g10
  obtain ⟨told, rfl⟩ := agg_boolP Try.underlying4 g11
  exact ⟨⟨loc, rem, left, pack, inl, lim, sE, sC, gE, gC, owed, told⟩, rfl, ⟨wf_u32 u0, wf_u32 u1, wf_u32 u2, wf_u32 u3, wf_u32 u4, wf_u32 u5, wf_i64 u10⟩⟩
theorem open_lmux {r : Reach} {b0 : Nat} {v : Value} {d : DataW H} {p : List MemPlace} (hv : Value.okWide Try.prog w r b0 25 v) (h : DataW.Trod enc Try.prog w base spare held 25 v d p) : ∃ (A : Option Addr) (cap : Nat) (l : List CH) (lim : Int) (dead : Bool), v = .agg #[.slice A l.length cap, .int .u32 lim, .bool dead] ∧ l.length ≤ cap ∧ cap ≤ maxLen ∧ RdX CH.cells w A l ∧ (∀ c ∈ l, c.ok) ∧ U32 lim := by
  obtain ⟨cs, rfl, hsz⟩ := okWide_struct Try.underlying25 hv
  obtain ⟨l⟩ := cs
  obtain ⟨fuel, hf⟩ := h
  have hcs : (Value.agg ⟨l⟩).cells.toList = l := by simp [Value.cells]
  rw [hcs] at hf
  have hl : l.length = 3 := by simpa using hsz.trans (by kernel_rfl : Try.prog.cellsOf 25 = 3)
  obtain ⟨n1, hf⟩ := trod_fields Try.underlying25 hf
  match l, hl with
  | [c0, c1, c2], _ =>
  obtain ⟨_, g0⟩ := hf.at_ 0 22 0 1 _ rfl rfl rfl (by kernel_rfl) rfl
  obtain ⟨_, g1⟩ := hf.at_ 1 23 1 1 _ rfl rfl rfl (by kernel_rfl) rfl
  obtain ⟨_, g2⟩ := hf.at_ 2 4 2 1 _ rfl rfl rfl (by kernel_rfl) rfl
  obtain ⟨A, xs, cap, rfl, h1, h2, h3, h4⟩ := agg_rdX (cf := CH.cells) Try.underlying22 (by kernel_rfl : Try.prog.cellsOf 53 = 12) (by decide) ch_len (fun n l y hl hy => lch_cells hl hy) g0
  obtain ⟨lim, rfl, u1⟩ := agg_int Try.underlying23 g1
  obtain ⟨dead, rfl⟩ := agg_boolP Try.underlying4 g2
  exact ⟨A, cap, xs, lim, dead, rfl, h1, h2, h3, h4, wf_u32 u1⟩
theorem open_msg {r : Reach} {b0 : Nat} {v : Value} {d : DataW H} {p : List MemPlace} (hv : Value.okWide Try.prog w r b0 28 v) (h : DataW.Trod enc Try.prog w base spare held 28 v d p) : ∃ m : MD, v = m.val ∧ MArg w m := by
  obtain ⟨cs, rfl, hsz⟩ := okWide_struct Try.underlying28 hv
  obtain ⟨l⟩ := cs
  obtain ⟨fuel, hf⟩ := h
  have hcs : (Value.agg ⟨l⟩).cells.toList = l := by simp [Value.cells]
  rw [hcs] at hf
  obtain ⟨m, e, hm⟩ := msg_cells (by simpa using hsz.trans (by kernel_rfl : Try.prog.cellsOf 28 = 10)) hf
  exact ⟨m, by rw [e]; rfl, hm⟩
end
end Go.Proofs.Ytbamojbkehnmkaa

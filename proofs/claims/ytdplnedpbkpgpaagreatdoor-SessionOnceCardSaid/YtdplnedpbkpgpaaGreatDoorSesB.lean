/- Layer 18: a name's number; for all names; no condition. -/
import Derived.Test.YtdplnedpbkpgpaaGreatDoorSesA
namespace Go.Proofs.YtdplnedpbkpgpaaGreatDoor
set_option linter.all false
set_option maxRecDepth 100000
open Go.RowKit

theorem eqT (a b : ByteArray) : eqL a.data.toList b.data.toList = (a.toList == b.toList) := by rw [eqL_eq, ByteArray.toList_eq, ByteArray.toList_eq]
theorem idx_no {nm s : ByteArray} {l : List ByteArray} {i : Int} (h : (nm.toList == s.toList) = false) : idxS nm (s :: l) i = idxS nm l (i + 1) := by
  unfold idxS
  rw [if_neg (by rw [eqT, h]; decide)]
  cases l <;> rfl
theorem idx_yes {nm s : ByteArray} {l : List ByteArray} {i : Int} (h : (nm.toList == s.toList) = true) : idxS nm (s :: l) i = i := by
  unfold idxS
  rw [if_pos (by rw [eqT, h])]
set_option maxHeartbeats 4000000 in
theorem number_any18 (nm : ByteArray) (w : World) : Calls Tryz.prog 24 #[.string nm] w fun e w' => e = .returned (.tuple #[.int .i64 (numS nm), .bool (numB nm)]) ∧ Only [] w w' := by
  have e0 : numI nm = idxS nm sigL 0 := rfl
  have fin : ∀ {k : Int}, numI nm = k → ∀ {e : Ending} {w1 : World}, e = .returned (.tuple #[.int .i64 (if k > 0 then k else 0), .bool (decide (k > 0))]) ∧ Only [] w w1 → e = .returned (.tuple #[.int .i64 (numS nm), .bool (numB nm)]) ∧ Only [] w w1 := fun {k} hk {e w1} h => by
    unfold numS numB
    rw [hk]
    exact h
  refine Hs.enter Tryz.func24 [] [] [] [.c (.v (.string nm))] (Mem.start0 w) (by kernel_rfl) (by kernel_rfl) ?_
  refine Hs.run0 300 (fun _ => by kernel_rfl) ?_
  refine Hs.cond (nm.toList == ByteArray.toList ⟨#[]⟩) (by kernel_rfl) (fun h => ?_) (fun h0 => ?_)
  · refine Hs.run0 300 (fun _ => by kernel_rfl) ?_
    exact Hs.ret (v := .tuple #[.int .i64 0, .bool false]) Tryz.func24 (by kernel_rfl) fun w' H => fin (k := 0) (e0.trans (idx_yes h)) ⟨rfl, H.only⟩
  refine Hs.runK [46] 60 2 Tryz.func24 rfl (by kernel_rfl) (fun ν => by kernel_rfl) (fun ν => by kernel_rfl) fun ν hν => ?_
  obtain ⟨b0, b1, rfl⟩ : ∃ b0 b1, ν = [b0, b1] := by
    match ν, hν with
    | [b0, b1], _ => exact ⟨b0, b1, rfl⟩
  refine Hs.inl Tryz.func47 [.c (.s 1 0 29 29), .c (.v (.string nm))] (by kernel_rfl) (by kernel_rfl) ?_
  refine Hs.run0 300 (fun _ => by kernel_rfl) ?_
  refine Hs.loop (by kernel_rfl) ?_
  refine Hs.run0 300 (fun _ => by kernel_rfl) ?_
  refine Hs.condT (by kernel_rfl) ?_
  refine Hs.run0 300 (fun _ => by kernel_rfl) ?_
  refine Hs.cond (nm.toList == ByteArray.toList ⟨#[]⟩) (by kernel_rfl) (fun h => ?_) (fun h1 => ?_)
  · refine Hs.run0 300 (fun _ => by kernel_rfl) ?_
    refine Hs.retI Tryz.func47 (by kernel_rfl) (by kernel_rfl) (by kernel_rfl) ?_
    refine Hs.run0 300 (fun _ => by kernel_rfl) ?_
    exact Hs.ret (v := .tuple #[.int .i64 0, .bool false]) Tryz.func24 (by kernel_rfl) fun w' H => fin (k := 0) (e0.trans (idx_yes h)) ⟨rfl, H.only⟩
  have e1 := e0.trans (idx_no h1)
  refine Hs.run0 300 (fun _ => by kernel_rfl) ?_
  refine Hs.loop (by kernel_rfl) ?_
  refine Hs.run0 300 (fun _ => by kernel_rfl) ?_
  refine Hs.condT (by kernel_rfl) ?_
  refine Hs.run0 300 (fun _ => by kernel_rfl) ?_
  refine Hs.cond (nm.toList == ByteArray.toList ⟨#[72, 85, 80]⟩) (by kernel_rfl) (fun h => ?_) (fun h2 => ?_)
  · refine Hs.run0 300 (fun _ => by kernel_rfl) ?_
    refine Hs.retI Tryz.func47 (by kernel_rfl) (by kernel_rfl) (by kernel_rfl) ?_
    refine Hs.run0 300 (fun _ => by kernel_rfl) ?_
    exact Hs.ret (v := .tuple #[.int .i64 1, .bool true]) Tryz.func24 (by kernel_rfl) fun w' H => fin (k := 1) (e1.trans (idx_yes h)) ⟨rfl, H.only⟩
  have e2 := e1.trans (idx_no h2)
  refine Hs.run0 300 (fun _ => by kernel_rfl) ?_
  refine Hs.loop (by kernel_rfl) ?_
  refine Hs.run0 300 (fun _ => by kernel_rfl) ?_
  refine Hs.condT (by kernel_rfl) ?_
  refine Hs.run0 300 (fun _ => by kernel_rfl) ?_
  refine Hs.cond (nm.toList == ByteArray.toList ⟨#[73, 78, 84]⟩) (by kernel_rfl) (fun h => ?_) (fun h3 => ?_)
  · refine Hs.run0 300 (fun _ => by kernel_rfl) ?_
    refine Hs.retI Tryz.func47 (by kernel_rfl) (by kernel_rfl) (by kernel_rfl) ?_
    refine Hs.run0 300 (fun _ => by kernel_rfl) ?_
    exact Hs.ret (v := .tuple #[.int .i64 2, .bool true]) Tryz.func24 (by kernel_rfl) fun w' H => fin (k := 2) (e2.trans (idx_yes h)) ⟨rfl, H.only⟩
  have e3 := e2.trans (idx_no h3)
  refine Hs.run0 300 (fun _ => by kernel_rfl) ?_
  refine Hs.loop (by kernel_rfl) ?_
  refine Hs.run0 300 (fun _ => by kernel_rfl) ?_
  refine Hs.condT (by kernel_rfl) ?_
  refine Hs.run0 300 (fun _ => by kernel_rfl) ?_
  refine Hs.cond (nm.toList == ByteArray.toList ⟨#[81, 85, 73, 84]⟩) (by kernel_rfl) (fun h => ?_) (fun h4 => ?_)
  · refine Hs.run0 300 (fun _ => by kernel_rfl) ?_
    refine Hs.retI Tryz.func47 (by kernel_rfl) (by kernel_rfl) (by kernel_rfl) ?_
    refine Hs.run0 300 (fun _ => by kernel_rfl) ?_
    exact Hs.ret (v := .tuple #[.int .i64 3, .bool true]) Tryz.func24 (by kernel_rfl) fun w' H => fin (k := 3) (e3.trans (idx_yes h)) ⟨rfl, H.only⟩
  have e4 := e3.trans (idx_no h4)
  refine Hs.run0 300 (fun _ => by kernel_rfl) ?_
  refine Hs.loop (by kernel_rfl) ?_
  refine Hs.run0 300 (fun _ => by kernel_rfl) ?_
  refine Hs.condT (by kernel_rfl) ?_
  refine Hs.run0 300 (fun _ => by kernel_rfl) ?_
  refine Hs.cond (nm.toList == ByteArray.toList ⟨#[73, 76, 76]⟩) (by kernel_rfl) (fun h => ?_) (fun h5 => ?_)
  · refine Hs.run0 300 (fun _ => by kernel_rfl) ?_
    refine Hs.retI Tryz.func47 (by kernel_rfl) (by kernel_rfl) (by kernel_rfl) ?_
    refine Hs.run0 300 (fun _ => by kernel_rfl) ?_
    exact Hs.ret (v := .tuple #[.int .i64 4, .bool true]) Tryz.func24 (by kernel_rfl) fun w' H => fin (k := 4) (e4.trans (idx_yes h)) ⟨rfl, H.only⟩
  have e5 := e4.trans (idx_no h5)
  refine Hs.run0 300 (fun _ => by kernel_rfl) ?_
  refine Hs.loop (by kernel_rfl) ?_
  refine Hs.run0 300 (fun _ => by kernel_rfl) ?_
  refine Hs.condT (by kernel_rfl) ?_
  refine Hs.run0 300 (fun _ => by kernel_rfl) ?_
  refine Hs.cond (nm.toList == ByteArray.toList ⟨#[84, 82, 65, 80]⟩) (by kernel_rfl) (fun h => ?_) (fun h6 => ?_)
  · refine Hs.run0 300 (fun _ => by kernel_rfl) ?_
    refine Hs.retI Tryz.func47 (by kernel_rfl) (by kernel_rfl) (by kernel_rfl) ?_
    refine Hs.run0 300 (fun _ => by kernel_rfl) ?_
    exact Hs.ret (v := .tuple #[.int .i64 5, .bool true]) Tryz.func24 (by kernel_rfl) fun w' H => fin (k := 5) (e5.trans (idx_yes h)) ⟨rfl, H.only⟩
  have e6 := e5.trans (idx_no h6)
  refine Hs.run0 300 (fun _ => by kernel_rfl) ?_
  refine Hs.loop (by kernel_rfl) ?_
  refine Hs.run0 300 (fun _ => by kernel_rfl) ?_
  refine Hs.condT (by kernel_rfl) ?_
  refine Hs.run0 300 (fun _ => by kernel_rfl) ?_
  refine Hs.cond (nm.toList == ByteArray.toList ⟨#[65, 66, 82, 84]⟩) (by kernel_rfl) (fun h => ?_) (fun h7 => ?_)
  · refine Hs.run0 300 (fun _ => by kernel_rfl) ?_
    refine Hs.retI Tryz.func47 (by kernel_rfl) (by kernel_rfl) (by kernel_rfl) ?_
    refine Hs.run0 300 (fun _ => by kernel_rfl) ?_
    exact Hs.ret (v := .tuple #[.int .i64 6, .bool true]) Tryz.func24 (by kernel_rfl) fun w' H => fin (k := 6) (e6.trans (idx_yes h)) ⟨rfl, H.only⟩
  have e7 := e6.trans (idx_no h7)
  refine Hs.run0 300 (fun _ => by kernel_rfl) ?_
  refine Hs.loop (by kernel_rfl) ?_
  refine Hs.run0 300 (fun _ => by kernel_rfl) ?_
  refine Hs.condT (by kernel_rfl) ?_
  refine Hs.run0 300 (fun _ => by kernel_rfl) ?_
  refine Hs.cond (nm.toList == ByteArray.toList ⟨#[66, 85, 83]⟩) (by kernel_rfl) (fun h => ?_) (fun h8 => ?_)
  · refine Hs.run0 300 (fun _ => by kernel_rfl) ?_
    refine Hs.retI Tryz.func47 (by kernel_rfl) (by kernel_rfl) (by kernel_rfl) ?_
    refine Hs.run0 300 (fun _ => by kernel_rfl) ?_
    exact Hs.ret (v := .tuple #[.int .i64 7, .bool true]) Tryz.func24 (by kernel_rfl) fun w' H => fin (k := 7) (e7.trans (idx_yes h)) ⟨rfl, H.only⟩
  have e8 := e7.trans (idx_no h8)
  refine Hs.run0 300 (fun _ => by kernel_rfl) ?_
  refine Hs.loop (by kernel_rfl) ?_
  refine Hs.run0 300 (fun _ => by kernel_rfl) ?_
  refine Hs.condT (by kernel_rfl) ?_
  refine Hs.run0 300 (fun _ => by kernel_rfl) ?_
  refine Hs.cond (nm.toList == ByteArray.toList ⟨#[70, 80, 69]⟩) (by kernel_rfl) (fun h => ?_) (fun h9 => ?_)
  · refine Hs.run0 300 (fun _ => by kernel_rfl) ?_
    refine Hs.retI Tryz.func47 (by kernel_rfl) (by kernel_rfl) (by kernel_rfl) ?_
    refine Hs.run0 300 (fun _ => by kernel_rfl) ?_
    exact Hs.ret (v := .tuple #[.int .i64 8, .bool true]) Tryz.func24 (by kernel_rfl) fun w' H => fin (k := 8) (e8.trans (idx_yes h)) ⟨rfl, H.only⟩
  have e9 := e8.trans (idx_no h9)
  refine Hs.run0 300 (fun _ => by kernel_rfl) ?_
  refine Hs.loop (by kernel_rfl) ?_
  refine Hs.run0 300 (fun _ => by kernel_rfl) ?_
  refine Hs.condT (by kernel_rfl) ?_
  refine Hs.run0 300 (fun _ => by kernel_rfl) ?_
  refine Hs.cond (nm.toList == ByteArray.toList ⟨#[75, 73, 76, 76]⟩) (by kernel_rfl) (fun h => ?_) (fun h10 => ?_)
  · refine Hs.run0 300 (fun _ => by kernel_rfl) ?_
    refine Hs.retI Tryz.func47 (by kernel_rfl) (by kernel_rfl) (by kernel_rfl) ?_
    refine Hs.run0 300 (fun _ => by kernel_rfl) ?_
    exact Hs.ret (v := .tuple #[.int .i64 9, .bool true]) Tryz.func24 (by kernel_rfl) fun w' H => fin (k := 9) (e9.trans (idx_yes h)) ⟨rfl, H.only⟩
  have e10 := e9.trans (idx_no h10)
  refine Hs.run0 300 (fun _ => by kernel_rfl) ?_
  refine Hs.loop (by kernel_rfl) ?_
  refine Hs.run0 300 (fun _ => by kernel_rfl) ?_
  refine Hs.condT (by kernel_rfl) ?_
  refine Hs.run0 300 (fun _ => by kernel_rfl) ?_
  refine Hs.cond (nm.toList == ByteArray.toList ⟨#[85, 83, 82, 49]⟩) (by kernel_rfl) (fun h => ?_) (fun h11 => ?_)
  · refine Hs.run0 300 (fun _ => by kernel_rfl) ?_
    refine Hs.retI Tryz.func47 (by kernel_rfl) (by kernel_rfl) (by kernel_rfl) ?_
    refine Hs.run0 300 (fun _ => by kernel_rfl) ?_
    exact Hs.ret (v := .tuple #[.int .i64 10, .bool true]) Tryz.func24 (by kernel_rfl) fun w' H => fin (k := 10) (e10.trans (idx_yes h)) ⟨rfl, H.only⟩
  have e11 := e10.trans (idx_no h11)
  refine Hs.run0 300 (fun _ => by kernel_rfl) ?_
  refine Hs.loop (by kernel_rfl) ?_
  refine Hs.run0 300 (fun _ => by kernel_rfl) ?_
  refine Hs.condT (by kernel_rfl) ?_
  refine Hs.run0 300 (fun _ => by kernel_rfl) ?_
  refine Hs.cond (nm.toList == ByteArray.toList ⟨#[83, 69, 71, 86]⟩) (by kernel_rfl) (fun h => ?_) (fun h12 => ?_)
  · refine Hs.run0 300 (fun _ => by kernel_rfl) ?_
    refine Hs.retI Tryz.func47 (by kernel_rfl) (by kernel_rfl) (by kernel_rfl) ?_
    refine Hs.run0 300 (fun _ => by kernel_rfl) ?_
    exact Hs.ret (v := .tuple #[.int .i64 11, .bool true]) Tryz.func24 (by kernel_rfl) fun w' H => fin (k := 11) (e11.trans (idx_yes h)) ⟨rfl, H.only⟩
  have e12 := e11.trans (idx_no h12)
  refine Hs.run0 300 (fun _ => by kernel_rfl) ?_
  refine Hs.loop (by kernel_rfl) ?_
  refine Hs.run0 300 (fun _ => by kernel_rfl) ?_
  refine Hs.condT (by kernel_rfl) ?_
  refine Hs.run0 300 (fun _ => by kernel_rfl) ?_
  refine Hs.cond (nm.toList == ByteArray.toList ⟨#[85, 83, 82, 50]⟩) (by kernel_rfl) (fun h => ?_) (fun h13 => ?_)
  · refine Hs.run0 300 (fun _ => by kernel_rfl) ?_
    refine Hs.retI Tryz.func47 (by kernel_rfl) (by kernel_rfl) (by kernel_rfl) ?_
    refine Hs.run0 300 (fun _ => by kernel_rfl) ?_
    exact Hs.ret (v := .tuple #[.int .i64 12, .bool true]) Tryz.func24 (by kernel_rfl) fun w' H => fin (k := 12) (e12.trans (idx_yes h)) ⟨rfl, H.only⟩
  have e13 := e12.trans (idx_no h13)
  refine Hs.run0 300 (fun _ => by kernel_rfl) ?_
  refine Hs.loop (by kernel_rfl) ?_
  refine Hs.run0 300 (fun _ => by kernel_rfl) ?_
  refine Hs.condT (by kernel_rfl) ?_
  refine Hs.run0 300 (fun _ => by kernel_rfl) ?_
  refine Hs.cond (nm.toList == ByteArray.toList ⟨#[80, 73, 80, 69]⟩) (by kernel_rfl) (fun h => ?_) (fun h14 => ?_)
  · refine Hs.run0 300 (fun _ => by kernel_rfl) ?_
    refine Hs.retI Tryz.func47 (by kernel_rfl) (by kernel_rfl) (by kernel_rfl) ?_
    refine Hs.run0 300 (fun _ => by kernel_rfl) ?_
    exact Hs.ret (v := .tuple #[.int .i64 13, .bool true]) Tryz.func24 (by kernel_rfl) fun w' H => fin (k := 13) (e13.trans (idx_yes h)) ⟨rfl, H.only⟩
  have e14 := e13.trans (idx_no h14)
  refine Hs.run0 300 (fun _ => by kernel_rfl) ?_
  refine Hs.loop (by kernel_rfl) ?_
  refine Hs.run0 300 (fun _ => by kernel_rfl) ?_
  refine Hs.condT (by kernel_rfl) ?_
  refine Hs.run0 300 (fun _ => by kernel_rfl) ?_
  refine Hs.cond (nm.toList == ByteArray.toList ⟨#[65, 76, 82, 77]⟩) (by kernel_rfl) (fun h => ?_) (fun h15 => ?_)
  · refine Hs.run0 300 (fun _ => by kernel_rfl) ?_
    refine Hs.retI Tryz.func47 (by kernel_rfl) (by kernel_rfl) (by kernel_rfl) ?_
    refine Hs.run0 300 (fun _ => by kernel_rfl) ?_
    exact Hs.ret (v := .tuple #[.int .i64 14, .bool true]) Tryz.func24 (by kernel_rfl) fun w' H => fin (k := 14) (e14.trans (idx_yes h)) ⟨rfl, H.only⟩
  have e15 := e14.trans (idx_no h15)
  refine Hs.run0 300 (fun _ => by kernel_rfl) ?_
  refine Hs.loop (by kernel_rfl) ?_
  refine Hs.run0 300 (fun _ => by kernel_rfl) ?_
  refine Hs.condT (by kernel_rfl) ?_
  refine Hs.run0 300 (fun _ => by kernel_rfl) ?_
  refine Hs.cond (nm.toList == ByteArray.toList ⟨#[84, 69, 82, 77]⟩) (by kernel_rfl) (fun h => ?_) (fun h16 => ?_)
  · refine Hs.run0 300 (fun _ => by kernel_rfl) ?_
    refine Hs.retI Tryz.func47 (by kernel_rfl) (by kernel_rfl) (by kernel_rfl) ?_
    refine Hs.run0 300 (fun _ => by kernel_rfl) ?_
    exact Hs.ret (v := .tuple #[.int .i64 15, .bool true]) Tryz.func24 (by kernel_rfl) fun w' H => fin (k := 15) (e15.trans (idx_yes h)) ⟨rfl, H.only⟩
  have e16 := e15.trans (idx_no h16)
  refine Hs.run0 300 (fun _ => by kernel_rfl) ?_
  refine Hs.loop (by kernel_rfl) ?_
  refine Hs.run0 300 (fun _ => by kernel_rfl) ?_
  refine Hs.condT (by kernel_rfl) ?_
  refine Hs.run0 300 (fun _ => by kernel_rfl) ?_
  refine Hs.cond (nm.toList == ByteArray.toList ⟨#[]⟩) (by kernel_rfl) (fun h => ?_) (fun h17 => ?_)
  · refine Hs.run0 300 (fun _ => by kernel_rfl) ?_
    refine Hs.retI Tryz.func47 (by kernel_rfl) (by kernel_rfl) (by kernel_rfl) ?_
    refine Hs.run0 300 (fun _ => by kernel_rfl) ?_
    exact Hs.ret (v := .tuple #[.int .i64 16, .bool true]) Tryz.func24 (by kernel_rfl) fun w' H => fin (k := 16) (e16.trans (idx_yes h)) ⟨rfl, H.only⟩
  have e17 := e16.trans (idx_no h17)
  refine Hs.run0 300 (fun _ => by kernel_rfl) ?_
  refine Hs.loop (by kernel_rfl) ?_
  refine Hs.run0 300 (fun _ => by kernel_rfl) ?_
  refine Hs.condT (by kernel_rfl) ?_
  refine Hs.run0 300 (fun _ => by kernel_rfl) ?_
  refine Hs.cond (nm.toList == ByteArray.toList ⟨#[67, 72, 76, 68]⟩) (by kernel_rfl) (fun h => ?_) (fun h18 => ?_)
  · refine Hs.run0 300 (fun _ => by kernel_rfl) ?_
    refine Hs.retI Tryz.func47 (by kernel_rfl) (by kernel_rfl) (by kernel_rfl) ?_
    refine Hs.run0 300 (fun _ => by kernel_rfl) ?_
    exact Hs.ret (v := .tuple #[.int .i64 17, .bool true]) Tryz.func24 (by kernel_rfl) fun w' H => fin (k := 17) (e17.trans (idx_yes h)) ⟨rfl, H.only⟩
  have e18 := e17.trans (idx_no h18)
  refine Hs.run0 300 (fun _ => by kernel_rfl) ?_
  refine Hs.loop (by kernel_rfl) ?_
  refine Hs.run0 300 (fun _ => by kernel_rfl) ?_
  refine Hs.condT (by kernel_rfl) ?_
  refine Hs.run0 300 (fun _ => by kernel_rfl) ?_
  refine Hs.cond (nm.toList == ByteArray.toList ⟨#[67, 79, 78, 84]⟩) (by kernel_rfl) (fun h => ?_) (fun h19 => ?_)
  · refine Hs.run0 300 (fun _ => by kernel_rfl) ?_
    refine Hs.retI Tryz.func47 (by kernel_rfl) (by kernel_rfl) (by kernel_rfl) ?_
    refine Hs.run0 300 (fun _ => by kernel_rfl) ?_
    exact Hs.ret (v := .tuple #[.int .i64 18, .bool true]) Tryz.func24 (by kernel_rfl) fun w' H => fin (k := 18) (e18.trans (idx_yes h)) ⟨rfl, H.only⟩
  have e19 := e18.trans (idx_no h19)
  refine Hs.run0 300 (fun _ => by kernel_rfl) ?_
  refine Hs.loop (by kernel_rfl) ?_
  refine Hs.run0 300 (fun _ => by kernel_rfl) ?_
  refine Hs.condT (by kernel_rfl) ?_
  refine Hs.run0 300 (fun _ => by kernel_rfl) ?_
  refine Hs.cond (nm.toList == ByteArray.toList ⟨#[83, 84, 79, 80]⟩) (by kernel_rfl) (fun h => ?_) (fun h20 => ?_)
  · refine Hs.run0 300 (fun _ => by kernel_rfl) ?_
    refine Hs.retI Tryz.func47 (by kernel_rfl) (by kernel_rfl) (by kernel_rfl) ?_
    refine Hs.run0 300 (fun _ => by kernel_rfl) ?_
    exact Hs.ret (v := .tuple #[.int .i64 19, .bool true]) Tryz.func24 (by kernel_rfl) fun w' H => fin (k := 19) (e19.trans (idx_yes h)) ⟨rfl, H.only⟩
  have e20 := e19.trans (idx_no h20)
  refine Hs.run0 300 (fun _ => by kernel_rfl) ?_
  refine Hs.loop (by kernel_rfl) ?_
  refine Hs.run0 300 (fun _ => by kernel_rfl) ?_
  refine Hs.condT (by kernel_rfl) ?_
  refine Hs.run0 300 (fun _ => by kernel_rfl) ?_
  refine Hs.cond (nm.toList == ByteArray.toList ⟨#[84, 83, 84, 80]⟩) (by kernel_rfl) (fun h => ?_) (fun h21 => ?_)
  · refine Hs.run0 300 (fun _ => by kernel_rfl) ?_
    refine Hs.retI Tryz.func47 (by kernel_rfl) (by kernel_rfl) (by kernel_rfl) ?_
    refine Hs.run0 300 (fun _ => by kernel_rfl) ?_
    exact Hs.ret (v := .tuple #[.int .i64 20, .bool true]) Tryz.func24 (by kernel_rfl) fun w' H => fin (k := 20) (e20.trans (idx_yes h)) ⟨rfl, H.only⟩
  have e21 := e20.trans (idx_no h21)
  refine Hs.run0 300 (fun _ => by kernel_rfl) ?_
  refine Hs.loop (by kernel_rfl) ?_
  refine Hs.run0 300 (fun _ => by kernel_rfl) ?_
  refine Hs.condT (by kernel_rfl) ?_
  refine Hs.run0 300 (fun _ => by kernel_rfl) ?_
  refine Hs.cond (nm.toList == ByteArray.toList ⟨#[84, 84, 73, 78]⟩) (by kernel_rfl) (fun h => ?_) (fun h22 => ?_)
  · refine Hs.run0 300 (fun _ => by kernel_rfl) ?_
    refine Hs.retI Tryz.func47 (by kernel_rfl) (by kernel_rfl) (by kernel_rfl) ?_
    refine Hs.run0 300 (fun _ => by kernel_rfl) ?_
    exact Hs.ret (v := .tuple #[.int .i64 21, .bool true]) Tryz.func24 (by kernel_rfl) fun w' H => fin (k := 21) (e21.trans (idx_yes h)) ⟨rfl, H.only⟩
  have e22 := e21.trans (idx_no h22)
  refine Hs.run0 300 (fun _ => by kernel_rfl) ?_
  refine Hs.loop (by kernel_rfl) ?_
  refine Hs.run0 300 (fun _ => by kernel_rfl) ?_
  refine Hs.condT (by kernel_rfl) ?_
  refine Hs.run0 300 (fun _ => by kernel_rfl) ?_
  refine Hs.cond (nm.toList == ByteArray.toList ⟨#[84, 84, 79, 85]⟩) (by kernel_rfl) (fun h => ?_) (fun h23 => ?_)
  · refine Hs.run0 300 (fun _ => by kernel_rfl) ?_
    refine Hs.retI Tryz.func47 (by kernel_rfl) (by kernel_rfl) (by kernel_rfl) ?_
    refine Hs.run0 300 (fun _ => by kernel_rfl) ?_
    exact Hs.ret (v := .tuple #[.int .i64 22, .bool true]) Tryz.func24 (by kernel_rfl) fun w' H => fin (k := 22) (e22.trans (idx_yes h)) ⟨rfl, H.only⟩
  have e23 := e22.trans (idx_no h23)
  refine Hs.run0 300 (fun _ => by kernel_rfl) ?_
  refine Hs.loop (by kernel_rfl) ?_
  refine Hs.run0 300 (fun _ => by kernel_rfl) ?_
  refine Hs.condT (by kernel_rfl) ?_
  refine Hs.run0 300 (fun _ => by kernel_rfl) ?_
  refine Hs.cond (nm.toList == ByteArray.toList ⟨#[]⟩) (by kernel_rfl) (fun h => ?_) (fun h24 => ?_)
  · refine Hs.run0 300 (fun _ => by kernel_rfl) ?_
    refine Hs.retI Tryz.func47 (by kernel_rfl) (by kernel_rfl) (by kernel_rfl) ?_
    refine Hs.run0 300 (fun _ => by kernel_rfl) ?_
    exact Hs.ret (v := .tuple #[.int .i64 23, .bool true]) Tryz.func24 (by kernel_rfl) fun w' H => fin (k := 23) (e23.trans (idx_yes h)) ⟨rfl, H.only⟩
  have e24 := e23.trans (idx_no h24)
  refine Hs.run0 300 (fun _ => by kernel_rfl) ?_
  refine Hs.loop (by kernel_rfl) ?_
  refine Hs.run0 300 (fun _ => by kernel_rfl) ?_
  refine Hs.condT (by kernel_rfl) ?_
  refine Hs.run0 300 (fun _ => by kernel_rfl) ?_
  refine Hs.cond (nm.toList == ByteArray.toList ⟨#[]⟩) (by kernel_rfl) (fun h => ?_) (fun h25 => ?_)
  · refine Hs.run0 300 (fun _ => by kernel_rfl) ?_
    refine Hs.retI Tryz.func47 (by kernel_rfl) (by kernel_rfl) (by kernel_rfl) ?_
    refine Hs.run0 300 (fun _ => by kernel_rfl) ?_
    exact Hs.ret (v := .tuple #[.int .i64 24, .bool true]) Tryz.func24 (by kernel_rfl) fun w' H => fin (k := 24) (e24.trans (idx_yes h)) ⟨rfl, H.only⟩
  have e25 := e24.trans (idx_no h25)
  refine Hs.run0 300 (fun _ => by kernel_rfl) ?_
  refine Hs.loop (by kernel_rfl) ?_
  refine Hs.run0 300 (fun _ => by kernel_rfl) ?_
  refine Hs.condT (by kernel_rfl) ?_
  refine Hs.run0 300 (fun _ => by kernel_rfl) ?_
  refine Hs.cond (nm.toList == ByteArray.toList ⟨#[]⟩) (by kernel_rfl) (fun h => ?_) (fun h26 => ?_)
  · refine Hs.run0 300 (fun _ => by kernel_rfl) ?_
    refine Hs.retI Tryz.func47 (by kernel_rfl) (by kernel_rfl) (by kernel_rfl) ?_
    refine Hs.run0 300 (fun _ => by kernel_rfl) ?_
    exact Hs.ret (v := .tuple #[.int .i64 25, .bool true]) Tryz.func24 (by kernel_rfl) fun w' H => fin (k := 25) (e25.trans (idx_yes h)) ⟨rfl, H.only⟩
  have e26 := e25.trans (idx_no h26)
  refine Hs.run0 300 (fun _ => by kernel_rfl) ?_
  refine Hs.loop (by kernel_rfl) ?_
  refine Hs.run0 300 (fun _ => by kernel_rfl) ?_
  refine Hs.condT (by kernel_rfl) ?_
  refine Hs.run0 300 (fun _ => by kernel_rfl) ?_
  refine Hs.cond (nm.toList == ByteArray.toList ⟨#[]⟩) (by kernel_rfl) (fun h => ?_) (fun h27 => ?_)
  · refine Hs.run0 300 (fun _ => by kernel_rfl) ?_
    refine Hs.retI Tryz.func47 (by kernel_rfl) (by kernel_rfl) (by kernel_rfl) ?_
    refine Hs.run0 300 (fun _ => by kernel_rfl) ?_
    exact Hs.ret (v := .tuple #[.int .i64 26, .bool true]) Tryz.func24 (by kernel_rfl) fun w' H => fin (k := 26) (e26.trans (idx_yes h)) ⟨rfl, H.only⟩
  have e27 := e26.trans (idx_no h27)
  refine Hs.run0 300 (fun _ => by kernel_rfl) ?_
  refine Hs.loop (by kernel_rfl) ?_
  refine Hs.run0 300 (fun _ => by kernel_rfl) ?_
  refine Hs.condT (by kernel_rfl) ?_
  refine Hs.run0 300 (fun _ => by kernel_rfl) ?_
  refine Hs.cond (nm.toList == ByteArray.toList ⟨#[]⟩) (by kernel_rfl) (fun h => ?_) (fun h28 => ?_)
  · refine Hs.run0 300 (fun _ => by kernel_rfl) ?_
    refine Hs.retI Tryz.func47 (by kernel_rfl) (by kernel_rfl) (by kernel_rfl) ?_
    refine Hs.run0 300 (fun _ => by kernel_rfl) ?_
    exact Hs.ret (v := .tuple #[.int .i64 27, .bool true]) Tryz.func24 (by kernel_rfl) fun w' H => fin (k := 27) (e27.trans (idx_yes h)) ⟨rfl, H.only⟩
  have e28 := e27.trans (idx_no h28)
  refine Hs.run0 300 (fun _ => by kernel_rfl) ?_
  refine Hs.loop (by kernel_rfl) ?_
  refine Hs.run0 300 (fun _ => by kernel_rfl) ?_
  refine Hs.condT (by kernel_rfl) ?_
  refine Hs.run0 300 (fun _ => by kernel_rfl) ?_
  refine Hs.cond (nm.toList == ByteArray.toList ⟨#[87, 73, 78, 67, 72]⟩) (by kernel_rfl) (fun h => ?_) (fun h29 => ?_)
  · refine Hs.run0 300 (fun _ => by kernel_rfl) ?_
    refine Hs.retI Tryz.func47 (by kernel_rfl) (by kernel_rfl) (by kernel_rfl) ?_
    refine Hs.run0 300 (fun _ => by kernel_rfl) ?_
    exact Hs.ret (v := .tuple #[.int .i64 28, .bool true]) Tryz.func24 (by kernel_rfl) fun w' H => fin (k := 28) (e28.trans (idx_yes h)) ⟨rfl, H.only⟩
  have e29 := e28.trans (idx_no h29)
  refine Hs.run0 300 (fun _ => by kernel_rfl) ?_
  refine Hs.loop (by kernel_rfl) ?_
  refine Hs.run0 300 (fun _ => by kernel_rfl) ?_
  refine Hs.condF (by kernel_rfl) ?_
  refine Hs.run0 300 (fun _ => by kernel_rfl) ?_
  refine Hs.retI Tryz.func47 (by kernel_rfl) (by kernel_rfl) (by kernel_rfl) ?_
  refine Hs.run0 300 (fun _ => by kernel_rfl) ?_
  exact Hs.ret (v := .tuple #[.int .i64 0, .bool false]) Tryz.func24 (by kernel_rfl) fun w' H => fin (k := -1) e29 ⟨rfl, H.only⟩
end Go.Proofs.YtdplnedpbkpgpaaGreatDoor

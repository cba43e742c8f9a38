/- Layer 19, the document's: whether an operation may be; for all operations; no condition · Layer 19, the document's: which program has a name; what is wrong with programs; no condition but lengths · Layer 19: Print; for all programs; where the library's variables hold what they hold · Layer 19, the document's: Print; for all programs; no condition but lengths · Layer 19: are programs more than are looked at; for all programs; no condition but what memory holds · The machine: a range over a function, in its plain form: where it stands, what a call of yield meets, one cell read of a row of ours where a region draws. Over any program; no condition · Layer 19: a round of Parse: what a line does to the programs in memory; for all texts that are not too long; no other condition. -/
import Derived.Test.YtmmcamkmglpgiaaGreatDoorPxB
import Derived.Test.YtmmcamkmglpgiaaGreatDoorPxD
import Derived.Test.YtmmcamkmglpgiaaGreatDoorPgA
import Derived.Test.YtmmcamkmglpgiaaGreatDoorEngJ
import Derived.Test.YtmmcamkmglpgiaaGreatDoorEngN
import Derived.Test.YtmmcamkmglpgiaaGreatDoorEngAP
import Derived.Test.YtmmcamkmglpgiaaGreatDoorEngAY
import Derived.Test.YtmmcamkmglpgiaaGreatDoorEngY
import Derived.Test.YtmmcamkmglpgiaaGreatDoorPxC
namespace Go.Proofs.YtmmcamkmglpgiaaGreatDoor
open Go.RowKit
set_option linter.all false
set_option maxRecDepth 100000
theorem rsignal_any (n : Int) (w : World) : Calls Tryz.prog 81 #[.int .i64 n] w fun e w' => e = .returned (.bool (isS n)) ∧ Only [] w w' := by
  refine Hs.enter Tryz.func81 [] [] [] [.c (.v (.int .i64 n))] (Mem.start0 w) (by kernel_rfl) (by kernel_rfl) ?_
  refine Hs.run0 300 (fun _ => by kernel_rfl) ?_
  refine Hs.callV (v := .tuple #[.string (if isS n then nameS n else ⟨#[]⟩), .bool (isS n)]) (fun w' H => r18name_any n w') (by kernel_rfl) ?_
  refine Hs.run0 300 (fun _ => by kernel_rfl) ?_
  exact Hs.ret (v := .bool (isS n)) Tryz.func81 (by kernel_rfl) fun w' H => ⟨rfl, H.only⟩
theorem rright_out (o : OP9) (p q : Int) (h : withinB o.k 1 16 = false) (w : World) : Calls Tryz.prog 47 #[opA o, .int .i64 p, .int .i64 q] w (RetB false w) := by
  refine Hs.enter Tryz.func47 [] [] [] [.g o.sc, .c (.v (.int .i64 p)), .c (.v (.int .i64 q))] (Mem.start0 w) (by kernel_rfl) (by kernel_rfl) ?_
  refine Hs.run1 300 (fun _ => by kernel_rfl) fun b0 => ?_
  refine Hs.bool 11 (decide (o.k < 1)) (by kernel_rfl) (fun h1 => ?_) (fun h1 => ?_)
  · refine Hs.rung0 [3] 300 (fun _ => by kernel_rfl) ?_
    refine Hs.condT (by kernel_rfl) ?_
    refine Hs.run0 300 (fun _ => by kernel_rfl) ?_
    exact Hs.ret (v := .bool false) Tryz.func47 (by kernel_rfl) fun w' H => ⟨rfl, H.only⟩
  · refine Hs.rung0 [3] 300 (fun _ => by kernel_rfl) ?_
    refine Hs.cond (decide (o.k > 16)) (by kernel_rfl) (fun h2 => ?_) (fun h2 => ?_)
    · refine Hs.run0 300 (fun _ => by kernel_rfl) ?_
      exact Hs.ret (v := .bool false) Tryz.func47 (by kernel_rfl) fun w' H => ⟨rfl, H.only⟩
    · have h3 := of_decide_eq_false h1
      have h4 := of_decide_eq_false h2
      exact absurd h (by
        have : withinB o.k 1 16 = true := by unfold withinB; rw [decide_eq_true (by omega : (1 : Int) ≤ o.k), decide_eq_true (by omega : o.k ≤ 16)]; rfl
        rw [this]
        decide)
set_option maxHeartbeats 4000000 in
theorem rright_1 (a b : Int) (t : ByteArray) (p q : Int) (w : World) : Calls Tryz.prog 47 #[opA ⟨1, a, b, t⟩, .int .i64 p, .int .i64 q] w (RetB (restB 1 p q ⟨1, a, b, t⟩) w) := by
  have hR : restB 1 p q ⟨1, a, b, t⟩ = (!(textE t) && ((!(b != 0) && (withinB a 0 255)))) := rfl
  rw [hR]
  refine Hs.enter Tryz.func47 [] [] [] [.g [.v (.int .i64 1), .v (.int .i64 a), .v (.int .i64 b), .v (.string t)], .c (.v (.int .i64 p)), .c (.v (.int .i64 q))] (Mem.start0 w) (by kernel_rfl) (by kernel_rfl) ?_
  refine Hs.run1 300 (fun _ => by kernel_rfl) fun b0 => ?_
  refine Hs.rung0 [3] 300 (fun _ => by kernel_rfl) ?_
  refine Hs.condF (by kernel_rfl) ?_
  refine Hs.run0 300 (fun _ => by kernel_rfl) ?_
  refine Hs.any [0] (by kernel_rfl) ?_
  refine Hs.run0 300 (fun _ => by kernel_rfl) ?_
  refine Hs.callV (v := .agg argsV.toArray) (fun w' H => rargs_any w') (by kernel_rfl) ?_
  refine Hs.rung0 [2] 300 (fun _ => by kernel_rfl) ?_
  refine Hs.bool 27 (textE t) (by kernel_rfl) (fun ht => ?_) (fun ht => ?_)
  · refine Hs.rung0 [2, 7, 10, 16, 19, 23] 300 (fun _ => by kernel_rfl) ?_
    refine Hs.condT (by kernel_rfl) ?_
    refine Hs.run0 300 (fun _ => by kernel_rfl) ?_
    exact Hs.ret (v := .bool false) Tryz.func47 (by kernel_rfl) fun w' H => ⟨by rw [show (textE t) = true from ht]; rfl, H.only⟩
  refine Hs.rung0 [2, 7, 10] 300 (fun _ => by kernel_rfl) ?_
  refine Hs.bool 36 (b != 0) (by kernel_rfl) (fun hb => ?_) (fun hb => ?_)
  · refine Hs.rung0 [2, 7, 10, 16, 19, 23] 300 (fun _ => by kernel_rfl) ?_
    refine Hs.condT (by kernel_rfl) ?_
    refine Hs.run0 300 (fun _ => by kernel_rfl) ?_
    exact Hs.ret (v := .bool false) Tryz.func47 (by kernel_rfl) fun w' H => ⟨by rw [show (textE t) = false from ht]; rw [show (b != 0) = true from hb]; rfl, H.only⟩
  refine Hs.rung0 [2, 7, 10, 16, 19, 23] 300 (fun _ => by kernel_rfl) ?_
  refine Hs.condF (by kernel_rfl) ?_
  refine Hs.run0 300 (fun _ => by kernel_rfl) ?_
  refine Hs.condT (by kernel_rfl) ?_
  refine Hs.run0 300 (fun _ => by kernel_rfl) ?_
  refine Hs.callV (v := .bool (withinB a 0 255)) (fun w' H => rbetween_any _ _ _ w') (by kernel_rfl) ?_
  refine Hs.run0 300 (fun _ => by kernel_rfl) ?_
  exact Hs.ret (v := .bool (withinB a 0 255)) Tryz.func47 (by kernel_rfl) fun w' H => ⟨by rw [show (textE t) = false from ht]; rw [show (b != 0) = false from hb]; rfl, H.only⟩
set_option maxHeartbeats 4000000 in
theorem rright_2 (a b : Int) (t : ByteArray) (p q : Int) (w : World) : Calls Tryz.prog 47 #[opA ⟨2, a, b, t⟩, .int .i64 p, .int .i64 q] w (RetB (restB 2 p q ⟨2, a, b, t⟩) w) := by
  have hR : restB 2 p q ⟨2, a, b, t⟩ = (!(b != 0) && ((!(a != 0) && (shortB ⟨2, a, b, t⟩)))) := rfl
  rw [hR]
  refine Hs.enter Tryz.func47 [] [] [] [.g [.v (.int .i64 2), .v (.int .i64 a), .v (.int .i64 b), .v (.string t)], .c (.v (.int .i64 p)), .c (.v (.int .i64 q))] (Mem.start0 w) (by kernel_rfl) (by kernel_rfl) ?_
  refine Hs.run1 300 (fun _ => by kernel_rfl) fun b0 => ?_
  refine Hs.rung0 [3] 300 (fun _ => by kernel_rfl) ?_
  refine Hs.condF (by kernel_rfl) ?_
  refine Hs.run0 300 (fun _ => by kernel_rfl) ?_
  refine Hs.any [0] (by kernel_rfl) ?_
  refine Hs.run0 300 (fun _ => by kernel_rfl) ?_
  refine Hs.callV (v := .agg argsV.toArray) (fun w' H => rargs_any w') (by kernel_rfl) ?_
  refine Hs.rung0 [2, 7, 10] 300 (fun _ => by kernel_rfl) ?_
  refine Hs.bool 36 (b != 0) (by kernel_rfl) (fun hb => ?_) (fun hb => ?_)
  · refine Hs.rung0 [2, 7, 10, 16, 19, 23] 300 (fun _ => by kernel_rfl) ?_
    refine Hs.condT (by kernel_rfl) ?_
    refine Hs.run0 300 (fun _ => by kernel_rfl) ?_
    exact Hs.ret (v := .bool false) Tryz.func47 (by kernel_rfl) fun w' H => ⟨by rw [show (b != 0) = true from hb]; rfl, H.only⟩
  refine Hs.rung0 [2, 7, 10, 16, 19, 23] 300 (fun _ => by kernel_rfl) ?_
  refine Hs.cond (a != 0) (by kernel_rfl) (fun ha => ?_) (fun ha => ?_)
  · refine Hs.run0 300 (fun _ => by kernel_rfl) ?_
    exact Hs.ret (v := .bool false) Tryz.func47 (by kernel_rfl) fun w' H => ⟨by rw [show (b != 0) = false from hb]; rw [show (a != 0) = true from ha]; rfl, H.only⟩
  refine Hs.run0 300 (fun _ => by kernel_rfl) ?_
  refine Hs.condF (by kernel_rfl) ?_
  refine Hs.run0 300 (fun _ => by kernel_rfl) ?_
  refine Hs.condT (by kernel_rfl) ?_
  refine Hs.run0 300 (fun _ => by kernel_rfl) ?_
  refine Hs.condT (by kernel_rfl) ?_
  refine Hs.run0 300 (fun _ => by kernel_rfl) ?_
  exact Hs.ret (v := .bool (shortB ⟨2, a, b, t⟩)) Tryz.func47 (by kernel_rfl) fun w' H => ⟨by rw [show (b != 0) = false from hb]; rw [show (a != 0) = false from ha]; rfl, H.only⟩
set_option maxHeartbeats 4000000 in
theorem rright_3 (a b : Int) (t : ByteArray) (p q : Int) (w : World) : Calls Tryz.prog 47 #[opA ⟨3, a, b, t⟩, .int .i64 p, .int .i64 q] w (RetB (restB 3 p q ⟨3, a, b, t⟩) w) := by
  have hR : restB 3 p q ⟨3, a, b, t⟩ = (!(b != 0) && ((!(a != 0) && (shortB ⟨3, a, b, t⟩)))) := rfl
  rw [hR]
  refine Hs.enter Tryz.func47 [] [] [] [.g [.v (.int .i64 3), .v (.int .i64 a), .v (.int .i64 b), .v (.string t)], .c (.v (.int .i64 p)), .c (.v (.int .i64 q))] (Mem.start0 w) (by kernel_rfl) (by kernel_rfl) ?_
  refine Hs.run1 300 (fun _ => by kernel_rfl) fun b0 => ?_
  refine Hs.rung0 [3] 300 (fun _ => by kernel_rfl) ?_
  refine Hs.condF (by kernel_rfl) ?_
  refine Hs.run0 300 (fun _ => by kernel_rfl) ?_
  refine Hs.any [0] (by kernel_rfl) ?_
  refine Hs.run0 300 (fun _ => by kernel_rfl) ?_
  refine Hs.callV (v := .agg argsV.toArray) (fun w' H => rargs_any w') (by kernel_rfl) ?_
  refine Hs.rung0 [2, 7, 10] 300 (fun _ => by kernel_rfl) ?_
  refine Hs.bool 36 (b != 0) (by kernel_rfl) (fun hb => ?_) (fun hb => ?_)
  · refine Hs.rung0 [2, 7, 10, 16, 19, 23] 300 (fun _ => by kernel_rfl) ?_
    refine Hs.condT (by kernel_rfl) ?_
    refine Hs.run0 300 (fun _ => by kernel_rfl) ?_
    exact Hs.ret (v := .bool false) Tryz.func47 (by kernel_rfl) fun w' H => ⟨by rw [show (b != 0) = true from hb]; rfl, H.only⟩
  refine Hs.rung0 [2, 7, 10, 16, 19, 23] 300 (fun _ => by kernel_rfl) ?_
  refine Hs.cond (a != 0) (by kernel_rfl) (fun ha => ?_) (fun ha => ?_)
  · refine Hs.run0 300 (fun _ => by kernel_rfl) ?_
    exact Hs.ret (v := .bool false) Tryz.func47 (by kernel_rfl) fun w' H => ⟨by rw [show (b != 0) = false from hb]; rw [show (a != 0) = true from ha]; rfl, H.only⟩
  refine Hs.run0 300 (fun _ => by kernel_rfl) ?_
  refine Hs.condF (by kernel_rfl) ?_
  refine Hs.run0 300 (fun _ => by kernel_rfl) ?_
  refine Hs.condF (by kernel_rfl) ?_
  refine Hs.run0 300 (fun _ => by kernel_rfl) ?_
  refine Hs.condT (by kernel_rfl) ?_
  refine Hs.run0 300 (fun _ => by kernel_rfl) ?_
  exact Hs.ret (v := .bool (shortB ⟨3, a, b, t⟩)) Tryz.func47 (by kernel_rfl) fun w' H => ⟨by rw [show (b != 0) = false from hb]; rw [show (a != 0) = false from ha]; rfl, H.only⟩
set_option maxHeartbeats 4000000 in
theorem rright_4 (a b : Int) (t : ByteArray) (p q : Int) (w : World) : Calls Tryz.prog 47 #[opA ⟨4, a, b, t⟩, .int .i64 p, .int .i64 q] w (RetB (restB 4 p q ⟨4, a, b, t⟩) w) := by
  have hR : restB 4 p q ⟨4, a, b, t⟩ = (!(textE t) && ((!(b != 0) && (withinB a 1 1024)))) := rfl
  rw [hR]
  refine Hs.enter Tryz.func47 [] [] [] [.g [.v (.int .i64 4), .v (.int .i64 a), .v (.int .i64 b), .v (.string t)], .c (.v (.int .i64 p)), .c (.v (.int .i64 q))] (Mem.start0 w) (by kernel_rfl) (by kernel_rfl) ?_
  refine Hs.run1 300 (fun _ => by kernel_rfl) fun b0 => ?_
  refine Hs.rung0 [3] 300 (fun _ => by kernel_rfl) ?_
  refine Hs.condF (by kernel_rfl) ?_
  refine Hs.run0 300 (fun _ => by kernel_rfl) ?_
  refine Hs.any [0] (by kernel_rfl) ?_
  refine Hs.run0 300 (fun _ => by kernel_rfl) ?_
  refine Hs.callV (v := .agg argsV.toArray) (fun w' H => rargs_any w') (by kernel_rfl) ?_
  refine Hs.rung0 [2] 300 (fun _ => by kernel_rfl) ?_
  refine Hs.bool 27 (textE t) (by kernel_rfl) (fun ht => ?_) (fun ht => ?_)
  · refine Hs.rung0 [2, 7, 10, 16, 19, 23] 300 (fun _ => by kernel_rfl) ?_
    refine Hs.condT (by kernel_rfl) ?_
    refine Hs.run0 300 (fun _ => by kernel_rfl) ?_
    exact Hs.ret (v := .bool false) Tryz.func47 (by kernel_rfl) fun w' H => ⟨by rw [show (textE t) = true from ht]; rfl, H.only⟩
  refine Hs.rung0 [2, 7, 10] 300 (fun _ => by kernel_rfl) ?_
  refine Hs.bool 36 (b != 0) (by kernel_rfl) (fun hb => ?_) (fun hb => ?_)
  · refine Hs.rung0 [2, 7, 10, 16, 19, 23] 300 (fun _ => by kernel_rfl) ?_
    refine Hs.condT (by kernel_rfl) ?_
    refine Hs.run0 300 (fun _ => by kernel_rfl) ?_
    exact Hs.ret (v := .bool false) Tryz.func47 (by kernel_rfl) fun w' H => ⟨by rw [show (textE t) = false from ht]; rw [show (b != 0) = true from hb]; rfl, H.only⟩
  refine Hs.rung0 [2, 7, 10, 16, 19, 23] 300 (fun _ => by kernel_rfl) ?_
  refine Hs.condF (by kernel_rfl) ?_
  refine Hs.run0 300 (fun _ => by kernel_rfl) ?_
  refine Hs.condF (by kernel_rfl) ?_
  refine Hs.run0 300 (fun _ => by kernel_rfl) ?_
  refine Hs.condF (by kernel_rfl) ?_
  refine Hs.run0 300 (fun _ => by kernel_rfl) ?_
  refine Hs.condF (by kernel_rfl) ?_
  refine Hs.run0 300 (fun _ => by kernel_rfl) ?_
  refine Hs.condT (by kernel_rfl) ?_
  refine Hs.run0 300 (fun _ => by kernel_rfl) ?_
  refine Hs.callV (v := .bool (withinB a 1 1024)) (fun w' H => rbetween_any _ _ _ w') (by kernel_rfl) ?_
  refine Hs.run0 300 (fun _ => by kernel_rfl) ?_
  exact Hs.ret (v := .bool (withinB a 1 1024)) Tryz.func47 (by kernel_rfl) fun w' H => ⟨by rw [show (textE t) = false from ht]; rw [show (b != 0) = false from hb]; rfl, H.only⟩
set_option maxHeartbeats 4000000 in
theorem rright_5 (a b : Int) (t : ByteArray) (p q : Int) (w : World) : Calls Tryz.prog 47 #[opA ⟨5, a, b, t⟩, .int .i64 p, .int .i64 q] w (RetB (restB 5 p q ⟨5, a, b, t⟩) w) := by
  have hR : restB 5 p q ⟨5, a, b, t⟩ = (!(textE t) && ((!(b != 0) && (laterB p q a)))) := rfl
  rw [hR]
  refine Hs.enter Tryz.func47 [] [] [] [.g [.v (.int .i64 5), .v (.int .i64 a), .v (.int .i64 b), .v (.string t)], .c (.v (.int .i64 p)), .c (.v (.int .i64 q))] (Mem.start0 w) (by kernel_rfl) (by kernel_rfl) ?_
  refine Hs.run1 300 (fun _ => by kernel_rfl) fun b0 => ?_
  refine Hs.rung0 [3] 300 (fun _ => by kernel_rfl) ?_
  refine Hs.condF (by kernel_rfl) ?_
  refine Hs.run0 300 (fun _ => by kernel_rfl) ?_
  refine Hs.any [0] (by kernel_rfl) ?_
  refine Hs.run0 300 (fun _ => by kernel_rfl) ?_
  refine Hs.callV (v := .agg argsV.toArray) (fun w' H => rargs_any w') (by kernel_rfl) ?_
  refine Hs.rung0 [2] 300 (fun _ => by kernel_rfl) ?_
  refine Hs.bool 27 (textE t) (by kernel_rfl) (fun ht => ?_) (fun ht => ?_)
  · refine Hs.rung0 [2, 7, 10, 16, 19, 23] 300 (fun _ => by kernel_rfl) ?_
    refine Hs.condT (by kernel_rfl) ?_
    refine Hs.run0 300 (fun _ => by kernel_rfl) ?_
    exact Hs.ret (v := .bool false) Tryz.func47 (by kernel_rfl) fun w' H => ⟨by rw [show (textE t) = true from ht]; rfl, H.only⟩
  refine Hs.rung0 [2, 7, 10] 300 (fun _ => by kernel_rfl) ?_
  refine Hs.bool 36 (b != 0) (by kernel_rfl) (fun hb => ?_) (fun hb => ?_)
  · refine Hs.rung0 [2, 7, 10, 16, 19, 23] 300 (fun _ => by kernel_rfl) ?_
    refine Hs.condT (by kernel_rfl) ?_
    refine Hs.run0 300 (fun _ => by kernel_rfl) ?_
    exact Hs.ret (v := .bool false) Tryz.func47 (by kernel_rfl) fun w' H => ⟨by rw [show (textE t) = false from ht]; rw [show (b != 0) = true from hb]; rfl, H.only⟩
  refine Hs.rung0 [2, 7, 10, 16, 19, 23] 300 (fun _ => by kernel_rfl) ?_
  refine Hs.condF (by kernel_rfl) ?_
  refine Hs.run0 300 (fun _ => by kernel_rfl) ?_
  refine Hs.condF (by kernel_rfl) ?_
  refine Hs.run0 300 (fun _ => by kernel_rfl) ?_
  refine Hs.condF (by kernel_rfl) ?_
  refine Hs.run0 300 (fun _ => by kernel_rfl) ?_
  refine Hs.condF (by kernel_rfl) ?_
  refine Hs.run0 300 (fun _ => by kernel_rfl) ?_
  refine Hs.condF (by kernel_rfl) ?_
  refine Hs.run0 300 (fun _ => by kernel_rfl) ?_
  refine Hs.condT (by kernel_rfl) ?_
  refine Hs.run0 300 (fun _ => by kernel_rfl) ?_
  refine Hs.condT (by kernel_rfl) ?_
  refine Hs.run0 300 (fun _ => by kernel_rfl) ?_
  refine Hs.bool 75 (decide (a > p)) (by kernel_rfl) (fun h1 => ?_) (fun h1 => ?_)
  · refine Hs.rung0 [4] 300 (fun _ => by kernel_rfl) ?_
    exact Hs.ret (v := .bool (decide (a < q))) Tryz.func47 (by kernel_rfl) fun w' H => ⟨by rw [show (textE t) = false from ht]; rw [show (b != 0) = false from hb]; simp only [laterB, h1, Bool.true_and]; rfl, H.only⟩
  · refine Hs.rung0 [4] 300 (fun _ => by kernel_rfl) ?_
    exact Hs.ret (v := .bool (false)) Tryz.func47 (by kernel_rfl) fun w' H => ⟨by rw [show (textE t) = false from ht]; rw [show (b != 0) = false from hb]; simp only [laterB, h1, Bool.false_and]; rfl, H.only⟩
set_option maxHeartbeats 4000000 in
theorem rright_6 (a b : Int) (t : ByteArray) (p q : Int) (w : World) : Calls Tryz.prog 47 #[opA ⟨6, a, b, t⟩, .int .i64 p, .int .i64 q] w (RetB (restB 6 p q ⟨6, a, b, t⟩) w) := by
  have hR : restB 6 p q ⟨6, a, b, t⟩ = (!(textE t) && ((!(b != 0) && (laterB p q a)))) := rfl
  rw [hR]
  refine Hs.enter Tryz.func47 [] [] [] [.g [.v (.int .i64 6), .v (.int .i64 a), .v (.int .i64 b), .v (.string t)], .c (.v (.int .i64 p)), .c (.v (.int .i64 q))] (Mem.start0 w) (by kernel_rfl) (by kernel_rfl) ?_
  refine Hs.run1 300 (fun _ => by kernel_rfl) fun b0 => ?_
  refine Hs.rung0 [3] 300 (fun _ => by kernel_rfl) ?_
  refine Hs.condF (by kernel_rfl) ?_
  refine Hs.run0 300 (fun _ => by kernel_rfl) ?_
  refine Hs.any [0] (by kernel_rfl) ?_
  refine Hs.run0 300 (fun _ => by kernel_rfl) ?_
  refine Hs.callV (v := .agg argsV.toArray) (fun w' H => rargs_any w') (by kernel_rfl) ?_
  refine Hs.rung0 [2] 300 (fun _ => by kernel_rfl) ?_
  refine Hs.bool 27 (textE t) (by kernel_rfl) (fun ht => ?_) (fun ht => ?_)
  · refine Hs.rung0 [2, 7, 10, 16, 19, 23] 300 (fun _ => by kernel_rfl) ?_
    refine Hs.condT (by kernel_rfl) ?_
    refine Hs.run0 300 (fun _ => by kernel_rfl) ?_
    exact Hs.ret (v := .bool false) Tryz.func47 (by kernel_rfl) fun w' H => ⟨by rw [show (textE t) = true from ht]; rfl, H.only⟩
  refine Hs.rung0 [2, 7, 10] 300 (fun _ => by kernel_rfl) ?_
  refine Hs.bool 36 (b != 0) (by kernel_rfl) (fun hb => ?_) (fun hb => ?_)
  · refine Hs.rung0 [2, 7, 10, 16, 19, 23] 300 (fun _ => by kernel_rfl) ?_
    refine Hs.condT (by kernel_rfl) ?_
    refine Hs.run0 300 (fun _ => by kernel_rfl) ?_
    exact Hs.ret (v := .bool false) Tryz.func47 (by kernel_rfl) fun w' H => ⟨by rw [show (textE t) = false from ht]; rw [show (b != 0) = true from hb]; rfl, H.only⟩
  refine Hs.rung0 [2, 7, 10, 16, 19, 23] 300 (fun _ => by kernel_rfl) ?_
  refine Hs.condF (by kernel_rfl) ?_
  refine Hs.run0 300 (fun _ => by kernel_rfl) ?_
  refine Hs.condF (by kernel_rfl) ?_
  refine Hs.run0 300 (fun _ => by kernel_rfl) ?_
  refine Hs.condF (by kernel_rfl) ?_
  refine Hs.run0 300 (fun _ => by kernel_rfl) ?_
  refine Hs.condF (by kernel_rfl) ?_
  refine Hs.run0 300 (fun _ => by kernel_rfl) ?_
  refine Hs.condF (by kernel_rfl) ?_
  refine Hs.run0 300 (fun _ => by kernel_rfl) ?_
  refine Hs.condF (by kernel_rfl) ?_
  refine Hs.run0 300 (fun _ => by kernel_rfl) ?_
  refine Hs.condT (by kernel_rfl) ?_
  refine Hs.run0 300 (fun _ => by kernel_rfl) ?_
  refine Hs.bool 75 (decide (a > p)) (by kernel_rfl) (fun h1 => ?_) (fun h1 => ?_)
  · refine Hs.rung0 [4] 300 (fun _ => by kernel_rfl) ?_
    exact Hs.ret (v := .bool (decide (a < q))) Tryz.func47 (by kernel_rfl) fun w' H => ⟨by rw [show (textE t) = false from ht]; rw [show (b != 0) = false from hb]; simp only [laterB, h1, Bool.true_and]; rfl, H.only⟩
  · refine Hs.rung0 [4] 300 (fun _ => by kernel_rfl) ?_
    exact Hs.ret (v := .bool (false)) Tryz.func47 (by kernel_rfl) fun w' H => ⟨by rw [show (textE t) = false from ht]; rw [show (b != 0) = false from hb]; simp only [laterB, h1, Bool.false_and]; rfl, H.only⟩
set_option maxHeartbeats 4000000 in
theorem rright_7 (a b : Int) (t : ByteArray) (p q : Int) (w : World) : Calls Tryz.prog 47 #[opA ⟨7, a, b, t⟩, .int .i64 p, .int .i64 q] w (RetB (restB 7 p q ⟨7, a, b, t⟩) w) := by
  have hR : restB 7 p q ⟨7, a, b, t⟩ = (!(textE t) && ((!(b != 0) && (withinB a 0 3)))) := rfl
  rw [hR]
  refine Hs.enter Tryz.func47 [] [] [] [.g [.v (.int .i64 7), .v (.int .i64 a), .v (.int .i64 b), .v (.string t)], .c (.v (.int .i64 p)), .c (.v (.int .i64 q))] (Mem.start0 w) (by kernel_rfl) (by kernel_rfl) ?_
  refine Hs.run1 300 (fun _ => by kernel_rfl) fun b0 => ?_
  refine Hs.rung0 [3] 300 (fun _ => by kernel_rfl) ?_
  refine Hs.condF (by kernel_rfl) ?_
  refine Hs.run0 300 (fun _ => by kernel_rfl) ?_
  refine Hs.any [0] (by kernel_rfl) ?_
  refine Hs.run0 300 (fun _ => by kernel_rfl) ?_
  refine Hs.callV (v := .agg argsV.toArray) (fun w' H => rargs_any w') (by kernel_rfl) ?_
  refine Hs.rung0 [2] 300 (fun _ => by kernel_rfl) ?_
  refine Hs.bool 27 (textE t) (by kernel_rfl) (fun ht => ?_) (fun ht => ?_)
  · refine Hs.rung0 [2, 7, 10, 16, 19, 23] 300 (fun _ => by kernel_rfl) ?_
    refine Hs.condT (by kernel_rfl) ?_
    refine Hs.run0 300 (fun _ => by kernel_rfl) ?_
    exact Hs.ret (v := .bool false) Tryz.func47 (by kernel_rfl) fun w' H => ⟨by rw [show (textE t) = true from ht]; rfl, H.only⟩
  refine Hs.rung0 [2, 7, 10] 300 (fun _ => by kernel_rfl) ?_
  refine Hs.bool 36 (b != 0) (by kernel_rfl) (fun hb => ?_) (fun hb => ?_)
  · refine Hs.rung0 [2, 7, 10, 16, 19, 23] 300 (fun _ => by kernel_rfl) ?_
    refine Hs.condT (by kernel_rfl) ?_
    refine Hs.run0 300 (fun _ => by kernel_rfl) ?_
    exact Hs.ret (v := .bool false) Tryz.func47 (by kernel_rfl) fun w' H => ⟨by rw [show (textE t) = false from ht]; rw [show (b != 0) = true from hb]; rfl, H.only⟩
  refine Hs.rung0 [2, 7, 10, 16, 19, 23] 300 (fun _ => by kernel_rfl) ?_
  refine Hs.condF (by kernel_rfl) ?_
  refine Hs.run0 300 (fun _ => by kernel_rfl) ?_
  refine Hs.condF (by kernel_rfl) ?_
  refine Hs.run0 300 (fun _ => by kernel_rfl) ?_
  refine Hs.condF (by kernel_rfl) ?_
  refine Hs.run0 300 (fun _ => by kernel_rfl) ?_
  refine Hs.condF (by kernel_rfl) ?_
  refine Hs.run0 300 (fun _ => by kernel_rfl) ?_
  refine Hs.condF (by kernel_rfl) ?_
  refine Hs.run0 300 (fun _ => by kernel_rfl) ?_
  refine Hs.condF (by kernel_rfl) ?_
  refine Hs.run0 300 (fun _ => by kernel_rfl) ?_
  refine Hs.condF (by kernel_rfl) ?_
  refine Hs.run0 300 (fun _ => by kernel_rfl) ?_
  refine Hs.condT (by kernel_rfl) ?_
  refine Hs.run0 300 (fun _ => by kernel_rfl) ?_
  refine Hs.callV (v := .bool (withinB a 0 3)) (fun w' H => rbetween_any _ _ _ w') (by kernel_rfl) ?_
  refine Hs.run0 300 (fun _ => by kernel_rfl) ?_
  exact Hs.ret (v := .bool (withinB a 0 3)) Tryz.func47 (by kernel_rfl) fun w' H => ⟨by rw [show (textE t) = false from ht]; rw [show (b != 0) = false from hb]; rfl, H.only⟩
set_option maxHeartbeats 4000000 in
theorem rright_8 (a b : Int) (t : ByteArray) (p q : Int) (w : World) : Calls Tryz.prog 47 #[opA ⟨8, a, b, t⟩, .int .i64 p, .int .i64 q] w (RetB (restB 8 p q ⟨8, a, b, t⟩) w) := by
  have hR : restB 8 p q ⟨8, a, b, t⟩ = (!(textE t) && (withinB a 0 4 && isS b)) := rfl
  rw [hR]
  refine Hs.enter Tryz.func47 [] [] [] [.g [.v (.int .i64 8), .v (.int .i64 a), .v (.int .i64 b), .v (.string t)], .c (.v (.int .i64 p)), .c (.v (.int .i64 q))] (Mem.start0 w) (by kernel_rfl) (by kernel_rfl) ?_
  refine Hs.run1 300 (fun _ => by kernel_rfl) fun b0 => ?_
  refine Hs.rung0 [3] 300 (fun _ => by kernel_rfl) ?_
  refine Hs.condF (by kernel_rfl) ?_
  refine Hs.run0 300 (fun _ => by kernel_rfl) ?_
  refine Hs.any [0] (by kernel_rfl) ?_
  refine Hs.run0 300 (fun _ => by kernel_rfl) ?_
  refine Hs.callV (v := .agg argsV.toArray) (fun w' H => rargs_any w') (by kernel_rfl) ?_
  refine Hs.rung0 [2] 300 (fun _ => by kernel_rfl) ?_
  refine Hs.bool 27 (textE t) (by kernel_rfl) (fun ht => ?_) (fun ht => ?_)
  · refine Hs.rung0 [2, 7, 10, 16, 19, 23] 300 (fun _ => by kernel_rfl) ?_
    refine Hs.condT (by kernel_rfl) ?_
    refine Hs.run0 300 (fun _ => by kernel_rfl) ?_
    exact Hs.ret (v := .bool false) Tryz.func47 (by kernel_rfl) fun w' H => ⟨by rw [show (textE t) = true from ht]; rfl, H.only⟩
  refine Hs.rung0 [2, 7, 10, 16, 19, 23] 300 (fun _ => by kernel_rfl) ?_
  refine Hs.condF (by kernel_rfl) ?_
  refine Hs.run0 300 (fun _ => by kernel_rfl) ?_
  refine Hs.condF (by kernel_rfl) ?_
  refine Hs.run0 300 (fun _ => by kernel_rfl) ?_
  refine Hs.condF (by kernel_rfl) ?_
  refine Hs.run0 300 (fun _ => by kernel_rfl) ?_
  refine Hs.condF (by kernel_rfl) ?_
  refine Hs.run0 300 (fun _ => by kernel_rfl) ?_
  refine Hs.condF (by kernel_rfl) ?_
  refine Hs.run0 300 (fun _ => by kernel_rfl) ?_
  refine Hs.condF (by kernel_rfl) ?_
  refine Hs.run0 300 (fun _ => by kernel_rfl) ?_
  refine Hs.condF (by kernel_rfl) ?_
  refine Hs.run0 300 (fun _ => by kernel_rfl) ?_
  refine Hs.condF (by kernel_rfl) ?_
  refine Hs.run0 300 (fun _ => by kernel_rfl) ?_
  refine Hs.condT (by kernel_rfl) ?_
  refine Hs.run0 300 (fun _ => by kernel_rfl) ?_
  refine Hs.callV (v := .bool (withinB a 0 4)) (fun w' H => rbetween_any _ _ _ w') (by kernel_rfl) ?_
  refine Hs.run0 300 (fun _ => by kernel_rfl) ?_
  refine Hs.bool 91 (withinB a 0 4) (by kernel_rfl) (fun h1 => ?_) (fun h1 => ?_)
  · refine Hs.rung0 [3] 300 (fun _ => by kernel_rfl) ?_
    refine Hs.callV (v := .bool (isS b)) (fun w' H => rsignal_any _ w') (by kernel_rfl) ?_
    refine Hs.rung0 [3] 300 (fun _ => by kernel_rfl) ?_
    exact Hs.ret (v := .bool (isS b)) Tryz.func47 (by kernel_rfl) fun w' H => ⟨by rw [show (textE t) = false from ht]; rw [h1]; rfl, H.only⟩
  · refine Hs.rung0 [3] 300 (fun _ => by kernel_rfl) ?_
    exact Hs.ret (v := .bool (false)) Tryz.func47 (by kernel_rfl) fun w' H => ⟨by rw [show (textE t) = false from ht]; rw [h1]; rfl, H.only⟩
set_option maxHeartbeats 4000000 in
theorem rright_9 (a b : Int) (t : ByteArray) (p q : Int) (w : World) : Calls Tryz.prog 47 #[opA ⟨9, a, b, t⟩, .int .i64 p, .int .i64 q] w (RetB (restB 9 p q ⟨9, a, b, t⟩) w) := by
  have hR : restB 9 p q ⟨9, a, b, t⟩ = (!(textE t) && ((!(b != 0) && (withinB a 0 2)))) := rfl
  rw [hR]
  refine Hs.enter Tryz.func47 [] [] [] [.g [.v (.int .i64 9), .v (.int .i64 a), .v (.int .i64 b), .v (.string t)], .c (.v (.int .i64 p)), .c (.v (.int .i64 q))] (Mem.start0 w) (by kernel_rfl) (by kernel_rfl) ?_
  refine Hs.run1 300 (fun _ => by kernel_rfl) fun b0 => ?_
  refine Hs.rung0 [3] 300 (fun _ => by kernel_rfl) ?_
  refine Hs.condF (by kernel_rfl) ?_
  refine Hs.run0 300 (fun _ => by kernel_rfl) ?_
  refine Hs.any [0] (by kernel_rfl) ?_
  refine Hs.run0 300 (fun _ => by kernel_rfl) ?_
  refine Hs.callV (v := .agg argsV.toArray) (fun w' H => rargs_any w') (by kernel_rfl) ?_
  refine Hs.rung0 [2] 300 (fun _ => by kernel_rfl) ?_
  refine Hs.bool 27 (textE t) (by kernel_rfl) (fun ht => ?_) (fun ht => ?_)
  · refine Hs.rung0 [2, 7, 10, 16, 19, 23] 300 (fun _ => by kernel_rfl) ?_
    refine Hs.condT (by kernel_rfl) ?_
    refine Hs.run0 300 (fun _ => by kernel_rfl) ?_
    exact Hs.ret (v := .bool false) Tryz.func47 (by kernel_rfl) fun w' H => ⟨by rw [show (textE t) = true from ht]; rfl, H.only⟩
  refine Hs.rung0 [2, 7, 10] 300 (fun _ => by kernel_rfl) ?_
  refine Hs.bool 36 (b != 0) (by kernel_rfl) (fun hb => ?_) (fun hb => ?_)
  · refine Hs.rung0 [2, 7, 10, 16, 19, 23] 300 (fun _ => by kernel_rfl) ?_
    refine Hs.condT (by kernel_rfl) ?_
    refine Hs.run0 300 (fun _ => by kernel_rfl) ?_
    exact Hs.ret (v := .bool false) Tryz.func47 (by kernel_rfl) fun w' H => ⟨by rw [show (textE t) = false from ht]; rw [show (b != 0) = true from hb]; rfl, H.only⟩
  refine Hs.rung0 [2, 7, 10, 16, 19, 23] 300 (fun _ => by kernel_rfl) ?_
  refine Hs.condF (by kernel_rfl) ?_
  refine Hs.run0 300 (fun _ => by kernel_rfl) ?_
  refine Hs.condF (by kernel_rfl) ?_
  refine Hs.run0 300 (fun _ => by kernel_rfl) ?_
  refine Hs.condF (by kernel_rfl) ?_
  refine Hs.run0 300 (fun _ => by kernel_rfl) ?_
  refine Hs.condF (by kernel_rfl) ?_
  refine Hs.run0 300 (fun _ => by kernel_rfl) ?_
  refine Hs.condF (by kernel_rfl) ?_
  refine Hs.run0 300 (fun _ => by kernel_rfl) ?_
  refine Hs.condF (by kernel_rfl) ?_
  refine Hs.run0 300 (fun _ => by kernel_rfl) ?_
  refine Hs.condF (by kernel_rfl) ?_
  refine Hs.run0 300 (fun _ => by kernel_rfl) ?_
  refine Hs.condF (by kernel_rfl) ?_
  refine Hs.run0 300 (fun _ => by kernel_rfl) ?_
  refine Hs.condF (by kernel_rfl) ?_
  refine Hs.run0 300 (fun _ => by kernel_rfl) ?_
  refine Hs.condT (by kernel_rfl) ?_
  refine Hs.run0 300 (fun _ => by kernel_rfl) ?_
  refine Hs.callV (v := .bool (withinB a 0 2)) (fun w' H => rbetween_any _ _ _ w') (by kernel_rfl) ?_
  refine Hs.run0 300 (fun _ => by kernel_rfl) ?_
  exact Hs.ret (v := .bool (withinB a 0 2)) Tryz.func47 (by kernel_rfl) fun w' H => ⟨by rw [show (textE t) = false from ht]; rw [show (b != 0) = false from hb]; rfl, H.only⟩
set_option maxHeartbeats 4000000 in
theorem rright_10 (a b : Int) (t : ByteArray) (p q : Int) (w : World) : Calls Tryz.prog 47 #[opA ⟨10, a, b, t⟩, .int .i64 p, .int .i64 q] w (RetB (restB 10 p q ⟨10, a, b, t⟩) w) := by
  have hR : restB 10 p q ⟨10, a, b, t⟩ = (!(textE t) && ((!(b != 0) && ((!(a != 0) && (true)))))) := rfl
  rw [hR]
  refine Hs.enter Tryz.func47 [] [] [] [.g [.v (.int .i64 10), .v (.int .i64 a), .v (.int .i64 b), .v (.string t)], .c (.v (.int .i64 p)), .c (.v (.int .i64 q))] (Mem.start0 w) (by kernel_rfl) (by kernel_rfl) ?_
  refine Hs.run1 300 (fun _ => by kernel_rfl) fun b0 => ?_
  refine Hs.rung0 [3] 300 (fun _ => by kernel_rfl) ?_
  refine Hs.condF (by kernel_rfl) ?_
  refine Hs.run0 300 (fun _ => by kernel_rfl) ?_
  refine Hs.any [0] (by kernel_rfl) ?_
  refine Hs.run0 300 (fun _ => by kernel_rfl) ?_
  refine Hs.callV (v := .agg argsV.toArray) (fun w' H => rargs_any w') (by kernel_rfl) ?_
  refine Hs.rung0 [2] 300 (fun _ => by kernel_rfl) ?_
  refine Hs.bool 27 (textE t) (by kernel_rfl) (fun ht => ?_) (fun ht => ?_)
  · refine Hs.rung0 [2, 7, 10, 16, 19, 23] 300 (fun _ => by kernel_rfl) ?_
    refine Hs.condT (by kernel_rfl) ?_
    refine Hs.run0 300 (fun _ => by kernel_rfl) ?_
    exact Hs.ret (v := .bool false) Tryz.func47 (by kernel_rfl) fun w' H => ⟨by rw [show (textE t) = true from ht]; rfl, H.only⟩
  refine Hs.rung0 [2, 7, 10] 300 (fun _ => by kernel_rfl) ?_
  refine Hs.bool 36 (b != 0) (by kernel_rfl) (fun hb => ?_) (fun hb => ?_)
  · refine Hs.rung0 [2, 7, 10, 16, 19, 23] 300 (fun _ => by kernel_rfl) ?_
    refine Hs.condT (by kernel_rfl) ?_
    refine Hs.run0 300 (fun _ => by kernel_rfl) ?_
    exact Hs.ret (v := .bool false) Tryz.func47 (by kernel_rfl) fun w' H => ⟨by rw [show (textE t) = false from ht]; rw [show (b != 0) = true from hb]; rfl, H.only⟩
  refine Hs.rung0 [2, 7, 10, 16, 19, 23] 300 (fun _ => by kernel_rfl) ?_
  refine Hs.cond (a != 0) (by kernel_rfl) (fun ha => ?_) (fun ha => ?_)
  · refine Hs.run0 300 (fun _ => by kernel_rfl) ?_
    exact Hs.ret (v := .bool false) Tryz.func47 (by kernel_rfl) fun w' H => ⟨by rw [show (textE t) = false from ht]; rw [show (b != 0) = false from hb]; rw [show (a != 0) = true from ha]; rfl, H.only⟩
  refine Hs.run0 300 (fun _ => by kernel_rfl) ?_
  refine Hs.condF (by kernel_rfl) ?_
  refine Hs.run0 300 (fun _ => by kernel_rfl) ?_
  refine Hs.condF (by kernel_rfl) ?_
  refine Hs.run0 300 (fun _ => by kernel_rfl) ?_
  refine Hs.condF (by kernel_rfl) ?_
  refine Hs.run0 300 (fun _ => by kernel_rfl) ?_
  refine Hs.condF (by kernel_rfl) ?_
  refine Hs.run0 300 (fun _ => by kernel_rfl) ?_
  refine Hs.condF (by kernel_rfl) ?_
  refine Hs.run0 300 (fun _ => by kernel_rfl) ?_
  refine Hs.condF (by kernel_rfl) ?_
  refine Hs.run0 300 (fun _ => by kernel_rfl) ?_
  refine Hs.condF (by kernel_rfl) ?_
  refine Hs.run0 300 (fun _ => by kernel_rfl) ?_
  refine Hs.condF (by kernel_rfl) ?_
  refine Hs.run0 300 (fun _ => by kernel_rfl) ?_
  refine Hs.condF (by kernel_rfl) ?_
  refine Hs.run0 300 (fun _ => by kernel_rfl) ?_
  refine Hs.condF (by kernel_rfl) ?_
  refine Hs.run0 300 (fun _ => by kernel_rfl) ?_
  refine Hs.condF (by kernel_rfl) ?_
  refine Hs.run0 300 (fun _ => by kernel_rfl) ?_
  refine Hs.condF (by kernel_rfl) ?_
  refine Hs.run0 300 (fun _ => by kernel_rfl) ?_
  refine Hs.condF (by kernel_rfl) ?_
  refine Hs.run0 300 (fun _ => by kernel_rfl) ?_
  refine Hs.condF (by kernel_rfl) ?_
  refine Hs.run0 300 (fun _ => by kernel_rfl) ?_
  exact Hs.ret (v := .bool (true)) Tryz.func47 (by kernel_rfl) fun w' H => ⟨by rw [show (textE t) = false from ht]; rw [show (b != 0) = false from hb]; rw [show (a != 0) = false from ha]; rfl, H.only⟩
set_option maxHeartbeats 4000000 in
theorem rright_11 (a b : Int) (t : ByteArray) (p q : Int) (w : World) : Calls Tryz.prog 47 #[opA ⟨11, a, b, t⟩, .int .i64 p, .int .i64 q] w (RetB (restB 11 p q ⟨11, a, b, t⟩) w) := by
  have hR : restB 11 p q ⟨11, a, b, t⟩ = (!(textE t) && ((!(b != 0) && (withinB a 0 1)))) := rfl
  rw [hR]
  refine Hs.enter Tryz.func47 [] [] [] [.g [.v (.int .i64 11), .v (.int .i64 a), .v (.int .i64 b), .v (.string t)], .c (.v (.int .i64 p)), .c (.v (.int .i64 q))] (Mem.start0 w) (by kernel_rfl) (by kernel_rfl) ?_
  refine Hs.run1 300 (fun _ => by kernel_rfl) fun b0 => ?_
  refine Hs.rung0 [3] 300 (fun _ => by kernel_rfl) ?_
  refine Hs.condF (by kernel_rfl) ?_
  refine Hs.run0 300 (fun _ => by kernel_rfl) ?_
  refine Hs.any [0] (by kernel_rfl) ?_
  refine Hs.run0 300 (fun _ => by kernel_rfl) ?_
  refine Hs.callV (v := .agg argsV.toArray) (fun w' H => rargs_any w') (by kernel_rfl) ?_
  refine Hs.rung0 [2] 300 (fun _ => by kernel_rfl) ?_
  refine Hs.bool 27 (textE t) (by kernel_rfl) (fun ht => ?_) (fun ht => ?_)
  · refine Hs.rung0 [2, 7, 10, 16, 19, 23] 300 (fun _ => by kernel_rfl) ?_
    refine Hs.condT (by kernel_rfl) ?_
    refine Hs.run0 300 (fun _ => by kernel_rfl) ?_
    exact Hs.ret (v := .bool false) Tryz.func47 (by kernel_rfl) fun w' H => ⟨by rw [show (textE t) = true from ht]; rfl, H.only⟩
  refine Hs.rung0 [2, 7, 10] 300 (fun _ => by kernel_rfl) ?_
  refine Hs.bool 36 (b != 0) (by kernel_rfl) (fun hb => ?_) (fun hb => ?_)
  · refine Hs.rung0 [2, 7, 10, 16, 19, 23] 300 (fun _ => by kernel_rfl) ?_
    refine Hs.condT (by kernel_rfl) ?_
    refine Hs.run0 300 (fun _ => by kernel_rfl) ?_
    exact Hs.ret (v := .bool false) Tryz.func47 (by kernel_rfl) fun w' H => ⟨by rw [show (textE t) = false from ht]; rw [show (b != 0) = true from hb]; rfl, H.only⟩
  refine Hs.rung0 [2, 7, 10, 16, 19, 23] 300 (fun _ => by kernel_rfl) ?_
  refine Hs.condF (by kernel_rfl) ?_
  refine Hs.run0 300 (fun _ => by kernel_rfl) ?_
  refine Hs.condF (by kernel_rfl) ?_
  refine Hs.run0 300 (fun _ => by kernel_rfl) ?_
  refine Hs.condF (by kernel_rfl) ?_
  refine Hs.run0 300 (fun _ => by kernel_rfl) ?_
  refine Hs.condF (by kernel_rfl) ?_
  refine Hs.run0 300 (fun _ => by kernel_rfl) ?_
  refine Hs.condF (by kernel_rfl) ?_
  refine Hs.run0 300 (fun _ => by kernel_rfl) ?_
  refine Hs.condF (by kernel_rfl) ?_
  refine Hs.run0 300 (fun _ => by kernel_rfl) ?_
  refine Hs.condF (by kernel_rfl) ?_
  refine Hs.run0 300 (fun _ => by kernel_rfl) ?_
  refine Hs.condF (by kernel_rfl) ?_
  refine Hs.run0 300 (fun _ => by kernel_rfl) ?_
  refine Hs.condF (by kernel_rfl) ?_
  refine Hs.run0 300 (fun _ => by kernel_rfl) ?_
  refine Hs.condF (by kernel_rfl) ?_
  refine Hs.run0 300 (fun _ => by kernel_rfl) ?_
  refine Hs.condT (by kernel_rfl) ?_
  refine Hs.run0 300 (fun _ => by kernel_rfl) ?_
  refine Hs.callV (v := .bool (withinB a 0 1)) (fun w' H => rbetween_any _ _ _ w') (by kernel_rfl) ?_
  refine Hs.run0 300 (fun _ => by kernel_rfl) ?_
  exact Hs.ret (v := .bool (withinB a 0 1)) Tryz.func47 (by kernel_rfl) fun w' H => ⟨by rw [show (textE t) = false from ht]; rw [show (b != 0) = false from hb]; rfl, H.only⟩
set_option maxHeartbeats 4000000 in
theorem rright_12 (a b : Int) (t : ByteArray) (p q : Int) (w : World) : Calls Tryz.prog 47 #[opA ⟨12, a, b, t⟩, .int .i64 p, .int .i64 q] w (RetB (restB 12 p q ⟨12, a, b, t⟩) w) := by
  have hR : restB 12 p q ⟨12, a, b, t⟩ = (!(textE t) && (actOk a b)) := rfl
  rw [hR]
  refine Hs.enter Tryz.func47 [] [] [] [.g [.v (.int .i64 12), .v (.int .i64 a), .v (.int .i64 b), .v (.string t)], .c (.v (.int .i64 p)), .c (.v (.int .i64 q))] (Mem.start0 w) (by kernel_rfl) (by kernel_rfl) ?_
  refine Hs.run1 300 (fun _ => by kernel_rfl) fun b0 => ?_
  refine Hs.rung0 [3] 300 (fun _ => by kernel_rfl) ?_
  refine Hs.condF (by kernel_rfl) ?_
  refine Hs.run0 300 (fun _ => by kernel_rfl) ?_
  refine Hs.any [0] (by kernel_rfl) ?_
  refine Hs.run0 300 (fun _ => by kernel_rfl) ?_
  refine Hs.callV (v := .agg argsV.toArray) (fun w' H => rargs_any w') (by kernel_rfl) ?_
  refine Hs.rung0 [2] 300 (fun _ => by kernel_rfl) ?_
  refine Hs.bool 27 (textE t) (by kernel_rfl) (fun ht => ?_) (fun ht => ?_)
  · refine Hs.rung0 [2, 7, 10, 16, 19, 23] 300 (fun _ => by kernel_rfl) ?_
    refine Hs.condT (by kernel_rfl) ?_
    refine Hs.run0 300 (fun _ => by kernel_rfl) ?_
    exact Hs.ret (v := .bool false) Tryz.func47 (by kernel_rfl) fun w' H => ⟨by rw [show (textE t) = true from ht]; rfl, H.only⟩
  refine Hs.rung0 [2, 7, 10, 16, 19, 23] 300 (fun _ => by kernel_rfl) ?_
  refine Hs.condF (by kernel_rfl) ?_
  refine Hs.run0 300 (fun _ => by kernel_rfl) ?_
  refine Hs.condF (by kernel_rfl) ?_
  refine Hs.run0 300 (fun _ => by kernel_rfl) ?_
  refine Hs.condF (by kernel_rfl) ?_
  refine Hs.run0 300 (fun _ => by kernel_rfl) ?_
  refine Hs.condF (by kernel_rfl) ?_
  refine Hs.run0 300 (fun _ => by kernel_rfl) ?_
  refine Hs.condF (by kernel_rfl) ?_
  refine Hs.run0 300 (fun _ => by kernel_rfl) ?_
  refine Hs.condF (by kernel_rfl) ?_
  refine Hs.run0 300 (fun _ => by kernel_rfl) ?_
  refine Hs.condF (by kernel_rfl) ?_
  refine Hs.run0 300 (fun _ => by kernel_rfl) ?_
  refine Hs.condF (by kernel_rfl) ?_
  refine Hs.run0 300 (fun _ => by kernel_rfl) ?_
  refine Hs.condF (by kernel_rfl) ?_
  refine Hs.run0 300 (fun _ => by kernel_rfl) ?_
  refine Hs.condF (by kernel_rfl) ?_
  refine Hs.run0 300 (fun _ => by kernel_rfl) ?_
  refine Hs.condF (by kernel_rfl) ?_
  refine Hs.run0 300 (fun _ => by kernel_rfl) ?_
  refine Hs.condT (by kernel_rfl) ?_
  refine Hs.run0 300 (fun _ => by kernel_rfl) ?_
  refine Hs.callV (v := .bool (isS a)) (fun w' H => rsignal_any _ w') (by kernel_rfl) ?_
  refine Hs.run0 300 (fun _ => by kernel_rfl) ?_
  refine Hs.bool 111 (isS a) (by kernel_rfl) (fun h1 => ?_) (fun h1 => ?_)
  · refine Hs.rung0 [3] 300 (fun _ => by kernel_rfl) ?_
    refine Hs.bool 116 (!decide (a = 9)) (by kernel_rfl) (fun h2 => ?_) (fun h2 => ?_)
    · have h2 : ¬ a = 9 := by simpa using h2
      refine Hs.rung0 [3, 8] 300 (fun _ => by kernel_rfl) ?_
      refine Hs.bool 121 (!decide (a = 19)) (by kernel_rfl) (fun h3 => ?_) (fun h3 => ?_)
      · have h3 : ¬ a = 19 := by simpa using h3
        have hs : sureB a = false := by unfold sureB; rw [decide_eq_false h2, decide_eq_false h3]; rfl
        refine Hs.rung0 [3, 8, 13] 300 (fun _ => by kernel_rfl) ?_
        refine Hs.callV (v := .bool (withinB b 0 2)) (fun w' H => rbetween_any _ _ _ w') (by kernel_rfl) ?_
        refine Hs.rung0 [3, 8, 13] 300 (fun _ => by kernel_rfl) ?_
        exact Hs.ret (v := .bool (withinB b 0 2)) Tryz.func47 (by kernel_rfl) fun w' H => ⟨by rw [show (textE t) = false from ht]; unfold actOk; rw [h1, hs]; rfl, H.only⟩
      · have h3 : a = 19 := by simpa using h3
        have hs : sureB a = true := by unfold sureB; rw [h3]; rfl
        refine Hs.rung0 [3, 8, 13] 300 (fun _ => by kernel_rfl) ?_
        exact Hs.ret (v := .bool (false)) Tryz.func47 (by kernel_rfl) fun w' H => ⟨by rw [show (textE t) = false from ht]; unfold actOk; rw [h1, hs]; rfl, H.only⟩
    · have h2 : a = 9 := by simpa using h2
      have hs : sureB a = true := by unfold sureB; rw [h2]; rfl
      refine Hs.rung0 [3, 8, 13] 300 (fun _ => by kernel_rfl) ?_
      exact Hs.ret (v := .bool (false)) Tryz.func47 (by kernel_rfl) fun w' H => ⟨by rw [show (textE t) = false from ht]; unfold actOk; rw [h1, hs]; rfl, H.only⟩
  · refine Hs.rung0 [3, 8, 13] 300 (fun _ => by kernel_rfl) ?_
    exact Hs.ret (v := .bool (false)) Tryz.func47 (by kernel_rfl) fun w' H => ⟨by rw [show (textE t) = false from ht]; unfold actOk; rw [h1]; rfl, H.only⟩
set_option maxHeartbeats 4000000 in
theorem rright_13 (a b : Int) (t : ByteArray) (p q : Int) (w : World) : Calls Tryz.prog 47 #[opA ⟨13, a, b, t⟩, .int .i64 p, .int .i64 q] w (RetB (restB 13 p q ⟨13, a, b, t⟩) w) := by
  have hR : restB 13 p q ⟨13, a, b, t⟩ = (!(textE t) && (isS a && withinB b 0 1)) := rfl
  rw [hR]
  refine Hs.enter Tryz.func47 [] [] [] [.g [.v (.int .i64 13), .v (.int .i64 a), .v (.int .i64 b), .v (.string t)], .c (.v (.int .i64 p)), .c (.v (.int .i64 q))] (Mem.start0 w) (by kernel_rfl) (by kernel_rfl) ?_
  refine Hs.run1 300 (fun _ => by kernel_rfl) fun b0 => ?_
  refine Hs.rung0 [3] 300 (fun _ => by kernel_rfl) ?_
  refine Hs.condF (by kernel_rfl) ?_
  refine Hs.run0 300 (fun _ => by kernel_rfl) ?_
  refine Hs.any [0] (by kernel_rfl) ?_
  refine Hs.run0 300 (fun _ => by kernel_rfl) ?_
  refine Hs.callV (v := .agg argsV.toArray) (fun w' H => rargs_any w') (by kernel_rfl) ?_
  refine Hs.rung0 [2] 300 (fun _ => by kernel_rfl) ?_
  refine Hs.bool 27 (textE t) (by kernel_rfl) (fun ht => ?_) (fun ht => ?_)
  · refine Hs.rung0 [2, 7, 10, 16, 19, 23] 300 (fun _ => by kernel_rfl) ?_
    refine Hs.condT (by kernel_rfl) ?_
    refine Hs.run0 300 (fun _ => by kernel_rfl) ?_
    exact Hs.ret (v := .bool false) Tryz.func47 (by kernel_rfl) fun w' H => ⟨by rw [show (textE t) = true from ht]; rfl, H.only⟩
  refine Hs.rung0 [2, 7, 10, 16, 19, 23] 300 (fun _ => by kernel_rfl) ?_
  refine Hs.condF (by kernel_rfl) ?_
  refine Hs.run0 300 (fun _ => by kernel_rfl) ?_
  refine Hs.condF (by kernel_rfl) ?_
  refine Hs.run0 300 (fun _ => by kernel_rfl) ?_
  refine Hs.condF (by kernel_rfl) ?_
  refine Hs.run0 300 (fun _ => by kernel_rfl) ?_
  refine Hs.condF (by kernel_rfl) ?_
  refine Hs.run0 300 (fun _ => by kernel_rfl) ?_
  refine Hs.condF (by kernel_rfl) ?_
  refine Hs.run0 300 (fun _ => by kernel_rfl) ?_
  refine Hs.condF (by kernel_rfl) ?_
  refine Hs.run0 300 (fun _ => by kernel_rfl) ?_
  refine Hs.condF (by kernel_rfl) ?_
  refine Hs.run0 300 (fun _ => by kernel_rfl) ?_
  refine Hs.condF (by kernel_rfl) ?_
  refine Hs.run0 300 (fun _ => by kernel_rfl) ?_
  refine Hs.condF (by kernel_rfl) ?_
  refine Hs.run0 300 (fun _ => by kernel_rfl) ?_
  refine Hs.condF (by kernel_rfl) ?_
  refine Hs.run0 300 (fun _ => by kernel_rfl) ?_
  refine Hs.condF (by kernel_rfl) ?_
  refine Hs.run0 300 (fun _ => by kernel_rfl) ?_
  refine Hs.condF (by kernel_rfl) ?_
  refine Hs.run0 300 (fun _ => by kernel_rfl) ?_
  refine Hs.condT (by kernel_rfl) ?_
  refine Hs.run0 300 (fun _ => by kernel_rfl) ?_
  refine Hs.callV (v := .bool (isS a)) (fun w' H => rsignal_any _ w') (by kernel_rfl) ?_
  refine Hs.run0 300 (fun _ => by kernel_rfl) ?_
  refine Hs.bool 131 (isS a) (by kernel_rfl) (fun h1 => ?_) (fun h1 => ?_)
  · refine Hs.rung0 [3] 300 (fun _ => by kernel_rfl) ?_
    refine Hs.callV (v := .bool (withinB b 0 1)) (fun w' H => rbetween_any _ _ _ w') (by kernel_rfl) ?_
    refine Hs.rung0 [3] 300 (fun _ => by kernel_rfl) ?_
    exact Hs.ret (v := .bool (withinB b 0 1)) Tryz.func47 (by kernel_rfl) fun w' H => ⟨by rw [show (textE t) = false from ht]; rw [h1]; rfl, H.only⟩
  · refine Hs.rung0 [3] 300 (fun _ => by kernel_rfl) ?_
    exact Hs.ret (v := .bool (false)) Tryz.func47 (by kernel_rfl) fun w' H => ⟨by rw [show (textE t) = false from ht]; rw [h1]; rfl, H.only⟩
set_option maxHeartbeats 4000000 in
theorem rright_14 (a b : Int) (t : ByteArray) (p q : Int) (w : World) : Calls Tryz.prog 47 #[opA ⟨14, a, b, t⟩, .int .i64 p, .int .i64 q] w (RetB (restB 14 p q ⟨14, a, b, t⟩) w) := by
  have hR : restB 14 p q ⟨14, a, b, t⟩ = (!(textE t) && ((!(b != 0) && (withinB a 0 1000)))) := rfl
  rw [hR]
  refine Hs.enter Tryz.func47 [] [] [] [.g [.v (.int .i64 14), .v (.int .i64 a), .v (.int .i64 b), .v (.string t)], .c (.v (.int .i64 p)), .c (.v (.int .i64 q))] (Mem.start0 w) (by kernel_rfl) (by kernel_rfl) ?_
  refine Hs.run1 300 (fun _ => by kernel_rfl) fun b0 => ?_
  refine Hs.rung0 [3] 300 (fun _ => by kernel_rfl) ?_
  refine Hs.condF (by kernel_rfl) ?_
  refine Hs.run0 300 (fun _ => by kernel_rfl) ?_
  refine Hs.any [0] (by kernel_rfl) ?_
  refine Hs.run0 300 (fun _ => by kernel_rfl) ?_
  refine Hs.callV (v := .agg argsV.toArray) (fun w' H => rargs_any w') (by kernel_rfl) ?_
  refine Hs.rung0 [2] 300 (fun _ => by kernel_rfl) ?_
  refine Hs.bool 27 (textE t) (by kernel_rfl) (fun ht => ?_) (fun ht => ?_)
  · refine Hs.rung0 [2, 7, 10, 16, 19, 23] 300 (fun _ => by kernel_rfl) ?_
    refine Hs.condT (by kernel_rfl) ?_
    refine Hs.run0 300 (fun _ => by kernel_rfl) ?_
    exact Hs.ret (v := .bool false) Tryz.func47 (by kernel_rfl) fun w' H => ⟨by rw [show (textE t) = true from ht]; rfl, H.only⟩
  refine Hs.rung0 [2, 7, 10] 300 (fun _ => by kernel_rfl) ?_
  refine Hs.bool 36 (b != 0) (by kernel_rfl) (fun hb => ?_) (fun hb => ?_)
  · refine Hs.rung0 [2, 7, 10, 16, 19, 23] 300 (fun _ => by kernel_rfl) ?_
    refine Hs.condT (by kernel_rfl) ?_
    refine Hs.run0 300 (fun _ => by kernel_rfl) ?_
    exact Hs.ret (v := .bool false) Tryz.func47 (by kernel_rfl) fun w' H => ⟨by rw [show (textE t) = false from ht]; rw [show (b != 0) = true from hb]; rfl, H.only⟩
  refine Hs.rung0 [2, 7, 10, 16, 19, 23] 300 (fun _ => by kernel_rfl) ?_
  refine Hs.condF (by kernel_rfl) ?_
  refine Hs.run0 300 (fun _ => by kernel_rfl) ?_
  refine Hs.condF (by kernel_rfl) ?_
  refine Hs.run0 300 (fun _ => by kernel_rfl) ?_
  refine Hs.condF (by kernel_rfl) ?_
  refine Hs.run0 300 (fun _ => by kernel_rfl) ?_
  refine Hs.condF (by kernel_rfl) ?_
  refine Hs.run0 300 (fun _ => by kernel_rfl) ?_
  refine Hs.condF (by kernel_rfl) ?_
  refine Hs.run0 300 (fun _ => by kernel_rfl) ?_
  refine Hs.condF (by kernel_rfl) ?_
  refine Hs.run0 300 (fun _ => by kernel_rfl) ?_
  refine Hs.condF (by kernel_rfl) ?_
  refine Hs.run0 300 (fun _ => by kernel_rfl) ?_
  refine Hs.condF (by kernel_rfl) ?_
  refine Hs.run0 300 (fun _ => by kernel_rfl) ?_
  refine Hs.condF (by kernel_rfl) ?_
  refine Hs.run0 300 (fun _ => by kernel_rfl) ?_
  refine Hs.condF (by kernel_rfl) ?_
  refine Hs.run0 300 (fun _ => by kernel_rfl) ?_
  refine Hs.condF (by kernel_rfl) ?_
  refine Hs.run0 300 (fun _ => by kernel_rfl) ?_
  refine Hs.condF (by kernel_rfl) ?_
  refine Hs.run0 300 (fun _ => by kernel_rfl) ?_
  refine Hs.condF (by kernel_rfl) ?_
  refine Hs.run0 300 (fun _ => by kernel_rfl) ?_
  refine Hs.condT (by kernel_rfl) ?_
  refine Hs.run0 300 (fun _ => by kernel_rfl) ?_
  refine Hs.callV (v := .bool (withinB a 0 1000)) (fun w' H => rbetween_any _ _ _ w') (by kernel_rfl) ?_
  refine Hs.run0 300 (fun _ => by kernel_rfl) ?_
  exact Hs.ret (v := .bool (withinB a 0 1000)) Tryz.func47 (by kernel_rfl) fun w' H => ⟨by rw [show (textE t) = false from ht]; rw [show (b != 0) = false from hb]; rfl, H.only⟩
set_option maxHeartbeats 4000000 in
theorem rright_15 (a b : Int) (t : ByteArray) (p q : Int) (w : World) : Calls Tryz.prog 47 #[opA ⟨15, a, b, t⟩, .int .i64 p, .int .i64 q] w (RetB (restB 15 p q ⟨15, a, b, t⟩) w) := by
  have hR : restB 15 p q ⟨15, a, b, t⟩ = (!(textE t) && (isFlagB a && withinB b 0 1)) := rfl
  rw [hR]
  refine Hs.enter Tryz.func47 [] [] [] [.g [.v (.int .i64 15), .v (.int .i64 a), .v (.int .i64 b), .v (.string t)], .c (.v (.int .i64 p)), .c (.v (.int .i64 q))] (Mem.start0 w) (by kernel_rfl) (by kernel_rfl) ?_
  refine Hs.run1 300 (fun _ => by kernel_rfl) fun b0 => ?_
  refine Hs.rung0 [3] 300 (fun _ => by kernel_rfl) ?_
  refine Hs.condF (by kernel_rfl) ?_
  refine Hs.run0 300 (fun _ => by kernel_rfl) ?_
  refine Hs.any [0] (by kernel_rfl) ?_
  refine Hs.run0 300 (fun _ => by kernel_rfl) ?_
  refine Hs.callV (v := .agg argsV.toArray) (fun w' H => rargs_any w') (by kernel_rfl) ?_
  refine Hs.rung0 [2] 300 (fun _ => by kernel_rfl) ?_
  refine Hs.bool 27 (textE t) (by kernel_rfl) (fun ht => ?_) (fun ht => ?_)
  · refine Hs.rung0 [2, 7, 10, 16, 19, 23] 300 (fun _ => by kernel_rfl) ?_
    refine Hs.condT (by kernel_rfl) ?_
    refine Hs.run0 300 (fun _ => by kernel_rfl) ?_
    exact Hs.ret (v := .bool false) Tryz.func47 (by kernel_rfl) fun w' H => ⟨by rw [show (textE t) = true from ht]; rfl, H.only⟩
  refine Hs.rung0 [2, 7, 10, 16, 19, 23] 300 (fun _ => by kernel_rfl) ?_
  refine Hs.condF (by kernel_rfl) ?_
  refine Hs.run0 300 (fun _ => by kernel_rfl) ?_
  refine Hs.condF (by kernel_rfl) ?_
  refine Hs.run0 300 (fun _ => by kernel_rfl) ?_
  refine Hs.condF (by kernel_rfl) ?_
  refine Hs.run0 300 (fun _ => by kernel_rfl) ?_
  refine Hs.condF (by kernel_rfl) ?_
  refine Hs.run0 300 (fun _ => by kernel_rfl) ?_
  refine Hs.condF (by kernel_rfl) ?_
  refine Hs.run0 300 (fun _ => by kernel_rfl) ?_
  refine Hs.condF (by kernel_rfl) ?_
  refine Hs.run0 300 (fun _ => by kernel_rfl) ?_
  refine Hs.condF (by kernel_rfl) ?_
  refine Hs.run0 300 (fun _ => by kernel_rfl) ?_
  refine Hs.condF (by kernel_rfl) ?_
  refine Hs.run0 300 (fun _ => by kernel_rfl) ?_
  refine Hs.condF (by kernel_rfl) ?_
  refine Hs.run0 300 (fun _ => by kernel_rfl) ?_
  refine Hs.condF (by kernel_rfl) ?_
  refine Hs.run0 300 (fun _ => by kernel_rfl) ?_
  refine Hs.condF (by kernel_rfl) ?_
  refine Hs.run0 300 (fun _ => by kernel_rfl) ?_
  refine Hs.condF (by kernel_rfl) ?_
  refine Hs.run0 300 (fun _ => by kernel_rfl) ?_
  refine Hs.condF (by kernel_rfl) ?_
  refine Hs.run0 300 (fun _ => by kernel_rfl) ?_
  refine Hs.condF (by kernel_rfl) ?_
  refine Hs.run0 300 (fun _ => by kernel_rfl) ?_
  refine Hs.condT (by kernel_rfl) ?_
  refine Hs.run0 300 (fun _ => by kernel_rfl) ?_
  refine Hs.callV (v := .bool (isFlagB a)) (fun w' H => r8flag_any _ w') (by kernel_rfl) ?_
  refine Hs.run0 300 (fun _ => by kernel_rfl) ?_
  refine Hs.bool 146 (isFlagB a) (by kernel_rfl) (fun h1 => ?_) (fun h1 => ?_)
  · refine Hs.rung0 [3] 300 (fun _ => by kernel_rfl) ?_
    refine Hs.callV (v := .bool (withinB b 0 1)) (fun w' H => rbetween_any _ _ _ w') (by kernel_rfl) ?_
    refine Hs.rung0 [3] 300 (fun _ => by kernel_rfl) ?_
    exact Hs.ret (v := .bool (withinB b 0 1)) Tryz.func47 (by kernel_rfl) fun w' H => ⟨by rw [show (textE t) = false from ht]; rw [h1]; rfl, H.only⟩
  · refine Hs.rung0 [3] 300 (fun _ => by kernel_rfl) ?_
    exact Hs.ret (v := .bool (false)) Tryz.func47 (by kernel_rfl) fun w' H => ⟨by rw [show (textE t) = false from ht]; rw [h1]; rfl, H.only⟩
set_option maxHeartbeats 4000000 in
theorem rright_16 (a b : Int) (t : ByteArray) (p q : Int) (w : World) : Calls Tryz.prog 47 #[opA ⟨16, a, b, t⟩, .int .i64 p, .int .i64 q] w (RetB (restB 16 p q ⟨16, a, b, t⟩) w) := by
  have hR : restB 16 p q ⟨16, a, b, t⟩ = (!(textE t) && ((!(b != 0) && ((!(a != 0) && (true)))))) := rfl
  rw [hR]
  refine Hs.enter Tryz.func47 [] [] [] [.g [.v (.int .i64 16), .v (.int .i64 a), .v (.int .i64 b), .v (.string t)], .c (.v (.int .i64 p)), .c (.v (.int .i64 q))] (Mem.start0 w) (by kernel_rfl) (by kernel_rfl) ?_
  refine Hs.run1 300 (fun _ => by kernel_rfl) fun b0 => ?_
  refine Hs.rung0 [3] 300 (fun _ => by kernel_rfl) ?_
  refine Hs.condF (by kernel_rfl) ?_
  refine Hs.run0 300 (fun _ => by kernel_rfl) ?_
  refine Hs.any [0] (by kernel_rfl) ?_
  refine Hs.run0 300 (fun _ => by kernel_rfl) ?_
  refine Hs.callV (v := .agg argsV.toArray) (fun w' H => rargs_any w') (by kernel_rfl) ?_
  refine Hs.rung0 [2] 300 (fun _ => by kernel_rfl) ?_
  refine Hs.bool 27 (textE t) (by kernel_rfl) (fun ht => ?_) (fun ht => ?_)
  · refine Hs.rung0 [2, 7, 10, 16, 19, 23] 300 (fun _ => by kernel_rfl) ?_
    refine Hs.condT (by kernel_rfl) ?_
    refine Hs.run0 300 (fun _ => by kernel_rfl) ?_
    exact Hs.ret (v := .bool false) Tryz.func47 (by kernel_rfl) fun w' H => ⟨by rw [show (textE t) = true from ht]; rfl, H.only⟩
  refine Hs.rung0 [2, 7, 10] 300 (fun _ => by kernel_rfl) ?_
  refine Hs.bool 36 (b != 0) (by kernel_rfl) (fun hb => ?_) (fun hb => ?_)
  · refine Hs.rung0 [2, 7, 10, 16, 19, 23] 300 (fun _ => by kernel_rfl) ?_
    refine Hs.condT (by kernel_rfl) ?_
    refine Hs.run0 300 (fun _ => by kernel_rfl) ?_
    exact Hs.ret (v := .bool false) Tryz.func47 (by kernel_rfl) fun w' H => ⟨by rw [show (textE t) = false from ht]; rw [show (b != 0) = true from hb]; rfl, H.only⟩
  refine Hs.rung0 [2, 7, 10, 16, 19, 23] 300 (fun _ => by kernel_rfl) ?_
  refine Hs.cond (a != 0) (by kernel_rfl) (fun ha => ?_) (fun ha => ?_)
  · refine Hs.run0 300 (fun _ => by kernel_rfl) ?_
    exact Hs.ret (v := .bool false) Tryz.func47 (by kernel_rfl) fun w' H => ⟨by rw [show (textE t) = false from ht]; rw [show (b != 0) = false from hb]; rw [show (a != 0) = true from ha]; rfl, H.only⟩
  refine Hs.run0 300 (fun _ => by kernel_rfl) ?_
  refine Hs.condF (by kernel_rfl) ?_
  refine Hs.run0 300 (fun _ => by kernel_rfl) ?_
  refine Hs.condF (by kernel_rfl) ?_
  refine Hs.run0 300 (fun _ => by kernel_rfl) ?_
  refine Hs.condF (by kernel_rfl) ?_
  refine Hs.run0 300 (fun _ => by kernel_rfl) ?_
  refine Hs.condF (by kernel_rfl) ?_
  refine Hs.run0 300 (fun _ => by kernel_rfl) ?_
  refine Hs.condF (by kernel_rfl) ?_
  refine Hs.run0 300 (fun _ => by kernel_rfl) ?_
  refine Hs.condF (by kernel_rfl) ?_
  refine Hs.run0 300 (fun _ => by kernel_rfl) ?_
  refine Hs.condF (by kernel_rfl) ?_
  refine Hs.run0 300 (fun _ => by kernel_rfl) ?_
  refine Hs.condF (by kernel_rfl) ?_
  refine Hs.run0 300 (fun _ => by kernel_rfl) ?_
  refine Hs.condF (by kernel_rfl) ?_
  refine Hs.run0 300 (fun _ => by kernel_rfl) ?_
  refine Hs.condF (by kernel_rfl) ?_
  refine Hs.run0 300 (fun _ => by kernel_rfl) ?_
  refine Hs.condF (by kernel_rfl) ?_
  refine Hs.run0 300 (fun _ => by kernel_rfl) ?_
  refine Hs.condF (by kernel_rfl) ?_
  refine Hs.run0 300 (fun _ => by kernel_rfl) ?_
  refine Hs.condF (by kernel_rfl) ?_
  refine Hs.run0 300 (fun _ => by kernel_rfl) ?_
  refine Hs.condF (by kernel_rfl) ?_
  refine Hs.run0 300 (fun _ => by kernel_rfl) ?_
  exact Hs.ret (v := .bool (true)) Tryz.func47 (by kernel_rfl) fun w' H => ⟨by rw [show (textE t) = false from ht]; rw [show (b != 0) = false from hb]; rw [show (a != 0) = false from ha]; rfl, H.only⟩
theorem rright_any (o : OP9) (p q : Int) (w : World) : Calls Tryz.prog 47 #[opA o, .int .i64 p, .int .i64 q] w (RetB (rightB o p q) w) := by
  cases h : withinB o.k 1 16 with
  | false =>
    have e : rightB o p q = false := by unfold rightB; rw [h]; rfl
    rw [e]
    exact rright_out o p q h w
  | true =>
    have e : rightB o p q = restB o.k.toNat p q o := by unfold rightB; rw [h]; rfl
    rw [e]
    obtain ⟨k, a, b, t⟩ := o
    have h2 : 1 ≤ k ∧ k ≤ 16 := by simpa [withinB] using h
    obtain ⟨n, rfl⟩ : ∃ n : Nat, k = n := ⟨k.toNat, by omega⟩
    have h3 : n = 1 ∨ n = 2 ∨ n = 3 ∨ n = 4 ∨ n = 5 ∨ n = 6 ∨ n = 7 ∨ n = 8 ∨ n = 9 ∨ n = 10 ∨ n = 11 ∨ n = 12 ∨ n = 13 ∨ n = 14 ∨ n = 15 ∨ n = 16 := by omega
    rcases h3 with rfl | rfl | rfl | rfl | rfl | rfl | rfl | rfl | rfl | rfl | rfl | rfl | rfl | rfl | rfl | rfl
    · exact rright_1 a b t p q w
    · exact rright_2 a b t p q w
    · exact rright_3 a b t p q w
    · exact rright_4 a b t p q w
    · exact rright_5 a b t p q w
    · exact rright_6 a b t p q w
    · exact rright_7 a b t p q w
    · exact rright_8 a b t p q w
    · exact rright_9 a b t p q w
    · exact rright_10 a b t p q w
    · exact rright_11 a b t p q w
    · exact rright_12 a b t p q w
    · exact rright_13 a b t p q w
    · exact rright_14 a b t p q w
    · exact rright_15 a b t p q w
    · exact rright_16 a b t p q w
end Go.Proofs.YtmmcamkmglpgiaaGreatDoor

namespace Go.Proofs.YtmmcamkmglpgiaaGreatDoor
open Go.RowKit
set_option linter.all false
set_option maxRecDepth 100000
/-- The first place of a name. -/
def fstI (n : ByteArray) : List ByteArray → Nat → Int × Bool
  | [], _ => (0, false)
  | a :: l, i => match a.toList == n.toList with
    | true => ((i : Int), true)
    | false => fstI n l (i + 1)
theorem fstI_cons (n a : ByteArray) (l : List ByteArray) (i : Nat) : fstI n (a :: l) i = match a.toList == n.toList with
    | true => ((i : Int), true)
    | false => fstI n l (i + 1) := rfl
theorem toL_eq (a b : ByteArray) : (a.toList == b.toList) = decide (a = b) := by
  rw [ByteArray.toList_eq, ByteArray.toList_eq]
  by_cases h : a = b
  · rw [h]; simp
  · rw [decide_eq_false h, beq_eq_false_iff_ne]
    exact fun e => h (bytes_extS e)
theorem fst_no {n : ByteArray} : ∀ {a : List ByteArray} {b : List ByteArray} {i : Nat}, hasN n a = false → fstI n (a ++ n :: b) i = (((i + a.length : Nat) : Int), true)
  | [], b, i, _ => by
    rw [List.nil_append, fstI_cons, toL_eq, decide_eq_true rfl]
    rfl
  | x :: a, b, i, h => by
    have h2 : (decide (x = n) || hasN n a) = false := h
    rw [Bool.or_eq_false_iff] at h2
    rw [List.cons_append, fstI_cons, toL_eq, h2.1]
    dsimp only
    rw [fst_no h2.2]
    simp only [List.length_cons]
    congr 2
    omega
theorem fst_has {n : ByteArray} : ∀ {a : List ByteArray} {b : List ByteArray} {i : Nat}, hasN n a = true → (fstI n (a ++ b) i).1 < ((i + a.length : Nat) : Int)
  | [], b, i, h => by cases h
  | x :: a, b, i, h => by
    have h2 : (decide (x = n) || hasN n a) = true := h
    rw [List.cons_append, fstI_cons, toL_eq]
    cases hd : decide (x = n) with
    | true =>
      dsimp only
      simp only [List.length_cons]
      omega
    | false =>
      rw [hd, Bool.false_or] at h2
      dsimp only
      have := fst_has (b := b) (i := i + 1) h2
      simp only [List.length_cons]
      omega
set_option maxHeartbeats 4000000 in
theorem rfind_any19 (ps : List PG) (A : Option Addr) (c : Nat) (nm : ByteArray) (w : World) (h : RdX cPG w A ps) (hl : ps.length ≤ maxLen) : Calls Tryz.prog 48 #[.slice A ps.length c, .string nm] w fun e w' => e = .returned (.tuple #[.int .i64 (fstI nm (ps.map PG.n) 0).1, .bool (fstI nm (ps.map PG.n) 0).2]) ∧ Only [] w w' := by
  have J : ∀ (d i : Nat), ps.length - i = d → i ≤ ps.length → fstI nm ((ps.drop i).map PG.n) i = fstI nm (ps.map PG.n) 0 → ∀ (u : Nat → Value), Hs Tryz.prog 48 (fun e w' => e = .returned (.tuple #[.int .i64 (fstI nm (ps.map PG.n) 0).1, .bool (fstI nm (ps.map PG.n) 0).2]) ∧ Only [] w w') (Tryz.f48).ntmps w [] [] ⟨.no, loopAt Tryz.f48 0, pins [(1, .c (.v (.string nm))), (8, .c (.v (.slice A ps.length c))), (9, .c (.v (.int .i64 ps.length))), (10, .c (.v (.int .i64 i)))] (.vals u), []⟩ := by
    intro d
    induction d with
    | zero =>
      intro i hd hi hix u
      obtain rfl : i = ps.length := by omega
      rw [List.drop_length] at hix
      refine Hs.run0 300 (fun _ => by kernel_rfl) ?_
      refine Hs.condP ((ps.length : Int) < (ps.length : Int)) (by kernel_rfl) (fun h => by omega) (fun _ => ?_)
      refine Hs.run0 300 (fun _ => by kernel_rfl) ?_
      exact Hs.ret (v := .tuple #[.int .i64 0, .bool false]) Tryz.func48 (by kernel_rfl) fun w' H => ⟨by rw [← hix]; rfl, H.only⟩
    | succ d ih =>
      intro i hd hi hix u
      have hil : i < ps.length := by omega
      obtain ⟨x, hx⟩ : ∃ x, ps[i]? = some x := ⟨_, List.getElem?_eq_getElem hil⟩
      have hdr : ps.drop i = x :: ps.drop (i + 1) := by
        rw [List.drop_eq_getElem_cons hil]
        rw [List.getElem?_eq_getElem hil] at hx
        injection hx with hx
        rw [hx]
      rw [hdr, List.map_cons, fstI_cons] at hix
      obtain ⟨ab, aoff, hA, _, _⟩ := h (by omega)
      have hih := fun hix u => ih (i + 1) (by omega) (by omega) hix u
      clear ih
      have hrd := h
      rw [hA] at hih hrd ⊢
      refine Hs.run0 300 (fun _ => by kernel_rfl) ?_
      refine Hs.condP ((i : Int) < (ps.length : Int)) (by kernel_rfl) (fun _ => ?_) (fun h => by omega)
      refine Hs.run0 300 (fun _ => by kernel_rfl) ?_
      refine Hs.idx (b := ab) (off := aoff) (len := ps.length) (c := c) (i := i) elemRp hil (by kernel_rfl) ?_
      refine Hs.ldx (cf := cPG) (size := 2) (E := 51) (b := ab) (off := aoff) (i := i) (l := ps) (x := x) cPG_len (.g x.sc) (by kernel_rfl) (fun w' H => hrd.only H.only) hx (by kernel_rfl) (by kernel_rfl) rfl (by kernel_rfl) ?_
      refine Hs.run1 300 (fun _ => by kernel_rfl) fun b1 => ?_
      refine Hs.cond (x.n.toList == nm.toList) (by kernel_rfl) (fun h1 => ?_) (fun h1 => ?_)
      · rw [h1] at hix
        refine Hs.run0 300 (fun _ => by kernel_rfl) ?_
        exact Hs.ret (v := .tuple #[.int .i64 (i : Int), .bool true]) Tryz.func48 (by kernel_rfl) fun w' H => ⟨by rw [← hix], H.only⟩
      · rw [h1] at hix
        refine Hs.run0 300 (fun _ => by kernel_rfl) ?_
        refine Hs.slot 10 (.c (.v (.int .i64 (i + 1 : Nat)))) rfl ((by kernel_rfl : _ = Value.int .i64 (IntKind.i64.wrap ((i : Int) + 1))).trans (wrap_nextJ hl)) ?_
        refine Hs.loop (by kernel_rfl) ?_
        exact Hs.goto (loopAt Tryz.f48 0) [] [] [(1, .c (.v (.string nm))), (8, .c (.v (.slice (some ⟨ab, aoff, none⟩) ps.length c))), (9, .c (.v (.int .i64 ps.length))), (10, .c (.v (.int .i64 (i + 1 : Nat))))] (by kernel_rfl) (by decide) (by kernel_rfl) (by kernel_rfl) (fun _ => (by kernel_rfl)) (fun u => hih hix u)
  refine Hs.enter Tryz.func48 [] [] [] [.c (.v (.slice A ps.length c)), .c (.v (.string nm))] (Mem.start0 w) (by kernel_rfl) (by kernel_rfl) ?_
  refine Hs.run0 300 (fun _ => by kernel_rfl) ?_
  refine Hs.loop (by kernel_rfl) ?_
  exact Hs.goto (loopAt Tryz.f48 0) [] [] [(1, .c (.v (.string nm))), (8, .c (.v (.slice A ps.length c))), (9, .c (.v (.int .i64 ps.length))), (10, .c (.v (.int .i64 (0 : Nat))))] (by kernel_rfl) (by decide) (by kernel_rfl) (by kernel_rfl) (fun _ => (by kernel_rfl)) (fun u => J ps.length 0 (by omega) (by omega) (by rw [List.drop_zero]) u)
set_option maxHeartbeats 8000000 in
theorem rcheck_any (ps : List PG) (A : Option Addr) (c : Nat) (w : World) (h : Pgs w A c ps) : Calls Tryz.prog 26 #[.slice A ps.length c] w (CkR ps w) := by
  have hlen : ps.length ≤ maxLen := Nat.le_trans h.le h.max
  have hwe : ∀ b, withinB (ps.length : Int) 1 32 = b → checkM (ps.map PG.m) = (match b with
    | false => 5
    | true => if wrongs ps.length (ps.map PG.m) 0 = 0 then dupM [] (ps.map PG.n) else wrongs ps.length (ps.map PG.m) 0) := by
    intro b hb
    unfold checkM
    rw [List.length_map, hb, List.map_map]
    rfl
  have J2 : ∀ (d i : Nat), ps.length - i = d → i ≤ ps.length → checkM (ps.map PG.m) = dupM ((ps.take i).map PG.n) ((ps.drop i).map PG.n) → ∀ (u : Nat → Value), Hs Tryz.prog 26 (CkR ps w) (Tryz.f26).ntmps w [] [] ⟨.no, loopAt Tryz.f26 2, pins [(0, .c (.v (.slice A ps.length c))), (49, .c (.v (.slice A ps.length c))), (50, .c (.v (.int .i64 ps.length))), (51, .c (.v (.int .i64 i)))] (.vals u), []⟩ := by
    intro d
    induction d with
    | zero =>
      intro i hd hi hix u
      obtain rfl : i = ps.length := by omega
      rw [List.drop_length] at hix
      have e : checkM (ps.map PG.m) = 0 := hix
      refine Hs.run0 300 (fun _ => by kernel_rfl) ?_
      refine Hs.condP ((ps.length : Int) < (ps.length : Int)) (by kernel_rfl) (fun h => by omega) (fun _ => ?_)
      refine Hs.run0 300 (fun _ => by kernel_rfl) ?_
      exact Hs.ret (v := .int .i64 0) Tryz.func26 (by kernel_rfl) fun w' H => ⟨by rw [e], H.only⟩
    | succ d ih =>
      intro i hd hi hix u
      have hil : i < ps.length := by omega
      obtain ⟨x, hx⟩ : ∃ x, ps[i]? = some x := ⟨_, List.getElem?_eq_getElem hil⟩
      have hdr : ps.drop i = x :: ps.drop (i + 1) := by
        rw [List.drop_eq_getElem_cons hil]
        rw [List.getElem?_eq_getElem hil] at hx
        injection hx with hx
        rw [hx]
      have htk : (ps.take (i + 1)).map PG.n = (ps.take i).map PG.n ++ [x.n] := by rw [List.take_add_one, hx, List.map_append]; rfl
      have hal : ps.map PG.n = (ps.take i).map PG.n ++ x.n :: (ps.drop (i + 1)).map PG.n := by
        rw [← List.map_cons, ← hdr, ← List.map_append, List.take_append_drop]
      have htl : ((ps.take i).map PG.n).length = i := by rw [List.length_map, List.length_take]; omega
      rw [hdr, List.map_cons, dupM_cons] at hix
      obtain ⟨ab, aoff, hA, _, _⟩ := h.rd (by omega)
      have hih := fun hix u => ih (i + 1) (by omega) (by omega) hix u
      clear ih
      have hrd := h.rd
      have hfi := fun w' (hr : RdX cPG w' A ps) => rfind_any19 ps A c x.n w' hr hlen
      rw [hA] at hih hrd hfi ⊢
      have hne : ((fstI x.n (ps.map PG.n) 0).1 = (i : Int)) ↔ hasN x.n ((ps.take i).map PG.n) = false := by
        rw [hal]
        cases hb : hasN x.n ((ps.take i).map PG.n) with
        | true =>
          have := fst_has (b := x.n :: (ps.drop (i + 1)).map PG.n) (i := 0) hb
          rw [htl] at this
          constructor
          · intro e; omega
          · intro e; cases e
        | false =>
          rw [fst_no hb, htl]
          simp
      generalize fstI x.n (ps.map PG.n) 0 = F at *
      obtain ⟨f1, f2⟩ := F
      dsimp only at hne hfi
      refine Hs.run0 300 (fun _ => by kernel_rfl) ?_
      refine Hs.condP ((i : Int) < (ps.length : Int)) (by kernel_rfl) (fun _ => ?_) (fun h => by omega)
      refine Hs.run0 300 (fun _ => by kernel_rfl) ?_
      refine Hs.idx (b := ab) (off := aoff) (len := ps.length) (c := c) (i := i) elemRp hil (by kernel_rfl) ?_
      refine Hs.ldx (cf := cPG) (size := 2) (E := 51) (b := ab) (off := aoff) (i := i) (l := ps) (x := x) cPG_len (.g x.sc) (by kernel_rfl) (fun w' H => hrd.only H.only) hx (by kernel_rfl) (by kernel_rfl) rfl (by kernel_rfl) ?_
      refine Hs.run1 300 (fun _ => by kernel_rfl) fun b1 => ?_
      refine Hs.callV (v := .tuple #[.int .i64 f1, .bool f2]) (fun w' H => hfi w' (hrd.only H.only)) (by kernel_rfl) ?_
      refine Hs.run0 300 (fun _ => by kernel_rfl) ?_
      refine Hs.cond (!decide (f1 = (i : Int))) (by kernel_rfl) (fun h1 => ?_) (fun h1 => ?_)
      · have h1 : ¬ f1 = (i : Int) := by simpa using h1
        have hb : hasN x.n ((ps.take i).map PG.n) = true := by
          cases hb : hasN x.n ((ps.take i).map PG.n) with
          | true => rfl
          | false => exact absurd (hne.2 hb) h1
        rw [if_pos hb] at hix
        refine Hs.run0 300 (fun _ => by kernel_rfl) ?_
        exact Hs.ret (v := .int .i64 4) Tryz.func26 (by kernel_rfl) fun w' H => ⟨by rw [hix], H.only⟩
      · have h1 : f1 = (i : Int) := by simpa using h1
        have hb : ¬ hasN x.n ((ps.take i).map PG.n) = true := by rw [hne.1 h1]; decide
        rw [if_neg hb] at hix
        refine Hs.run0 300 (fun _ => by kernel_rfl) ?_
        refine Hs.slot 51 (.c (.v (.int .i64 (i + 1 : Nat)))) rfl ((by kernel_rfl : _ = Value.int .i64 (IntKind.i64.wrap ((i : Int) + 1))).trans (wrap_nextJ hlen)) ?_
        refine Hs.loop (by kernel_rfl) ?_
        exact Hs.goto (loopAt Tryz.f26 2) [] [] [(0, .c (.v (.slice (some ⟨ab, aoff, none⟩) ps.length c))), (49, .c (.v (.slice (some ⟨ab, aoff, none⟩) ps.length c))), (50, .c (.v (.int .i64 ps.length))), (51, .c (.v (.int .i64 (i + 1 : Nat))))] (by kernel_rfl) (by decide) (by kernel_rfl) (by kernel_rfl) (fun _ => (by kernel_rfl)) (fun u => hih (by rw [htk]; exact hix) u)
  have J1 : withinB (ps.length : Int) 1 32 = true → ∀ (d i : Nat), ps.length - i = d → i ≤ ps.length → wrongs ps.length (ps.map PG.m) 0 = wrongs ps.length ((ps.drop i).map PG.m) i → ∀ (u : Nat → Value), Hs Tryz.prog 26 (CkR ps w) (Tryz.f26).ntmps w [] [] ⟨.no, loopAt Tryz.f26 0, pins [(0, .c (.v (.slice A ps.length c))), (19, .c (.v (.slice A ps.length c))), (20, .c (.v (.int .i64 ps.length))), (21, .c (.v (.int .i64 i)))] (.vals u), []⟩ := by
    intro hwi d
    induction d with
    | zero =>
      intro i hd hi hix u
      obtain rfl : i = ps.length := by omega
      rw [List.drop_length] at hix
      have e : wrongs ps.length (ps.map PG.m) 0 = 0 := hix
      have e2 := hwe true hwi
      dsimp only at e2
      rw [if_pos e] at e2
      refine Hs.run0 300 (fun _ => by kernel_rfl) ?_
      refine Hs.condP ((ps.length : Int) < (ps.length : Int)) (by kernel_rfl) (fun h => by omega) (fun _ => ?_)
      refine Hs.run0 300 (fun _ => by kernel_rfl) ?_
      refine Hs.loop (by kernel_rfl) ?_
      exact Hs.goto (loopAt Tryz.f26 2) [] [] [(0, .c (.v (.slice A ps.length c))), (49, .c (.v (.slice A ps.length c))), (50, .c (.v (.int .i64 ps.length))), (51, .c (.v (.int .i64 (0 : Nat))))] (by kernel_rfl) (by decide) (by kernel_rfl) (by kernel_rfl) (fun _ => (by kernel_rfl)) (fun u => J2 ps.length 0 (by omega) (by omega) (by rw [e2]; rfl) u)
    | succ d ih =>
      intro i hd hi hix u
      have hil : i < ps.length := by omega
      obtain ⟨x, hx⟩ : ∃ x, ps[i]? = some x := ⟨_, List.getElem?_eq_getElem hil⟩
      have hxm : x ∈ ps := List.mem_of_getElem? hx
      have hxo := h.all x hxm
      have hdr : ps.drop i = x :: ps.drop (i + 1) := by
        rw [List.drop_eq_getElem_cons hil]
        rw [List.getElem?_eq_getElem hil] at hx
        injection hx with hx
        rw [hx]
      rw [hdr, List.map_cons, wrongs_cons] at hix
      obtain ⟨ab, aoff, hA, _, _⟩ := h.rd (by omega)
      have hih := fun hix u => ih (i + 1) (by omega) (by omega) hix u
      clear ih
      have hrd := h.rd
      rw [hA] at hih hrd ⊢
      obtain ⟨xn, xA, xc, ops⟩ := x
      obtain ⟨nl, rfl⟩ : ∃ l, xn = strL l := ⟨_, strL_of xn⟩
      have hW : wrongM (PG.m ⟨strL nl, xA, xc, ops⟩) i ps.length = (match nmB (strL nl) with
        | false => 4
        | true => if (64 : Int) < ops.length then 6 else match badOps ops i ps.length with
          | true => 2
          | false => 0) := rfl
      have e2 := hwe true hwi
      dsimp only at e2
      have hend : ∀ v : Int, v ≠ 0 → wrongM (PG.m ⟨strL nl, xA, xc, ops⟩) i ps.length = v → checkM (ps.map PG.m) = v := fun v hv e => by
        rw [e, if_neg hv] at hix
        rw [hix, if_neg hv] at e2
        exact e2
      have hor : RdX cOP w xA ops := hxo.1
      refine Hs.run0 300 (fun _ => by kernel_rfl) ?_
      refine Hs.condP ((i : Int) < (ps.length : Int)) (by kernel_rfl) (fun _ => ?_) (fun h => by omega)
      refine Hs.run0 300 (fun _ => by kernel_rfl) ?_
      refine Hs.idx (b := ab) (off := aoff) (len := ps.length) (c := c) (i := i) elemRp hil (by kernel_rfl) ?_
      refine Hs.ldx (cf := cPG) (size := 2) (E := 51) (b := ab) (off := aoff) (i := i) (l := ps) (x := ⟨strL nl, xA, xc, ops⟩) cPG_len (.g (PG.sc ⟨strL nl, xA, xc, ops⟩)) (by kernel_rfl) (fun w' H => hrd.only H.only) hx (by kernel_rfl) (by kernel_rfl) rfl (by kernel_rfl) ?_
      refine Hs.run1 300 (fun _ => by kernel_rfl) fun b1 => ?_
      refine Hs.callV (v := .bool (nmB (strL nl))) (fun w' H => rnamed_any nl w') (by kernel_rfl) ?_
      refine Hs.run0 300 (fun _ => by kernel_rfl) ?_
      refine Hs.cond (!nmB (strL nl)) (by kernel_rfl) (fun h1 => ?_) (fun h1 => ?_)
      · have h1 : nmB (strL nl) = false := by simpa using h1
        refine Hs.run0 300 (fun _ => by kernel_rfl) ?_
        exact Hs.ret (v := .int .i64 4) Tryz.func26 (by kernel_rfl) fun w' H => ⟨by rw [hend 4 (by decide) (by rw [hW, h1])], H.only⟩
      have h1 : nmB (strL nl) = true := by simpa using h1
      refine Hs.run0 300 (fun _ => by kernel_rfl) ?_
      refine Hs.condP ((ops.length : Int) > 64) (by kernel_rfl) (fun h2 => ?_) (fun h2 => ?_)
      · refine Hs.run0 300 (fun _ => by kernel_rfl) ?_
        exact Hs.ret (v := .int .i64 6) Tryz.func26 (by kernel_rfl) fun w' H => ⟨by rw [hend 6 (by decide) (by rw [hW, h1]; dsimp only; rw [if_pos h2])], H.only⟩
      have K : ∀ (e j : Nat), ops.length - j = e → j ≤ ops.length → badOps (ops.take j) i ps.length = false → ∀ (g : Nat) (u : Nat → Value), Hs Tryz.prog 26 (CkR ps w) (Tryz.f26).ntmps w [] [g] ⟨.no, loopAt Tryz.f26 1, pins [(0, .c (.v (.slice (some ⟨ab, aoff, none⟩) ps.length c))), (3, .c (.v (.int .i64 i))), (4, .c (.p 0 0)), (19, .c (.v (.slice (some ⟨ab, aoff, none⟩) ps.length c))), (20, .c (.v (.int .i64 ps.length))), (21, .c (.v (.int .i64 i))), (35, .c (.v (.slice xA ops.length xc))), (36, .c (.v (.int .i64 ops.length))), (37, .c (.v (.int .i64 j)))] (.vals u), [.b true 51 [.v (.string (strL nl)), .v (.slice xA ops.length xc)]]⟩ := by
        intro e
        induction e with
        | zero =>
          intro j he hj hb g u
          obtain rfl : j = ops.length := by omega
          rw [List.take_length] at hb
          have hw0 : wrongM (PG.m ⟨strL nl, xA, xc, ops⟩) i ps.length = 0 := by rw [hW, h1]; dsimp only; rw [if_neg h2, hb]
          rw [if_pos hw0] at hix
          refine Hs.run0 300 (fun _ => by kernel_rfl) ?_
          refine Hs.condP ((ops.length : Int) < (ops.length : Int)) (by kernel_rfl) (fun h => by omega) (fun _ => ?_)
          refine Hs.run0 300 (fun _ => by kernel_rfl) ?_
          refine Hs.slot 21 (.c (.v (.int .i64 (i + 1 : Nat)))) rfl ((by kernel_rfl : _ = Value.int .i64 (IntKind.i64.wrap ((i : Int) + 1))).trans (wrap_nextJ hlen)) ?_
          refine Hs.loop (by kernel_rfl) ?_
          exact Hs.goto (loopAt Tryz.f26 0) [] [] [(0, .c (.v (.slice (some ⟨ab, aoff, none⟩) ps.length c))), (19, .c (.v (.slice (some ⟨ab, aoff, none⟩) ps.length c))), (20, .c (.v (.int .i64 ps.length))), (21, .c (.v (.int .i64 (i + 1 : Nat))))] (by kernel_rfl) (by decide) (by kernel_rfl) (by kernel_rfl) (fun _ => (by kernel_rfl)) (fun u => hih hix u)
        | succ e ihk =>
          intro j he hj hb g u
          have hjl : j < ops.length := by omega
          obtain ⟨y, hy⟩ : ∃ y, ops[j]? = some y := ⟨_, List.getElem?_eq_getElem hjl⟩
          obtain ⟨ob, ooff, hO, _, _⟩ := hor (by omega)
          have hihk := fun h g u => ihk (j + 1) (by omega) (by omega) h g u
          clear ihk
          have hor2 := hor
          have hwl := Nat.le_trans hxo.2.1 hxo.2.2
          dsimp only at hwl
          rw [hO] at hihk hor2 ⊢
          refine Hs.run0 300 (fun _ => by kernel_rfl) ?_
          refine Hs.condP ((j : Int) < (ops.length : Int)) (by kernel_rfl) (fun _ => ?_) (fun h => by omega)
          refine Hs.run0 300 (fun _ => by kernel_rfl) ?_
          refine Hs.idx (b := ob) (off := ooff) (len := ops.length) (c := xc) (i := j) elemRo hjl (by kernel_rfl) ?_
          refine Hs.ldx (cf := cOP) (size := 4) (E := 52) (b := ob) (off := ooff) (i := j) (l := ops) (x := y) cOP_len (.g y.sc) (by kernel_rfl) (fun w' H => hor2.only H.only) hy (by kernel_rfl) (by kernel_rfl) rfl (by kernel_rfl) ?_
          refine Hs.run1 300 (fun _ => by kernel_rfl) fun b2 => ?_
          refine Hs.callV (v := .bool (rightB y i ps.length)) (fun w' H => rright_any y i ps.length w') (by kernel_rfl) ?_
          refine Hs.run0 300 (fun _ => by kernel_rfl) ?_
          refine Hs.cond (!rightB y i ps.length) (by kernel_rfl) (fun h3 => ?_) (fun h3 => ?_)
          · have hbad : badOps ops i ps.length = true := List.any_eq_true.2 ⟨y, List.mem_of_getElem? hy, h3⟩
            refine Hs.run0 300 (fun _ => by kernel_rfl) ?_
            exact Hs.ret (v := .int .i64 2) Tryz.func26 (by kernel_rfl) fun w' H => ⟨by rw [hend 2 (by decide) (by rw [hW, h1]; dsimp only; rw [if_neg h2, hbad])], H.only⟩
          · refine Hs.run0 300 (fun _ => by kernel_rfl) ?_
            refine Hs.slot 37 (.c (.v (.int .i64 (j + 1 : Nat)))) rfl ((by kernel_rfl : _ = Value.int .i64 (IntKind.i64.wrap ((j : Int) + 1))).trans (wrap_nextJ hwl)) ?_
            refine Hs.loop (by kernel_rfl) ?_
            exact Hs.goto (loopAt Tryz.f26 1) [0] [.b true 51 [.v (.string (strL nl)), .v (.slice (some ⟨ob, ooff, none⟩) ops.length xc)]] [(0, .c (.v (.slice (some ⟨ab, aoff, none⟩) ps.length c))), (3, .c (.v (.int .i64 i))), (4, .c (.p 0 0)), (19, .c (.v (.slice (some ⟨ab, aoff, none⟩) ps.length c))), (20, .c (.v (.int .i64 ps.length))), (21, .c (.v (.int .i64 i))), (35, .c (.v (.slice (some ⟨ob, ooff, none⟩) ops.length xc))), (36, .c (.v (.int .i64 ops.length))), (37, .c (.v (.int .i64 (j + 1 : Nat))))] (by kernel_rfl) (by decide) (by kernel_rfl) (by kernel_rfl) (fun _ => (by kernel_rfl)) (fun u => hihk (by
              unfold badOps at hb ⊢
              rw [List.take_add_one, hy, List.any_append, hb]
              simpa using h3) g u)
      refine Hs.run0 300 (fun _ => by kernel_rfl) ?_
      refine Hs.loop (by kernel_rfl) ?_
      exact Hs.goto (loopAt Tryz.f26 1) [0] [.b true 51 [.v (.string (strL nl)), .v (.slice xA ops.length xc)]] [(0, .c (.v (.slice (some ⟨ab, aoff, none⟩) ps.length c))), (3, .c (.v (.int .i64 i))), (4, .c (.p 0 0)), (19, .c (.v (.slice (some ⟨ab, aoff, none⟩) ps.length c))), (20, .c (.v (.int .i64 ps.length))), (21, .c (.v (.int .i64 i))), (35, .c (.v (.slice xA ops.length xc))), (36, .c (.v (.int .i64 ops.length))), (37, .c (.v (.int .i64 (0 : Nat))))] (by kernel_rfl) (by decide) (by kernel_rfl) (by kernel_rfl) (fun _ => (by kernel_rfl)) (fun u => K ops.length 0 (by omega) (by omega) rfl b1 u)
  have hgo : withinB (ps.length : Int) 1 32 = true → ∀ (u : Nat → Value), Hs Tryz.prog 26 (CkR ps w) (Tryz.f26).ntmps w [] [] ⟨.no, loopAt Tryz.f26 0, pins [(0, .c (.v (.slice A ps.length c))), (19, .c (.v (.slice A ps.length c))), (20, .c (.v (.int .i64 ps.length))), (21, .c (.v (.int .i64 (0 : Nat))))] (.vals u), []⟩ := fun h1 u => J1 h1 ps.length 0 (by omega) (by omega) (by rw [List.drop_zero]) u
  refine Hs.enter Tryz.func26 [] [] [] [.c (.v (.slice A ps.length c))] (Mem.start0 w) (by kernel_rfl) (by kernel_rfl) ?_
  refine Hs.run0 300 (fun _ => by kernel_rfl) ?_
  refine Hs.bool 14 (decide ((ps.length : Int) < 1)) (by kernel_rfl) (fun h1 => ?_) (fun h1 => ?_)
  · have h1 := of_decide_eq_true h1
    have e2 := hwe false (by unfold withinB; rw [decide_eq_false (by omega)]; rfl)
    refine Hs.rung0 [3] 300 (fun _ => by kernel_rfl) ?_
    refine Hs.condT (by kernel_rfl) ?_
    refine Hs.run0 300 (fun _ => by kernel_rfl) ?_
    exact Hs.ret (v := .int .i64 5) Tryz.func26 (by kernel_rfl) fun w' H => ⟨by rw [e2], H.only⟩
  · have h1 := of_decide_eq_false h1
    refine Hs.rung0 [3] 300 (fun _ => by kernel_rfl) ?_
    refine Hs.cond (decide ((ps.length : Int) > 32)) (by kernel_rfl) (fun h2 => ?_) (fun h2 => ?_)
    · have h2 := of_decide_eq_true h2
      have e2 := hwe false (by unfold withinB; rw [decide_eq_true (by omega : (1 : Int) ≤ ps.length), decide_eq_false (by omega)]; rfl)
      refine Hs.run0 300 (fun _ => by kernel_rfl) ?_
      exact Hs.ret (v := .int .i64 5) Tryz.func26 (by kernel_rfl) fun w' H => ⟨by rw [e2], H.only⟩
    · have h2 := of_decide_eq_false h2
      have e2 : withinB (ps.length : Int) 1 32 = true := by unfold withinB; rw [decide_eq_true (by omega : (1 : Int) ≤ ps.length), decide_eq_true (by omega : (ps.length : Int) ≤ 32)]; rfl
      refine Hs.run0 300 (fun _ => by kernel_rfl) ?_
      refine Hs.loop (by kernel_rfl) ?_
      exact Hs.goto (loopAt Tryz.f26 0) [] [] [(0, .c (.v (.slice A ps.length c))), (19, .c (.v (.slice A ps.length c))), (20, .c (.v (.int .i64 ps.length))), (21, .c (.v (.int .i64 (0 : Nat))))] (by kernel_rfl) (by decide) (by kernel_rfl) (by kernel_rfl) (fun _ => (by kernel_rfl)) (fun u => hgo e2 u)
end Go.Proofs.YtmmcamkmglpgiaaGreatDoor

namespace Go.Proofs.YtmmcamkmglpgiaaGreatDoor
open Go.RowKit
set_option linter.all false
set_option maxRecDepth 100000
theorem put_any19 (g : Nat) (u : Bool) (A : Option Addr) (n cap : Nat) (out : List UInt8) (s : List UInt8) (w : World) (h : BuAt w g u A n cap (u8v out)) (hn : n + s.length + 1 ≤ 140737488355328) : Calls Tryz.prog 21 #[.string (strL s), .pointer (some ⟨g, 0, none⟩)] w (BuPost w g A n cap (u8v (out ++ (s ++ [10]))) (n + (s.length + 1)) (.tuple #[])) := by
  have hlen : out.length = n := by have := h.len; rwa [u8v_len] at this
  have hM := h.memV
  have e1 : u8v out ++ u8v s = u8v (out ++ s) := by simp [u8v]
  refine Hs.enter Tryz.func21 (g :: (Value.ownBlock (.slice A n cap)).toList) [g, 0] [.b true 65 [.v (bdV g u), .v (.slice A n cap)], .s A cap n 5 1 ((u8v out).flatMap cu8)] [.c (.v (.string (strL s))), .c (.p 0 0)] hM (by kernel_rfl) (by kernel_rfl) ?_
  refine Hs.run0 300 (fun _ => by kernel_rfl) ?_
  refine Hs.callBS 0 1 (T := 65) (cs0 := [.v (bdV g u), .v (.slice A n cap)]) (.tuple #[.int .i64 s.length, .nilIface]) (fun A' cap' => [.v (bdV g true), .v (.slice A' (n + s.length) cap')]) (u8v out) (u8v (out ++ s)) n (n + s.length) (by rw [u8v_len, hlen]) (by rw [u8v_len]; simp [hlen]) (by decide) (by kernel_rfl) (by kernel_rfl) (fun w' H hB hO hne => by
    have := ws_any g u A n cap (u8v out) s w' ⟨hB, hO, by rw [u8v_len, hlen], hne⟩ (by omega)
    rw [e1] at this
    exact this) (by kernel_rfl) (by kernel_rfl) (fun _ _ => (by kernel_rfl)) fun A1 c1 _ _ => ?_
  refine Hs.run0 300 (fun _ => by kernel_rfl) ?_
  refine Hs.callBS 0 1 (T := 65) (cs0 := [.v (bdV g true), .v (.slice A1 (n + s.length) c1)]) .nilIface (fun A' cap' => [.p 0 0, .v (.slice A' (n + (s.length + 1)) cap')]) (u8v (out ++ s)) (u8v (out ++ (s ++ [10]))) (n + s.length) (n + (s.length + 1)) (by rw [u8v_len]; simp [hlen]) (by rw [u8v_len]; simp [hlen]) (by decide) (by kernel_rfl) (by kernel_rfl) (fun w' H hB hO hne => by
    have := wb_any g true A1 (n + s.length) c1 (u8v (out ++ s)) 10 w' ⟨hB, hO, by rw [u8v_len]; simp [hlen], hne⟩ (by omega)
    rw [show (10 : Int) = ((10 : UInt8).toNat : Int) from rfl, ← u8v_snoc, List.append_assoc] at this
    exact this) (by kernel_rfl) (by kernel_rfl) (fun _ _ => (by kernel_rfl)) fun A2 c2 _ _ => ?_
  refine Hs.run0 300 (fun _ => by kernel_rfl) ?_
  exact Hs.ret (v := .tuple #[]) Tryz.func21 (by kernel_rfl) fun w' H => BuPost.of (A' := A2) (cap' := c2) H rfl (by kernel_rfl) (by kernel_rfl) (by rw [u8v_len]; simp [hlen])
theorem right_text {o : OP9} {p q : Int} (hp : 0 ≤ p) (hq : q ≤ 32) (h : rightB o p q = true) : o.t.size ≤ 1024 := by
  obtain ⟨k, r, F, h16⟩ := right_fit hp hq h
  by_cases h3 : r.2.1 = 3
  · obtain ⟨r2, hr, hs, -⟩ := sh_row k F.k1 h16
    obtain rfl : r2 = r := by have := F.row; rw [hr] at this; injection this
    have h1 := F.k1
    have hk : k = 1 ∨ k = 2 ∨ k = 3 ∨ k = 4 ∨ k = 5 ∨ k = 6 ∨ k = 7 ∨ k = 8 ∨ k = 9 ∨ k = 10 ∨ k = 11 ∨ k = 12 ∨ k = 13 ∨ k = 14 ∨ k = 15 ∨ k = 16 := by omega
    have hsh : shN k = 3 := by omega
    unfold rightB restB at h
    simp only [Bool.and_eq_true] at h
    have h2 := h.2.2.2.2
    rw [F.kk, Int.toNat_natCast] at h2
    rcases hk with rfl | rfl | rfl | rfl | rfl | rfl | rfl | rfl | rfl | rfl | rfl | rfl | rfl | rfl | rfl | rfl
    · exact absurd hsh (by decide)
    · have h4 : shortB o = true := h2
      unfold shortB at h4
      have := of_decide_eq_true h4
      omega
    · have h4 : shortB o = true := h2
      unfold shortB at h4
      have := of_decide_eq_true h4
      omega
    all_goals exact absurd hsh (by decide)
  · rw [F.t0 h3]
    decide
theorem line_len {o : OP9} {k : Nat} {r : SoR} (F : OpFit o k r) (h16 : k ≤ 16) (ht : o.t.size ≤ 1024) : (lineL o).length ≤ 4000 := by
  rw [row_word F.row o F.kk]
  have h1 := F.k1
  have hw : r.1.length ≤ 7 := by
    have hrow := F.row
    have hk : k = 1 ∨ k = 2 ∨ k = 3 ∨ k = 4 ∨ k = 5 ∨ k = 6 ∨ k = 7 ∨ k = 8 ∨ k = 9 ∨ k = 10 ∨ k = 11 ∨ k = 12 ∨ k = 13 ∨ k = 14 ∨ k = 15 ∨ k = 16 := by omega
    clear F
    rcases hk with rfl | rfl | rfl | rfl | rfl | rfl | rfl | rfl | rfl | rfl | rfl | rfl | rfl | rfl | rfl | rfl <;> (injection hrow with hrow; subst hrow; decide)
  rw [List.length_append]
  have hwr := writL_len o.t.data.toList
  have hts : o.t.data.toList.length = o.t.size := rfl
  split
  · rename_i e
    have := F.a (.inl e)
    have := itoa_len (n := o.a) (by omega) (by omega)
    simp
    omega
  · split
    · rename_i e
      have := F.a (.inr e)
      have := F.b e
      have := itoa_len (n := o.a) (by omega) (by omega)
      have := itoa_len (n := o.b) (by omega) (by omega)
      simp
      omega
    · split
      · simp
        omega
      · simp
        omega
theorem opLn_len : ∀ {l : List OP9}, (∀ o ∈ l, (lineL o).length ≤ 4000) → (opLn l).length ≤ l.length * 4001
  | [], _ => Nat.le_refl _
  | o :: l, h => by
    have h1 := h o (by simp)
    have h2 := opLn_len (l := l) fun o ho => h o (by simp [ho])
    have e : opLn (o :: l) = (lineL o ++ [10]) ++ opLn l := rfl
    rw [e, List.length_append, List.length_append]
    simp only [List.length_cons, List.length_nil]
    omega
def smallP (m : PM) : Prop := m.1.size ≤ 64 ∧ m.2.length ≤ 64 ∧ ∀ o ∈ m.2, (lineL o).length ≤ 4000
theorem progL_len {m : PM} (h : smallP m) : (progL m).length ≤ 260000 := by
  have h1 := opLn_len h.2.2
  have h2 : (opLn m.2).length ≤ 64 * 4001 := Nat.le_trans h1 (Nat.mul_le_mul_right _ h.2.1)
  have h3 : m.1.data.toList.length = m.1.size := rfl
  have h4 := h.1
  unfold progL
  simp only [List.length_append, List.length_cons, List.length_nil, h3]
  have : headL.length = 5 := rfl
  omega
theorem printL_len : ∀ {l : List PM}, (∀ m ∈ l, smallP m) → (printL l).length ≤ l.length * 260000
  | [], _ => Nat.le_refl _
  | m :: l, h => by
    have h1 := progL_len (h m (by simp))
    have h2 := printL_len (l := l) fun m hm => h m (by simp [hm])
    have e : printL (m :: l) = progL m ++ printL l := rfl
    rw [e, List.length_append, List.length_cons]
    omega
theorem check_small {l : List PM} (h : checkM l = 0) : ∀ m ∈ l, smallP m := fun m hm => by
  obtain ⟨k, hk⟩ := List.getElem?_of_mem hm
  have hl := check_len h
  obtain ⟨h1, h2, h3⟩ := check_prog h hk
  refine ⟨?_, h2, fun o ho => ?_⟩
  · unfold nmB at h1
    simp only [Bool.and_eq_true, decide_eq_true_eq] at h1
    omega
  · obtain ⟨j, r, F, hj⟩ := right_fit (by omega) (by omega) (h3 o ho)
    exact line_len F hj (right_text (by omega) (by omega) (h3 o ho))
abbrev PrintR (l : List PM) (w : World) : Ending → World → Prop := fun e w' => e = .returned (.tuple #[.string (strL (if checkM l = 0 then printL l else [])), .int .i64 (checkM l)]) ∧ Only [] w w'
set_option maxHeartbeats 4000000 in
theorem print_any19 (ps : List PG) (A : Option Addr) (c : Nat) (w : World) (h : Pgs w A c ps) (hS : SLib w) : Calls Tryz.prog 13 #[.slice A ps.length c] w (PrintR (ps.map PG.m) w) := by
  have hlen : ps.length ≤ maxLen := Nat.le_trans h.le h.max
  have hck := fun w h => check_any ps A c w h
  unfold CkR at hck
  refine Hs.enter Tryz.func13 [] [] [] [.c (.v (.slice A ps.length c))] (Mem.start0 w) (by kernel_rfl) (by kernel_rfl) ?_
  refine Hs.run0 300 (fun _ => by kernel_rfl) ?_
  refine Hs.callV (v := .int .i64 (checkM (ps.map PG.m))) (fun w' H => hck w' (h.only H.only)) (by kernel_rfl) ?_
  refine Hs.run0 300 (fun _ => by kernel_rfl) ?_
  refine Hs.cond (!decide (checkM (ps.map PG.m) = 0)) (by kernel_rfl) (fun h1 => ?_) (fun h1 => ?_)
  · have h1 : ¬ checkM (ps.map PG.m) = 0 := by simpa using h1
    refine Hs.run0 300 (fun _ => by kernel_rfl) ?_
    exact Hs.ret (v := .tuple #[.string ⟨#[]⟩, .int .i64 (checkM (ps.map PG.m))]) Tryz.func13 (by kernel_rfl) fun w' H => ⟨by rw [if_neg h1]; rfl, H.only⟩
  · have h1 : checkM (ps.map PG.m) = 0 := by simpa using h1
    have hck1 := check_len h1
    rw [List.length_map] at hck1
    have hsm : ∀ x ∈ ps, smallP x.m := fun x hx => check_small h1 x.m (List.mem_map_of_mem hx)
    obtain ⟨ab, aoff, hA, _, _⟩ := h.rd (by omega)
    have hrd := h.rd
    rw [hA] at hrd ⊢
    have hpre : ∀ i, (printL ((ps.take i).map PG.m)).length ≤ 32 * 260000 := fun i => by
      refine Nat.le_trans (printL_len fun m hm => ?_) (Nat.mul_le_mul_right _ ?_)
      · obtain ⟨x, hx, rfl⟩ := List.mem_map.1 hm
        exact hsm x (List.mem_of_mem_take hx)
      · rw [List.length_map, List.length_take]
        omega
    have J : ∀ (d i : Nat), ps.length - i = d → i ≤ ps.length → ∀ (bu : Bool) (A2 : Option Addr) (n c2 : Nat), (printL ((ps.take i).map PG.m)).length = n → ∀ (b0 g : Nat) (u : Nat → Value), Hs Tryz.prog 13 (PrintR (ps.map PG.m) w) (Tryz.f13).ntmps w [] [b0, g] ⟨.no, loopAt Tryz.f13 0, pins [(5, .c (.p 0 0)), (6, .c (.v (.func (.func 21) #[] #[.pointer (some ⟨b0, 0, none⟩)]))), (17, .c (.v (.slice (some ⟨ab, aoff, none⟩) ps.length c))), (18, .c (.v (.int .i64 ps.length))), (19, .c (.v (.int .i64 i)))] (.vals u), [buB b0 bu A2 n c2, .s A2 c2 n 5 1 ((u8v (printL ((ps.take i).map PG.m))).flatMap cu8)]⟩ := by
      intro d
      induction d with
      | zero =>
        intro i hd hi bu A2 n c2 hn b0 g u
        obtain rfl : i = ps.length := by omega
        rw [List.take_length] at hn ⊢
        refine Hs.run0 300 (fun _ => by kernel_rfl) ?_
        refine Hs.condP ((ps.length : Int) < (ps.length : Int)) (by kernel_rfl) (fun h => by omega) (fun _ => ?_)
        refine Hs.run0 300 (fun _ => by kernel_rfl) ?_
        refine Hs.callLast (.string (strL (printL (ps.map PG.m)))) (fun w' H => str_any19 0 1 (u := bu) (A := A2) (cap := c2) (l := printL (ps.map PG.m)) H (by decide) (by kernel_rfl) (by kernel_rfl) hn) (by kernel_rfl) (by kernel_rfl) ?_
        refine Hs.run0 300 (fun _ => by kernel_rfl) ?_
        exact Hs.ret (v := .tuple #[.string (strL (printL (ps.map PG.m))), .int .i64 0]) Tryz.func13 (by kernel_rfl) fun w' H => ⟨by rw [if_pos h1, h1], H.only⟩
      | succ d ih =>
        intro i hd hi bu A2 n c2 hn b0 g u
        have hil : i < ps.length := by omega
        obtain ⟨x, hx⟩ : ∃ x, ps[i]? = some x := ⟨_, List.getElem?_eq_getElem hil⟩
        have hxm : x ∈ ps := List.mem_of_getElem? hx
        have hxo := h.all x hxm
        have hih := fun bu A n cap h b3 g u => ih (i + 1) (by omega) (by omega) bu A n cap h b3 g u
        clear ih
        have hpl := hpre i
        have hsx := hsm x hxm
        have hor := hxo.1
        have hrt : ∀ o ∈ x.ops, rightB o i ps.length = true := by
          have := (check_prog h1 (k := i) (m := x.m) (by rw [List.getElem?_map, hx]; rfl)).2.2
          rwa [List.length_map] at this
        have htk : printL ((ps.take (i + 1)).map PG.m) = printL ((ps.take i).map PG.m) ++ progL x.m := by rw [List.take_add_one, hx, List.map_append, printL_app]; simp [printL]
        rw [htk] at hih
        generalize printL ((ps.take i).map PG.m) = O at *
        obtain ⟨xn, xA, xc, ops⟩ := x
        obtain ⟨nl, rfl⟩ : ∃ l, xn = strL l := ⟨_, strL_of xn⟩
        have hnl : nl.length ≤ 64 := hsx.1
        have hol : ops.length ≤ 64 := hsx.2.1
        have hol2 : ∀ o ∈ ops, (lineL o).length ≤ 4000 := hsx.2.2
        have hpr : progL (PG.m ⟨strL nl, xA, xc, ops⟩) = headL ++ nl ++ [10] ++ opLn ops := rfl
        rw [hpr] at hih
        have hh : headL.length = 5 := rfl
        have K : ∀ (e j : Nat), ops.length - j = e → j ≤ ops.length → ∀ (A3 : Option Addr) (n3 c3 : Nat), (O ++ (headL ++ nl ++ [10]) ++ opLn (ops.take j)).length = n3 → ∀ (b0 g : Nat) (u : Nat → Value), Hs Tryz.prog 13 (PrintR (ps.map PG.m) w) (Tryz.f13).ntmps w [] [b0, g] ⟨.no, loopAt Tryz.f13 1, pins [(5, .c (.p 0 0)), (6, .c (.v (.func (.func 21) #[] #[.pointer (some ⟨b0, 0, none⟩)]))), (17, .c (.v (.slice (some ⟨ab, aoff, none⟩) ps.length c))), (18, .c (.v (.int .i64 ps.length))), (19, .c (.v (.int .i64 i))), (29, .c (.v (.slice xA ops.length xc))), (30, .c (.v (.int .i64 ops.length))), (31, .c (.v (.int .i64 j)))] (.vals u), [buB b0 true A3 n3 c3, .s A3 c3 n3 5 1 ((u8v (O ++ (headL ++ nl ++ [10]) ++ opLn (ops.take j))).flatMap cu8)]⟩ := by
          intro e
          induction e with
          | zero =>
            intro j he hj A3 n3 c3 hn3 b0 g u
            obtain rfl : j = ops.length := by omega
            rw [List.take_length] at hn3 ⊢
            rw [List.append_assoc] at hn3 ⊢
            refine Hs.run0 300 (fun _ => by kernel_rfl) ?_
            refine Hs.condP ((ops.length : Int) < (ops.length : Int)) (by kernel_rfl) (fun h => by omega) (fun _ => ?_)
            refine Hs.run0 300 (fun _ => by kernel_rfl) ?_
            refine Hs.slot 19 (.c (.v (.int .i64 (i + 1 : Nat)))) rfl ((by kernel_rfl : _ = Value.int .i64 (IntKind.i64.wrap ((i : Int) + 1))).trans (wrap_nextJ hlen)) ?_
            refine Hs.loop (by kernel_rfl) ?_
            exact Hs.goto (loopAt Tryz.f13 0) [0, 1] [buB b0 true A3 n3 c3, .s A3 c3 n3 5 1 ((u8v (O ++ (headL ++ nl ++ [10] ++ opLn ops))).flatMap cu8)] [(5, .c (.p 0 0)), (6, .c (.v (.func (.func 21) #[] #[.pointer (some ⟨b0, 0, none⟩)]))), (17, .c (.v (.slice (some ⟨ab, aoff, none⟩) ps.length c))), (18, .c (.v (.int .i64 ps.length))), (19, .c (.v (.int .i64 (i + 1 : Nat))))] (by kernel_rfl) (by decide) (by kernel_rfl) (by kernel_rfl) (fun _ => (by kernel_rfl)) (fun u => hih true A3 n3 c3 hn3 b0 g u)
          | succ e ihk =>
            intro j he hj A3 n3 c3 hn3 b0 g u
            have hjl : j < ops.length := by omega
            obtain ⟨y, hy⟩ : ∃ y, ops[j]? = some y := ⟨_, List.getElem?_eq_getElem hjl⟩
            have hym : y ∈ ops := List.mem_of_getElem? hy
            obtain ⟨ob, ooff, hO, _, _⟩ := hor (by show 0 < ops.length; omega)
            dsimp only at hO
            have hihk := fun A n c h b0 g u => ihk (j + 1) (by omega) (by omega) A n c h b0 g u
            clear ihk
            have hor2 := hor
            dsimp only at hor2
            rw [hO] at hihk hor2 ⊢
            have hjk : opLn (ops.take (j + 1)) = opLn (ops.take j) ++ (lineL y ++ [10]) := by rw [List.take_add_one, hy, opLn_app]; simp [opLn]
            have hrd2 := hrt y hym
            obtain ⟨k, r, F, hk16⟩ := right_fit (by omega) (by omega) hrd2
            have hyt := right_text (by omega) (by omega) hrd2
            have hyl := hol2 y hym
            have hb3 : (opLn (ops.take j)).length ≤ 64 * 4001 := Nat.le_trans (opLn_len fun o ho => hol2 o (List.mem_of_mem_take ho)) (Nat.mul_le_mul_right _ (by rw [List.length_take]; omega))
            have hn4 : n3 ≤ 32 * 260000 + 70 + 64 * 4001 := by rw [← hn3]; simp; omega
            rw [hjk, ← List.append_assoc] at hihk
            generalize O ++ (headL ++ nl ++ [10]) ++ opLn (ops.take j) = O3 at *
            refine Hs.run0 300 (fun _ => by kernel_rfl) ?_
            refine Hs.condP ((j : Int) < (ops.length : Int)) (by kernel_rfl) (fun _ => ?_) (fun h => by omega)
            refine Hs.run0 300 (fun _ => by kernel_rfl) ?_
            refine Hs.idx (b := ob) (off := ooff) (len := ops.length) (c := xc) (i := j) elemPo hjl (by kernel_rfl) ?_
            refine Hs.ldx (cf := cOP) (size := 4) (E := 36) (b := ob) (off := ooff) (i := j) (l := ops) (x := y) cOP_len (.g y.sc) (by kernel_rfl) (fun w' H => hor2.only H.only) hy (by kernel_rfl) (by kernel_rfl) rfl (by kernel_rfl) ?_
            refine Hs.run1 300 (fun _ => by kernel_rfl) fun b2 => ?_
            refine Hs.callV (v := .string (strL (lineL y))) (fun w' H => line_any y k r F hk16 hyt w' (hS.only H.only)) (by kernel_rfl) ?_
            refine Hs.run0 300 (fun _ => by kernel_rfl) ?_
            refine Hs.callBS 0 1 (T := 65) (cs0 := [.v (bdV b0 true), .v (.slice A3 n3 c3)]) (.tuple #[]) (fun A' cap' => [.v (bdV b0 true), .v (.slice A' (n3 + ((lineL y).length + 1)) cap')]) (u8v O3) (u8v (O3 ++ (lineL y ++ [10]))) n3 (n3 + ((lineL y).length + 1)) (by rw [u8v_len, hn3]) (by rw [u8v_len]; simp [hn3]) (by decide) (by kernel_rfl) (by kernel_rfl) (fun w' H hB hW hne => put_any19 b0 true A3 n3 c3 O3 (lineL y) w' ⟨hB, hW, by rw [u8v_len, hn3], hne⟩ (by omega)) (by kernel_rfl) (by kernel_rfl) (fun _ _ => (by kernel_rfl)) fun A4 c4 _ _ => ?_
            refine Hs.run0 300 (fun _ => by kernel_rfl) ?_
            refine Hs.slot 31 (.c (.v (.int .i64 (j + 1 : Nat)))) rfl ((by kernel_rfl : _ = Value.int .i64 (IntKind.i64.wrap ((j : Int) + 1))).trans (wrap_nextJ (Nat.le_trans hxo.2.1 hxo.2.2))) ?_
            refine Hs.loop (by kernel_rfl) ?_
            exact Hs.goto (loopAt Tryz.f13 1) [0, 1] [buB b0 true A4 (n3 + ((lineL y).length + 1)) c4, .s A4 c4 (n3 + ((lineL y).length + 1)) 5 1 ((u8v (O3 ++ (lineL y ++ [10]))).flatMap cu8)] [(5, .c (.p 0 0)), (6, .c (.v (.func (.func 21) #[] #[.pointer (some ⟨b0, 0, none⟩)]))), (17, .c (.v (.slice (some ⟨ab, aoff, none⟩) ps.length c))), (18, .c (.v (.int .i64 ps.length))), (19, .c (.v (.int .i64 i))), (29, .c (.v (.slice (some ⟨ob, ooff, none⟩) ops.length xc))), (30, .c (.v (.int .i64 ops.length))), (31, .c (.v (.int .i64 (j + 1 : Nat))))] (by kernel_rfl) (by decide) (by kernel_rfl) (by kernel_rfl) (fun _ => (by kernel_rfl)) (fun u => hihk A4 (n3 + ((lineL y).length + 1)) c4 (by simp [hn3]) b0 g u)
        refine Hs.run0 300 (fun _ => by kernel_rfl) ?_
        refine Hs.condP ((i : Int) < (ps.length : Int)) (by kernel_rfl) (fun _ => ?_) (fun h => by omega)
        refine Hs.run0 300 (fun _ => by kernel_rfl) ?_
        refine Hs.idx (b := ab) (off := aoff) (len := ps.length) (c := c) (i := i) elemPr hil (by kernel_rfl) ?_
        refine Hs.ldx (cf := cPG) (size := 2) (E := 33) (b := ab) (off := aoff) (i := i) (l := ps) (x := ⟨strL nl, xA, xc, ops⟩) cPG_len (.g (PG.sc ⟨strL nl, xA, xc, ops⟩)) (by kernel_rfl) (fun w' H => hrd.only H.only) hx (by kernel_rfl) (by kernel_rfl) rfl (by kernel_rfl) ?_
        refine Hs.run1 8 (fun _ => by kernel_rfl) fun b2 => ?_
        refine Hs.cat (T := 9) headL nl (by omega) (by kernel_rfl) ?_
        refine Hs.run0 300 (fun _ => by kernel_rfl) ?_
        refine Hs.callBS 0 1 (T := 65) (cs0 := [.v (bdV b0 bu), .v (.slice A2 n c2)]) (.tuple #[]) (fun A' cap' => [.v (bdV b0 true), .v (.slice A' (n + ((headL ++ nl).length + 1)) cap')]) (u8v O) (u8v (O ++ (headL ++ nl ++ [10]))) n (n + ((headL ++ nl).length + 1)) (by rw [u8v_len, hn]) (by rw [u8v_len]; simp only [List.length_append, List.length_cons, List.length_nil, hn]; try omega) (by decide) (by kernel_rfl) (by kernel_rfl) (fun w' H hB hW hne => put_any19 b0 bu A2 n c2 O (headL ++ nl) w' ⟨hB, hW, by rw [u8v_len, hn], hne⟩ (by simp; omega)) (by kernel_rfl) (by kernel_rfl) (fun _ _ => (by kernel_rfl)) fun A4 c4 _ _ => ?_
        refine Hs.run0 300 (fun _ => by kernel_rfl) ?_
        refine Hs.loop (by kernel_rfl) ?_
        have e0 : O ++ (headL ++ nl ++ [10]) = O ++ (headL ++ nl ++ [10]) ++ opLn (ops.take 0) := by simp [opLn]
        exact Hs.goto (loopAt Tryz.f13 1) [0, 1] [buB b0 true A4 (n + ((headL ++ nl).length + 1)) c4, .s A4 c4 (n + ((headL ++ nl).length + 1)) 5 1 ((u8v (O ++ (headL ++ nl ++ [10]))).flatMap cu8)] [(5, .c (.p 0 0)), (6, .c (.v (.func (.func 21) #[] #[.pointer (some ⟨b0, 0, none⟩)]))), (17, .c (.v (.slice (some ⟨ab, aoff, none⟩) ps.length c))), (18, .c (.v (.int .i64 ps.length))), (19, .c (.v (.int .i64 i))), (29, .c (.v (.slice xA ops.length xc))), (30, .c (.v (.int .i64 ops.length))), (31, .c (.v (.int .i64 (0 : Nat))))] (by kernel_rfl) (by decide) (by kernel_rfl) (by kernel_rfl) (fun _ => (by kernel_rfl)) (fun u => by
          have := K ops.length 0 (by omega) (by omega) A4 (n + ((headL ++ nl).length + 1)) c4 (by simp only [List.length_append, List.length_cons, List.length_nil, hn, opLn, List.take_zero, List.flatMap_nil]; omega) b0 g u
          rwa [← e0] at this)
    refine Hs.run1 300 (fun _ => by kernel_rfl) fun b0 => ?_
    refine Hs.nilS 5 1 (by kernel_rfl) ?_ (by kernel_rfl)
    refine Hs.loop (by kernel_rfl) ?_
    exact Hs.goto (loopAt Tryz.f13 0) [0, 1] [buB b0 false none 0 0, .s none 0 0 5 1 ((u8v (printL ((ps.take 0).map PG.m))).flatMap cu8)] [(5, .c (.p 0 0)), (6, .c (.v (.func (.func 21) #[] #[.pointer (some ⟨b0, 0, none⟩)]))), (17, .c (.v (.slice (some ⟨ab, aoff, none⟩) ps.length c))), (18, .c (.v (.int .i64 ps.length))), (19, .c (.v (.int .i64 (0 : Nat))))] (by kernel_rfl) (by decide) (by kernel_rfl) (by kernel_rfl) (fun _ => (by kernel_rfl)) (fun u => J ps.length 0 (by omega) (by omega) false none 0 0 (by simp [printL]) b0 0 u)
end Go.Proofs.YtmmcamkmglpgiaaGreatDoor

namespace Go.Proofs.YtmmcamkmglpgiaaGreatDoor
open Go.RowKit
set_option linter.all false
set_option maxRecDepth 100000
theorem arg_of {r : SoR} {v : Int} (h : argI r = v) {k : Nat} (hr : sortRows[k]? = some r) (w : World) : (Instr.index 77 (.agg argsV.toArray) (.int .i64 (k : Int))).run Tryz.prog w = .ok (.int .i64 v) w := h ▸ ix_args hr w
set_option maxHeartbeats 8000000 in
theorem rprint_any (ps : List PG) (A : Option Addr) (c : Nat) (w : World) (h : Pgs w A c ps) : Calls Tryz.prog 14 #[.slice A ps.length c] w (PrintR (ps.map PG.m) w) := by
  have hlen : ps.length ≤ maxLen := Nat.le_trans h.le h.max
  have hck := fun w h => rcheck_any ps A c w h
  unfold CkR at hck
  refine Hs.enter Tryz.func14 [] [] [] [.c (.v (.slice A ps.length c))] (Mem.start0 w) (by kernel_rfl) (by kernel_rfl) ?_
  refine Hs.run0 300 (fun _ => by kernel_rfl) ?_
  refine Hs.callV (v := .int .i64 (checkM (ps.map PG.m))) (fun w' H => hck w' (h.only H.only)) (by kernel_rfl) ?_
  refine Hs.run0 300 (fun _ => by kernel_rfl) ?_
  refine Hs.cond (!decide (checkM (ps.map PG.m) = 0)) (by kernel_rfl) (fun h1 => ?_) (fun h1 => ?_)
  · have h1 : ¬ checkM (ps.map PG.m) = 0 := by simpa using h1
    refine Hs.run0 300 (fun _ => by kernel_rfl) ?_
    exact Hs.ret (v := .tuple #[.string ⟨#[]⟩, .int .i64 (checkM (ps.map PG.m))]) Tryz.func14 (by kernel_rfl) fun w' H => ⟨by rw [if_neg h1]; rfl, H.only⟩
  · have h1 : checkM (ps.map PG.m) = 0 := by simpa using h1
    have hck1 := check_len h1
    rw [List.length_map] at hck1
    have hsm : ∀ x ∈ ps, smallP x.m := fun x hx => check_small h1 x.m (List.mem_map_of_mem hx)
    obtain ⟨ab, aoff, hA, _, _⟩ := h.rd (by omega)
    have hrd := h.rd
    rw [hA] at hrd ⊢
    have hpre : ∀ i, (printL ((ps.take i).map PG.m)).length ≤ 32 * 260000 := fun i => by
      refine Nat.le_trans (printL_len fun m hm => ?_) (Nat.mul_le_mul_right _ ?_)
      · obtain ⟨x, hx, rfl⟩ := List.mem_map.1 hm
        exact hsm x (List.mem_of_mem_take hx)
      · rw [List.length_map, List.length_take]
        omega
    have J : ∀ (d i : Nat), ps.length - i = d → i ≤ ps.length → ∀ (u : Nat → Value), Hs Tryz.prog 14 (PrintR (ps.map PG.m) w) (Tryz.f14).ntmps w [] [] ⟨.no, loopAt Tryz.f14 0, pins [(5, .c (.v (.string (strL (printL ((ps.take i).map PG.m)))))), (15, .c (.v (.slice (some ⟨ab, aoff, none⟩) ps.length c))), (16, .c (.v (.int .i64 ps.length))), (17, .c (.v (.int .i64 i)))] (.vals u), []⟩ := by
      intro d
      induction d with
      | zero =>
        intro i hd hi u
        obtain rfl : i = ps.length := by omega
        rw [List.take_length]
        refine Hs.run0 300 (fun _ => by kernel_rfl) ?_
        refine Hs.condP ((ps.length : Int) < (ps.length : Int)) (by kernel_rfl) (fun h => by omega) (fun _ => ?_)
        refine Hs.run0 300 (fun _ => by kernel_rfl) ?_
        exact Hs.ret (v := .tuple #[.string (strL (printL (ps.map PG.m))), .int .i64 0]) Tryz.func14 (by kernel_rfl) fun w' H => ⟨by rw [if_pos h1, h1], H.only⟩
      | succ d ih =>
        intro i hd hi u
        have hil : i < ps.length := by omega
        obtain ⟨x, hx⟩ : ∃ x, ps[i]? = some x := ⟨_, List.getElem?_eq_getElem hil⟩
        have hxm : x ∈ ps := List.mem_of_getElem? hx
        have hxo := h.all x hxm
        have hih := fun u => ih (i + 1) (by omega) (by omega) u
        clear ih
        have hpl := hpre i
        have hsx := hsm x hxm
        have hor := hxo.1
        have hrt : ∀ o ∈ x.ops, rightB o i ps.length = true := by
          have := (check_prog h1 (k := i) (m := x.m) (by rw [List.getElem?_map, hx]; rfl)).2.2
          rwa [List.length_map] at this
        have htk : printL ((ps.take (i + 1)).map PG.m) = printL ((ps.take i).map PG.m) ++ progL x.m := by rw [List.take_add_one, hx, List.map_append, printL_app]; simp [printL]
        rw [htk] at hih
        generalize printL ((ps.take i).map PG.m) = O at *
        obtain ⟨xn, xA, xc, ops⟩ := x
        obtain ⟨nl, rfl⟩ : ∃ l, xn = strL l := ⟨_, strL_of xn⟩
        have hnl : nl.length ≤ 64 := hsx.1
        have hol : ops.length ≤ 64 := hsx.2.1
        have hol2 : ∀ o ∈ ops, (lineL o).length ≤ 4000 := hsx.2.2
        have hpr : progL (PG.m ⟨strL nl, xA, xc, ops⟩) = headL ++ nl ++ [10] ++ opLn ops := rfl
        rw [hpr] at hih
        have hh : headL.length = 5 := rfl
        have K : ∀ (e j : Nat), ops.length - j = e → j ≤ ops.length → ∀ (u : Nat → Value), Hs Tryz.prog 14 (PrintR (ps.map PG.m) w) (Tryz.f14).ntmps w [] [] ⟨.no, loopAt Tryz.f14 1, pins [(5, .c (.v (.string (strL (O ++ (headL ++ nl ++ [10]) ++ opLn (ops.take j)))))), (15, .c (.v (.slice (some ⟨ab, aoff, none⟩) ps.length c))), (16, .c (.v (.int .i64 ps.length))), (17, .c (.v (.int .i64 i))), (28, .c (.v (.slice xA ops.length xc))), (29, .c (.v (.int .i64 ops.length))), (30, .c (.v (.int .i64 j)))] (.vals u), []⟩ := by
          intro e
          induction e with
          | zero =>
            intro j he hj u
            obtain rfl : j = ops.length := by omega
            rw [List.take_length, List.append_assoc]
            refine Hs.run0 300 (fun _ => by kernel_rfl) ?_
            refine Hs.condP ((ops.length : Int) < (ops.length : Int)) (by kernel_rfl) (fun h => by omega) (fun _ => ?_)
            refine Hs.run0 300 (fun _ => by kernel_rfl) ?_
            refine Hs.slot 17 (.c (.v (.int .i64 (i + 1 : Nat)))) rfl ((by kernel_rfl : _ = Value.int .i64 (IntKind.i64.wrap ((i : Int) + 1))).trans (wrap_nextJ hlen)) ?_
            refine Hs.loop (by kernel_rfl) ?_
            exact Hs.goto (loopAt Tryz.f14 0) [] [] [(5, .c (.v (.string (strL (O ++ (headL ++ nl ++ [10] ++ opLn ops)))))), (15, .c (.v (.slice (some ⟨ab, aoff, none⟩) ps.length c))), (16, .c (.v (.int .i64 ps.length))), (17, .c (.v (.int .i64 (i + 1 : Nat))))] (by kernel_rfl) (by decide) (by kernel_rfl) (by kernel_rfl) (fun _ => (by kernel_rfl)) (fun u => hih u)
          | succ e ihk =>
            intro j he hj u
            have hjl : j < ops.length := by omega
            obtain ⟨y, hy⟩ : ∃ y, ops[j]? = some y := ⟨_, List.getElem?_eq_getElem hjl⟩
            have hym : y ∈ ops := List.mem_of_getElem? hy
            obtain ⟨ob, ooff, hO, _, _⟩ := hor (by show 0 < ops.length; omega)
            dsimp only at hO
            have hihk := fun u => ihk (j + 1) (by omega) (by omega) u
            clear ihk
            have hor2 := hor
            dsimp only at hor2
            have hwl := Nat.le_trans hxo.2.1 hxo.2.2
            dsimp only at hwl
            rw [hO] at hihk hor2 ⊢
            have hjk : opLn (ops.take (j + 1)) = opLn (ops.take j) ++ (lineL y ++ [10]) := by rw [List.take_add_one, hy, opLn_app]; simp [opLn]
            have hrd2 := hrt y hym
            obtain ⟨k, r, F, hk16⟩ := right_fit (by omega) (by omega) hrd2
            have hyt := right_text (by omega) (by omega) hrd2
            have hyl := hol2 y hym
            have hrow := F.row
            have hl := row_word hrow y F.kk
            have hb3 : (opLn (ops.take j)).length ≤ 64 * 4001 := Nat.le_trans (opLn_len fun o ho => hol2 o (List.mem_of_mem_take ho)) (Nat.mul_le_mul_right _ (by rw [List.length_take]; omega))
            have hn4 : (O ++ (headL ++ nl ++ [10]) ++ opLn (ops.take j)).length ≤ 32 * 260000 + 70 + 64 * 4001 := by simp; omega
            rw [hjk, ← List.append_assoc] at hihk
            generalize O ++ (headL ++ nl ++ [10]) ++ opLn (ops.take j) = O3 at *
            have hw7 : r.1.length ≤ 4000 := by rw [hl, List.length_append] at hyl; omega
            have hFa := F.a
            have hFb := F.b
            obtain ⟨yk, ya, yb, yt⟩ := y
            obtain rfl : yk = (k : Int) := F.kk
            dsimp only at hFa hFb hl hyt
            refine Hs.run0 300 (fun _ => by kernel_rfl) ?_
            refine Hs.condP ((j : Int) < (ops.length : Int)) (by kernel_rfl) (fun _ => ?_) (fun h => by omega)
            refine Hs.run0 300 (fun _ => by kernel_rfl) ?_
            refine Hs.idx (b := ob) (off := ooff) (len := ops.length) (c := xc) (i := j) elemRo hjl (by kernel_rfl) ?_
            refine Hs.ldx (cf := cOP) (size := 4) (E := 52) (b := ob) (off := ooff) (i := j) (l := ops) (x := ⟨k, ya, yb, yt⟩) cOP_len (.g (OP9.sc ⟨k, ya, yb, yt⟩)) (by kernel_rfl) (fun w' H => hor2.only H.only) hy (by kernel_rfl) (by kernel_rfl) rfl (by kernel_rfl) ?_
            refine Hs.run1 300 (fun _ => by kernel_rfl) fun b2 => ?_
            refine Hs.any [0] (by kernel_rfl) ?_
            refine Hs.run0 300 (fun _ => by kernel_rfl) ?_
            refine Hs.callV (v := .agg wordsV.toArray) (fun w' H => rwords_any w') (by kernel_rfl) ?_
            refine Hs.takeV 4 (s := Instr.index 75 (.agg wordsV.toArray) (.int .i64 (k : Int))) (rd := [0]) (.c (.v (.string (strL r.1)))) (by kernel_rfl) rfl (fun w _ => ix_words hrow w) ?_
            refine Hs.takeCat (T := 9) (rd := [0]) 5 O3 r.1 (by omega) (by kernel_rfl) ?_
            refine Hs.run0 300 (fun _ => by kernel_rfl) ?_
            refine Hs.any [0] (by kernel_rfl) ?_
            refine Hs.run0 300 (fun _ => by kernel_rfl) ?_
            refine Hs.callV (v := .agg argsV.toArray) (fun w' H => rargs_any w') (by kernel_rfl) ?_
            have hsh := sh_cases hrow
            have hend : ∀ (X : List UInt8), X ++ [10] = O3 ++ (lineL ⟨k, ya, yb, yt⟩ ++ [10]) → ∀ (u : Nat → Value), Hs Tryz.prog 14 (PrintR (ps.map PG.m) w) (Tryz.f14).ntmps w [] [] ⟨.no, loopAt Tryz.f14 1, pins [(5, .c (.v (.string (strL (X ++ [10]))))), (15, .c (.v (.slice (some ⟨ab, aoff, none⟩) ps.length c))), (16, .c (.v (.int .i64 ps.length))), (17, .c (.v (.int .i64 i))), (28, .c (.v (.slice (some ⟨ob, ooff, none⟩) ops.length xc))), (29, .c (.v (.int .i64 ops.length))), (30, .c (.v (.int .i64 (j + 1 : Nat))))] (.vals u), []⟩ := fun X e u => by rw [e]; exact hihk u
            clear hihk hih
            have hdg : ∀ (v : Nat), v ≤ 999999 → (Lib.itoa (v : Int)) = Lib.decDigits v ∧ (Lib.decDigits v).length ≤ 6 := fun v hv => ⟨by unfold Lib.itoa; rw [if_neg (by omega), Int.toNat_natCast], digits_len 5 v (by omega)⟩
            rcases hsh with e0 | e0 | e0 | e0
            · have ha : argI r = 0 := by unfold argI; rw [e0]; rfl
              refine Hs.takeV 3 (s := Instr.index 77 (.agg argsV.toArray) (.int .i64 (k : Int))) (rd := [0]) (.c (.v (.int .i64 0))) (by kernel_rfl) rfl (fun w _ => arg_of ha hrow w) ?_
              refine Hs.run0 300 (fun _ => by kernel_rfl) ?_
              refine Hs.condF (by kernel_rfl) ?_
              refine Hs.run0 300 (fun _ => by kernel_rfl) ?_
              refine Hs.condF (by kernel_rfl) ?_
              refine Hs.run0 300 (fun _ => by kernel_rfl) ?_
              refine Hs.condF (by kernel_rfl) ?_
              refine Hs.runR0 20 [] 300 (fun _ => by kernel_rfl) ?_
              refine Hs.run0 2 (fun _ => by kernel_rfl) ?_
              refine Hs.cat (T := 9) (O3 ++ r.1) [10] (by simp; omega) (by kernel_rfl) ?_
              refine Hs.run0 300 (fun _ => by kernel_rfl) ?_
              refine Hs.slot 30 (.c (.v (.int .i64 (j + 1 : Nat)))) rfl ((by kernel_rfl : _ = Value.int .i64 (IntKind.i64.wrap ((j : Int) + 1))).trans (wrap_nextJ hwl)) ?_
              refine Hs.loop (by kernel_rfl) ?_
              exact Hs.goto (loopAt Tryz.f14 1) [] [] [(5, .c (.v (.string (strL (O3 ++ r.1 ++ [10]))))), (15, .c (.v (.slice (some ⟨ab, aoff, none⟩) ps.length c))), (16, .c (.v (.int .i64 ps.length))), (17, .c (.v (.int .i64 i))), (28, .c (.v (.slice (some ⟨ob, ooff, none⟩) ops.length xc))), (29, .c (.v (.int .i64 ops.length))), (30, .c (.v (.int .i64 (j + 1 : Nat))))] (by kernel_rfl) (by decide) (by kernel_rfl) (by kernel_rfl) (fun _ => (by kernel_rfl)) (fun u => hend (O3 ++ r.1) (by rw [hl, e0]; simp) u)
            · have ha : argI r = 1 := by unfold argI; rw [e0]; rfl
              refine Hs.takeV 3 (s := Instr.index 77 (.agg argsV.toArray) (.int .i64 (k : Int))) (rd := [0]) (.c (.v (.int .i64 1))) (by kernel_rfl) rfl (fun w _ => arg_of ha hrow w) ?_
              refine Hs.run0 300 (fun _ => by kernel_rfl) ?_
              have hFa := hFa (.inl e0)
              obtain ⟨va, rfl⟩ : ∃ v : Nat, ya = v := ⟨ya.toNat, by omega⟩
              obtain ⟨ea, la⟩ := hdg va (by omega)
              refine Hs.condT (by kernel_rfl) ?_
              refine Hs.run0 300 (fun _ => by kernel_rfl) ?_
              refine Hs.callV (v := .string (strL (Lib.decDigits va))) (fun w' H => rdigits_any va (by omega) w') (by kernel_rfl) ?_
              refine Hs.cat (T := 9) [32] (Lib.decDigits va) (by simp; omega) (by kernel_rfl) ?_
              refine Hs.cat (T := 9) (O3 ++ r.1) ([32] ++ Lib.decDigits va) (by simp; omega) (by kernel_rfl) ?_
              refine Hs.runR0 20 [] 300 (fun _ => by kernel_rfl) ?_
              refine Hs.run0 2 (fun _ => by kernel_rfl) ?_
              refine Hs.cat (T := 9) (O3 ++ r.1 ++ ([32] ++ Lib.decDigits va)) [10] (by simp; omega) (by kernel_rfl) ?_
              refine Hs.run0 300 (fun _ => by kernel_rfl) ?_
              refine Hs.slot 30 (.c (.v (.int .i64 (j + 1 : Nat)))) rfl ((by kernel_rfl : _ = Value.int .i64 (IntKind.i64.wrap ((j : Int) + 1))).trans (wrap_nextJ hwl)) ?_
              refine Hs.loop (by kernel_rfl) ?_
              exact Hs.goto (loopAt Tryz.f14 1) [] [] [(5, .c (.v (.string (strL (O3 ++ r.1 ++ ([32] ++ Lib.decDigits va) ++ [10]))))), (15, .c (.v (.slice (some ⟨ab, aoff, none⟩) ps.length c))), (16, .c (.v (.int .i64 ps.length))), (17, .c (.v (.int .i64 i))), (28, .c (.v (.slice (some ⟨ob, ooff, none⟩) ops.length xc))), (29, .c (.v (.int .i64 ops.length))), (30, .c (.v (.int .i64 (j + 1 : Nat))))] (by kernel_rfl) (by decide) (by kernel_rfl) (by kernel_rfl) (fun _ => (by kernel_rfl)) (fun u => hend (O3 ++ r.1 ++ ([32] ++ Lib.decDigits va)) (by rw [hl, e0]; simp [ea]) u)
            · have ha : argI r = 2 := by unfold argI; rw [e0]; rfl
              refine Hs.takeV 3 (s := Instr.index 77 (.agg argsV.toArray) (.int .i64 (k : Int))) (rd := [0]) (.c (.v (.int .i64 2))) (by kernel_rfl) rfl (fun w _ => arg_of ha hrow w) ?_
              refine Hs.run0 300 (fun _ => by kernel_rfl) ?_
              have hFa := hFa (.inr e0)
              have hFb := hFb e0
              obtain ⟨va, rfl⟩ : ∃ v : Nat, ya = v := ⟨ya.toNat, by omega⟩
              obtain ⟨vb, rfl⟩ : ∃ v : Nat, yb = v := ⟨yb.toNat, by omega⟩
              obtain ⟨ea, la⟩ := hdg va (by omega)
              obtain ⟨eb, lb⟩ := hdg vb (by omega)
              refine Hs.condF (by kernel_rfl) ?_
              refine Hs.run0 300 (fun _ => by kernel_rfl) ?_
              refine Hs.condT (by kernel_rfl) ?_
              refine Hs.run0 300 (fun _ => by kernel_rfl) ?_
              refine Hs.any [0] (by kernel_rfl) ?_
              refine Hs.run0 300 (fun _ => by kernel_rfl) ?_
              refine Hs.callV (v := .string (strL (Lib.decDigits va))) (fun w' H => rdigits_any va (by omega) w') (by kernel_rfl) ?_
              refine Hs.takeCat (T := 9) (rd := [0]) 4 [32] (Lib.decDigits va) (by simp; omega) (by kernel_rfl) ?_
              refine Hs.takeCat (T := 9) (rd := [0]) 5 ([32] ++ Lib.decDigits va) [32] (by simp; omega) (by kernel_rfl) ?_
              refine Hs.run0 300 (fun _ => by kernel_rfl) ?_
              refine Hs.callV (v := .string (strL (Lib.decDigits vb))) (fun w' H => rdigits_any vb (by omega) w') (by kernel_rfl) ?_
              refine Hs.takeCat (T := 9) (rd := [0]) 9 ([32] ++ Lib.decDigits va ++ [32]) (Lib.decDigits vb) (by simp; omega) (by kernel_rfl) ?_
              refine Hs.takeCat (T := 9) (rd := [0]) 10 (O3 ++ r.1) ([32] ++ Lib.decDigits va ++ [32] ++ Lib.decDigits vb) (by simp; omega) (by kernel_rfl) ?_
              refine Hs.runR0 20 [] 300 (fun _ => by kernel_rfl) ?_
              refine Hs.run0 2 (fun _ => by kernel_rfl) ?_
              refine Hs.cat (T := 9) (O3 ++ r.1 ++ ([32] ++ Lib.decDigits va ++ [32] ++ Lib.decDigits vb)) [10] (by simp; omega) (by kernel_rfl) ?_
              refine Hs.run0 300 (fun _ => by kernel_rfl) ?_
              refine Hs.slot 30 (.c (.v (.int .i64 (j + 1 : Nat)))) rfl ((by kernel_rfl : _ = Value.int .i64 (IntKind.i64.wrap ((j : Int) + 1))).trans (wrap_nextJ hwl)) ?_
              refine Hs.loop (by kernel_rfl) ?_
              exact Hs.goto (loopAt Tryz.f14 1) [] [] [(5, .c (.v (.string (strL (O3 ++ r.1 ++ ([32] ++ Lib.decDigits va ++ [32] ++ Lib.decDigits vb) ++ [10]))))), (15, .c (.v (.slice (some ⟨ab, aoff, none⟩) ps.length c))), (16, .c (.v (.int .i64 ps.length))), (17, .c (.v (.int .i64 i))), (28, .c (.v (.slice (some ⟨ob, ooff, none⟩) ops.length xc))), (29, .c (.v (.int .i64 ops.length))), (30, .c (.v (.int .i64 (j + 1 : Nat))))] (by kernel_rfl) (by decide) (by kernel_rfl) (by kernel_rfl) (fun _ => (by kernel_rfl)) (fun u => hend (O3 ++ r.1 ++ ([32] ++ Lib.decDigits va ++ [32] ++ Lib.decDigits vb)) (by rw [hl, e0]; simp [ea, eb]) u)
            · have ha : argI r = 9 := by unfold argI; rw [e0]; rfl
              refine Hs.takeV 3 (s := Instr.index 77 (.agg argsV.toArray) (.int .i64 (k : Int))) (rd := [0]) (.c (.v (.int .i64 9))) (by kernel_rfl) rfl (fun w _ => arg_of ha hrow w) ?_
              refine Hs.run0 300 (fun _ => by kernel_rfl) ?_
              have l1 := writL_len yt.data.toList
              have l2 : yt.data.toList.length = yt.size := rfl
              refine Hs.condF (by kernel_rfl) ?_
              refine Hs.run0 300 (fun _ => by kernel_rfl) ?_
              refine Hs.condF (by kernel_rfl) ?_
              refine Hs.run0 300 (fun _ => by kernel_rfl) ?_
              refine Hs.condT (by kernel_rfl) ?_
              refine Hs.run0 300 (fun _ => by kernel_rfl) ?_
              refine Hs.callV (v := .string (strL (writL yt.data.toList))) (fun w' H => (strL_of yt) ▸ rescaped_any yt.data.toList (by omega) w') (by kernel_rfl) ?_
              refine Hs.cat (T := 9) [32] (writL yt.data.toList) (by simp; omega) (by kernel_rfl) ?_
              refine Hs.cat (T := 9) (O3 ++ r.1) ([32] ++ writL yt.data.toList) (by simp; omega) (by kernel_rfl) ?_
              refine Hs.runR0 20 [] 300 (fun _ => by kernel_rfl) ?_
              refine Hs.run0 2 (fun _ => by kernel_rfl) ?_
              refine Hs.cat (T := 9) (O3 ++ r.1 ++ ([32] ++ writL yt.data.toList)) [10] (by simp; omega) (by kernel_rfl) ?_
              refine Hs.run0 300 (fun _ => by kernel_rfl) ?_
              refine Hs.slot 30 (.c (.v (.int .i64 (j + 1 : Nat)))) rfl ((by kernel_rfl : _ = Value.int .i64 (IntKind.i64.wrap ((j : Int) + 1))).trans (wrap_nextJ hwl)) ?_
              refine Hs.loop (by kernel_rfl) ?_
              exact Hs.goto (loopAt Tryz.f14 1) [] [] [(5, .c (.v (.string (strL (O3 ++ r.1 ++ ([32] ++ writL yt.data.toList) ++ [10]))))), (15, .c (.v (.slice (some ⟨ab, aoff, none⟩) ps.length c))), (16, .c (.v (.int .i64 ps.length))), (17, .c (.v (.int .i64 i))), (28, .c (.v (.slice (some ⟨ob, ooff, none⟩) ops.length xc))), (29, .c (.v (.int .i64 ops.length))), (30, .c (.v (.int .i64 (j + 1 : Nat))))] (by kernel_rfl) (by decide) (by kernel_rfl) (by kernel_rfl) (fun _ => (by kernel_rfl)) (fun u => hend (O3 ++ r.1 ++ ([32] ++ writL yt.data.toList)) (by rw [hl, e0]; simp) u)
        refine Hs.run0 300 (fun _ => by kernel_rfl) ?_
        refine Hs.condP ((i : Int) < (ps.length : Int)) (by kernel_rfl) (fun _ => ?_) (fun h => by omega)
        refine Hs.run0 300 (fun _ => by kernel_rfl) ?_
        refine Hs.idx (b := ab) (off := aoff) (len := ps.length) (c := c) (i := i) elemRp hil (by kernel_rfl) ?_
        refine Hs.ldx (cf := cPG) (size := 2) (E := 51) (b := ab) (off := aoff) (i := i) (l := ps) (x := ⟨strL nl, xA, xc, ops⟩) cPG_len (.g (PG.sc ⟨strL nl, xA, xc, ops⟩)) (by kernel_rfl) (fun w' H => hrd.only H.only) hx (by kernel_rfl) (by kernel_rfl) rfl (by kernel_rfl) ?_
        refine Hs.run1 8 (fun _ => by kernel_rfl) fun b2 => ?_
        refine Hs.cat (T := 9) headL nl (by omega) (by kernel_rfl) ?_
        refine Hs.cat (T := 9) (headL ++ nl) [10] (by simp; omega) (by kernel_rfl) ?_
        refine Hs.cat (T := 9) O (headL ++ nl ++ [10]) (by simp; omega) (by kernel_rfl) ?_
        refine Hs.run0 300 (fun _ => by kernel_rfl) ?_
        refine Hs.loop (by kernel_rfl) ?_
        have e0 : O ++ (headL ++ nl ++ [10]) = O ++ (headL ++ nl ++ [10]) ++ opLn (ops.take 0) := by simp [opLn]
        exact Hs.goto (loopAt Tryz.f14 1) [] [] [(5, .c (.v (.string (strL (O ++ (headL ++ nl ++ [10])))))), (15, .c (.v (.slice (some ⟨ab, aoff, none⟩) ps.length c))), (16, .c (.v (.int .i64 ps.length))), (17, .c (.v (.int .i64 i))), (28, .c (.v (.slice xA ops.length xc))), (29, .c (.v (.int .i64 ops.length))), (30, .c (.v (.int .i64 (0 : Nat))))] (by kernel_rfl) (by decide) (by kernel_rfl) (by kernel_rfl) (fun _ => (by kernel_rfl)) (fun u => by
          have := K ops.length 0 (by omega) (by omega) u
          rwa [← e0] at this)
    refine Hs.run0 300 (fun _ => by kernel_rfl) ?_
    refine Hs.loop (by kernel_rfl) ?_
    exact Hs.goto (loopAt Tryz.f14 0) [] [] [(5, .c (.v (.string (strL (printL ((ps.take 0).map PG.m)))))), (15, .c (.v (.slice (some ⟨ab, aoff, none⟩) ps.length c))), (16, .c (.v (.int .i64 ps.length))), (17, .c (.v (.int .i64 (0 : Nat))))] (by kernel_rfl) (by decide) (by kernel_rfl) (by kernel_rfl) (fun _ => (by kernel_rfl)) (fun u => J ps.length 0 (by omega) (by omega) u)
end Go.Proofs.YtmmcamkmglpgiaaGreatDoor

namespace Go.Proofs.YtmmcamkmglpgiaaGreatDoor
set_option linter.all false
set_option maxRecDepth 100000
open Go.RowKit
section
variable {P : Program} {f : FuncId} {R : Ending → World → Prop} {n : Nat} {w0 : World} {L : List Nat} {β : List Nat} {m : SM}
def isI64 : Value → Bool
  | .int .i64 _ => true
  | _ => false
def isBoo : Value → Bool
  | .bool _ => true
  | _ => false
def isBoo? : Option Value → Bool
  | some (.bool _) => true
  | _ => false
theorem isI64_ex {v : Value} (h : isI64 v = true) : ∃ N, v = .int .i64 N := by
  unfold isI64 at h
  split at h
  · exact ⟨_, rfl⟩
  · cases h
theorem isBoo_ex {v : Value} (h : isBoo v = true) : ∃ b, v = .bool b := by
  unfold isBoo at h
  split at h
  · exact ⟨_, rfl⟩
  · cases h
/-- A slot holds some number. -/
theorem Hs.anyI (d : Nat) (h : isI64 ((m.sl.at d).den β) = true) (k : ∀ N : Int, Hs P f R n w0 L β ⟨m.r, m.todo, .put d (.c (.v (.int .i64 N))) m.sl, m.hp⟩) : Hs P f R n w0 L β m := by
  obtain ⟨N, hN⟩ := isI64_ex h
  exact Hs.slot d (.c (.v (.int .i64 N))) rfl hN (k N)
/-- A slot holds some truth value. -/
theorem Hs.anyB (d : Nat) (h : isBoo ((m.sl.at d).den β) = true) (ht : Hs P f R n w0 L β ⟨m.r, m.todo, .put d (.c (.v (.bool true))) m.sl, m.hp⟩) (hf : Hs P f R n w0 L β ⟨m.r, m.todo, .put d (.c (.v (.bool false))) m.sl, m.hp⟩) : Hs P f R n w0 L β m := by
  obtain ⟨b, hb⟩ := isBoo_ex h
  exact Hs.bool d b hb (fun _ => ht) (fun _ => hf)
/-- A condition that may go either way. -/
theorem Hs.condX (h : isBoo? (condOf n β m) = true) (ht : Hs P f R n w0 L β (thenM m)) (hf : Hs P f R n w0 L β (elseM m)) : Hs P f R n w0 L β m := by
  unfold isBoo? at h
  split at h
  · rename_i b hb; exact Hs.cond b hb (fun _ => ht) (fun _ => hf)
  · cases h
end
/-- What is not more than is looked at. -/
structure PgSmall (ps : List PG) : Prop where
  len : ps.length ≤ 61
  ops : ∀ x ∈ ps, x.ops.length ≤ 101
abbrev GrPost (ps : List PG) (w : World) : Ending → World → Prop := fun e w' => ∃ b : Bool, e = .returned (.bool b) ∧ Only [] w w' ∧ (b = false → PgSmall ps)
set_option maxHeartbeats 4000000 in
theorem great19_any (ps : List PG) (A : Option Addr) (c : Nat) (w : World) (h : Pgs w A c ps) : Calls Tryz.prog 7 #[.slice A ps.length c] w (GrPost ps w) := by
  have hlen : ps.length ≤ maxLen := Nat.le_trans h.le h.max
  have J : ∀ (d i : Nat), ps.length - i = d → i ≤ ps.length → i ≤ 61 → (∀ x ∈ ps.take i, x.ops.length ≤ 101) → ∀ (N : Int) (u : Nat → Value), Hs Tryz.prog 7 (GrPost ps w) (Tryz.f7).ntmps w [] [] ⟨.no, loopAt Tryz.f7 0, pins [(3, .c (.v (.int .i64 N))), (8, .c (.v (.slice A ps.length c))), (9, .c (.v (.int .i64 ps.length))), (10, .c (.v (.int .i64 i)))] (.vals u), []⟩ := by
    intro d
    induction d with
    | zero =>
      intro i hd hi hi2 hq N u
      obtain rfl : i = ps.length := by omega
      rw [List.take_length] at hq
      refine Hs.run0 300 (fun _ => by kernel_rfl) ?_
      refine Hs.condP ((ps.length : Int) < (ps.length : Int)) (by kernel_rfl) (fun h => by omega) (fun _ => ?_)
      refine Hs.run0 300 (fun _ => by kernel_rfl) ?_
      exact Hs.ret (v := .bool false) Tryz.func7 (by kernel_rfl) fun w' H => ⟨false, rfl, H.only, fun _ => ⟨hi2, hq⟩⟩
    | succ d ih =>
      intro i hd hi hi2 hq N u
      have hil : i < ps.length := by omega
      obtain ⟨x, hx⟩ : ∃ x, ps[i]? = some x := ⟨_, List.getElem?_eq_getElem hil⟩
      have hxo := h.all x (List.mem_of_getElem? hx)
      obtain ⟨ab, aoff, hA, _, _⟩ := h.rd (by omega)
      have hih := fun h1 h2 N u => ih (i + 1) (by omega) (by omega) h1 h2 N u
      clear ih
      have hrd := h.rd
      rw [hA] at hih hrd ⊢
      have K : ∀ (e j : Nat), x.ops.length - j = e → j ≤ x.ops.length → j ≤ 101 → ∀ (g : Nat) (N : Int) (u : Nat → Value), Hs Tryz.prog 7 (GrPost ps w) (Tryz.f7).ntmps w [] [g] ⟨.no, loopAt Tryz.f7 1, pins [(3, .c (.v (.int .i64 N))), (4, .c (.v (.int .i64 i))), (5, .c (.p 0 0)), (8, .c (.v (.slice (some ⟨ab, aoff, none⟩) ps.length c))), (9, .c (.v (.int .i64 ps.length))), (10, .c (.v (.int .i64 i))), (28, .c (.v (.slice x.A x.ops.length x.c))), (29, .c (.v (.int .i64 x.ops.length))), (30, .c (.v (.int .i64 j)))] (.vals u), [.b true 51 x.sc]⟩ := by
        intro e
        induction e with
        | zero =>
          intro j he hj hj2 g N u
          obtain rfl : j = x.ops.length := by omega
          refine Hs.run0 300 (fun _ => by kernel_rfl) ?_
          refine Hs.condP ((x.ops.length : Int) < (x.ops.length : Int)) (by kernel_rfl) (fun h => by omega) (fun _ => ?_)
          refine Hs.run0 300 (fun _ => by kernel_rfl) ?_
          refine Hs.bool 51 (decide ((i : Int) > 60)) (by kernel_rfl) (fun _ => ?_) (fun h1 => ?_)
          · refine Hs.rung0 [2] 300 (fun _ => by kernel_rfl) ?_
            refine Hs.condT (by kernel_rfl) ?_
            refine Hs.run0 300 (fun _ => by kernel_rfl) ?_
            exact Hs.ret (v := .bool true) Tryz.func7 (by kernel_rfl) fun w' H => ⟨true, rfl, H.only, fun h => by cases h⟩
          replace h1 : i ≤ 60 := by simp at h1; omega
          refine Hs.rung0 [2] 300 (fun _ => by kernel_rfl) ?_
          refine Hs.condX (by kernel_rfl) ?_ ?_
          · refine Hs.run0 300 (fun _ => by kernel_rfl) ?_
            exact Hs.ret (v := .bool true) Tryz.func7 (by kernel_rfl) fun w' H => ⟨true, rfl, H.only, fun h => by cases h⟩
          refine Hs.run0 300 (fun _ => by kernel_rfl) ?_
          refine Hs.slot 10 (.c (.v (.int .i64 (i + 1 : Nat)))) rfl ((by kernel_rfl : _ = Value.int .i64 (IntKind.i64.wrap ((i : Int) + 1))).trans (wrap_nextJ hlen)) ?_
          refine Hs.loop (by kernel_rfl) ?_
          exact Hs.goto (loopAt Tryz.f7 0) [] [] [(3, .c (.v (.int .i64 N))), (8, .c (.v (.slice (some ⟨ab, aoff, none⟩) ps.length c))), (9, .c (.v (.int .i64 ps.length))), (10, .c (.v (.int .i64 (i + 1 : Nat))))] (by kernel_rfl) (by decide) (by kernel_rfl) (by kernel_rfl) (fun _ => (by kernel_rfl)) (fun u => hih (by omega) (fun y hy => by
            rw [List.take_add_one, hx] at hy
            rcases List.mem_append.1 hy with h2 | h2
            · exact hq y h2
            · rw [Option.mem_toList] at h2
              injection h2 with h2
              rw [← h2]; exact hj2) N u)
        | succ e ihk =>
          intro j he hj hj2 g N u
          have hjl : j < x.ops.length := by omega
          obtain ⟨y, hy⟩ : ∃ y, x.ops[j]? = some y := ⟨_, List.getElem?_eq_getElem hjl⟩
          obtain ⟨ob, ooff, hO, _, _⟩ := hxo.1 (by omega)
          have hihk := fun h1 g N u => ihk (j + 1) (by omega) (by omega) h1 g N u
          clear ihk
          have hor := hxo.1
          have hsc : x.sc = [.v (.string x.n), .v (.slice x.A x.ops.length x.c)] := rfl
          rw [hsc] at hihk ⊢
          rw [hO] at hihk hor ⊢
          refine Hs.run0 300 (fun _ => by kernel_rfl) ?_
          refine Hs.condP ((j : Int) < (x.ops.length : Int)) (by kernel_rfl) (fun _ => ?_) (fun h => by omega)
          refine Hs.run0 300 (fun _ => by kernel_rfl) ?_
          refine Hs.idx (b := ob) (off := ooff) (len := x.ops.length) (c := x.c) (i := j) elemRo hjl (by kernel_rfl) ?_
          refine Hs.ldx (cf := cOP) (size := 4) (E := 52) (b := ob) (off := ooff) (i := j) (l := x.ops) (x := y) cOP_len (.g y.sc) (by kernel_rfl) (fun w' H => hor.only H.only) hy (by kernel_rfl) (by kernel_rfl) rfl (by kernel_rfl) ?_
          refine Hs.run1 300 (fun _ => by kernel_rfl) fun b1 => ?_
          refine Hs.anyI 3 (by kernel_rfl) fun N2 => ?_
          refine Hs.bool 44 (decide ((j : Int) > 100)) (by kernel_rfl) (fun _ => ?_) (fun h1 => ?_)
          · refine Hs.rung0 [2] 300 (fun _ => by kernel_rfl) ?_
            refine Hs.condT (by kernel_rfl) ?_
            refine Hs.run0 300 (fun _ => by kernel_rfl) ?_
            exact Hs.ret (v := .bool true) Tryz.func7 (by kernel_rfl) fun w' H => ⟨true, rfl, H.only, fun h => by cases h⟩
          replace h1 : j ≤ 100 := by simp at h1; omega
          refine Hs.rung0 [2] 300 (fun _ => by kernel_rfl) ?_
          refine Hs.condX (by kernel_rfl) ?_ ?_
          · refine Hs.run0 300 (fun _ => by kernel_rfl) ?_
            exact Hs.ret (v := .bool true) Tryz.func7 (by kernel_rfl) fun w' H => ⟨true, rfl, H.only, fun h => by cases h⟩
          refine Hs.run0 300 (fun _ => by kernel_rfl) ?_
          refine Hs.slot 30 (.c (.v (.int .i64 (j + 1 : Nat)))) rfl ((by kernel_rfl : _ = Value.int .i64 (IntKind.i64.wrap ((j : Int) + 1))).trans (wrap_nextJ (Nat.le_trans hxo.2.1 hxo.2.2))) ?_
          refine Hs.loop (by kernel_rfl) ?_
          exact Hs.goto (loopAt Tryz.f7 1) [0] [.b true 51 [.v (.string x.n), .v (.slice (some ⟨ob, ooff, none⟩) x.ops.length x.c)]] [(3, .c (.v (.int .i64 N2))), (4, .c (.v (.int .i64 i))), (5, .c (.p 0 0)), (8, .c (.v (.slice (some ⟨ab, aoff, none⟩) ps.length c))), (9, .c (.v (.int .i64 ps.length))), (10, .c (.v (.int .i64 i))), (28, .c (.v (.slice (some ⟨ob, ooff, none⟩) x.ops.length x.c))), (29, .c (.v (.int .i64 x.ops.length))), (30, .c (.v (.int .i64 (j + 1 : Nat))))] (by kernel_rfl) (by decide) (by kernel_rfl) (by kernel_rfl) (fun _ => (by kernel_rfl)) (fun u => hihk (by omega) g N2 u)
      refine Hs.run0 300 (fun _ => by kernel_rfl) ?_
      refine Hs.condP ((i : Int) < (ps.length : Int)) (by kernel_rfl) (fun _ => ?_) (fun h => by omega)
      refine Hs.run0 300 (fun _ => by kernel_rfl) ?_
      refine Hs.idx (b := ab) (off := aoff) (len := ps.length) (c := c) (i := i) elemRp hil (by kernel_rfl) ?_
      refine Hs.ldx (cf := cPG) (size := 2) (E := 51) (b := ab) (off := aoff) (i := i) (l := ps) (x := x) cPG_len (.g x.sc) (by kernel_rfl) (fun w' H => hrd.only H.only) hx (by kernel_rfl) (by kernel_rfl) rfl (by kernel_rfl) ?_
      refine Hs.run1 300 (fun _ => by kernel_rfl) fun b1 => ?_
      refine Hs.anyI 3 (by kernel_rfl) fun N2 => ?_
      refine Hs.loop (by kernel_rfl) ?_
      exact Hs.goto (loopAt Tryz.f7 1) [0] [.b true 51 x.sc] [(3, .c (.v (.int .i64 N2))), (4, .c (.v (.int .i64 i))), (5, .c (.p 0 0)), (8, .c (.v (.slice (some ⟨ab, aoff, none⟩) ps.length c))), (9, .c (.v (.int .i64 ps.length))), (10, .c (.v (.int .i64 i))), (28, .c (.v (.slice x.A x.ops.length x.c))), (29, .c (.v (.int .i64 x.ops.length))), (30, .c (.v (.int .i64 (0 : Nat))))] (by kernel_rfl) (by decide) (by kernel_rfl) (by kernel_rfl) (fun _ => (by kernel_rfl)) (fun u => K x.ops.length 0 (by omega) (by omega) (by omega) b1 N2 u)
  refine Hs.enter Tryz.func7 [] [] [] [.c (.v (.slice A ps.length c))] (Mem.start0 w) (by kernel_rfl) (by kernel_rfl) ?_
  refine Hs.run0 300 (fun _ => by kernel_rfl) ?_
  refine Hs.loop (by kernel_rfl) ?_
  exact Hs.goto (loopAt Tryz.f7 0) [] [] [(3, .c (.v (.int .i64 0))), (8, .c (.v (.slice A ps.length c))), (9, .c (.v (.int .i64 ps.length))), (10, .c (.v (.int .i64 (0 : Nat))))] (by kernel_rfl) (by decide) (by kernel_rfl) (by kernel_rfl) (fun _ => (by kernel_rfl)) (fun u => J ps.length 0 (by omega) (by omega) (by omega) (by simp) 0 u)
end Go.Proofs.YtmmcamkmglpgiaaGreatDoor

namespace Go.Proofs.YtmmcamkmglpgiaaGreatDoor
set_option linter.all false
set_option maxRecDepth 100000
open Go.RowKit
/-- A statement that ranges over a function, and what stands behind it. -/
structure RF where
  g : Operand
  ps : Array Tmp
  asg : Code
  body : Code
  k : List Item
def rfIn : Code → List Item → Option RF
  | .seq a b, k => match rfIn a (.code b :: k) with
    | some x => some x
    | none => rfIn b k
  | .cond _ x y, k => match rfIn x k with
    | some z => some z
    | none => rfIn y k
  | .block id c, k => rfIn c (.inBlock id :: k)
  | .scope c, k => rfIn c (.inScope c :: k)
  | .loop c, k => rfIn c (.inLoop c :: k)
  | .rangeFunc g ps a b, k => some ⟨g, ps, a, b, k⟩
  | _, _ => none
def rfOf (fn : Func) : RF := match rfIn (codeOf fn) [] with
  | some x => x
  | none => ⟨.tmp 0, #[], .skip, .skip, []⟩
def RF.todo (r : RF) : List Item := .code (.rangeFunc r.g r.ps r.asg r.body) :: r.k
def RF.round (r : RF) : List Item := [.code r.asg, .beginRound, .code r.body]
section
variable {P : Program} {f : FuncId} {R : Ending → World → Prop} {n : Nat} {w0 : World} {L : List Nat} {β : List Nat} {m : SM}
/-- A call of yield, as the iterator meets it. -/
theorem yieldAt_of {l nn rb : Nat} {t : Tmp} {x : Value} {rf : RF} {W : World} (sl : Slots) (hp : List HB) (hds : sl.ds = []) (hps : rf.ps = #[t]) (hl : W.heap[l]? = some (.loop (recL f (fr n β sl).tmps rf.ps rf.asg rf.body rb .ready none))) (ho : (codeOk rf.asg && codeOk rf.body) = true) (H : Mem W L β hp W) (hw : (sl.wf hp.length && hp.all (HB.wf hp.length)) = true)
    (h : Hs P ⟨f, some l⟩ R n W L β ⟨.no, rf.round, .put t (.c (.v x)) sl, hp⟩) : YieldAt Fence.wide nn P l #[x] W R := by
  refine ⟨f, (fr n β (.put t (.c (.v x)) sl)).tmps, rf.asg, rf.body, ?_, ?_⟩
  · rw [run_yield hl (by rw [show (recL f (fr n β sl).tmps rf.ps rf.asg rf.body rb .ready none).params = rf.ps from rfl, hps]; rfl)]
    have e := fr_put n β sl (some t) (.c (.v x))
    have e2 : (fr n β (.put t (.c (.v x)) sl)).tmps = (fr n β sl).tmps.setIfInBounds t x := by
      show (fr n β (putS (some t) (.c (.v x)) sl)).tmps = _
      rw [← e]
      rfl
    rw [e2]
    have e3 : (#[t].zip #[x]) = #[(t, x)] := by simp
    simp only [recL, hps, e3]
    rfl
  · refine round_of (.put t (.c (.v x)) sl) hp ?_ ho H ?_ h
    · show fr n β (.put t (.c (.v x)) sl) = ⟨_, []⟩
      have : (fr n β (.put t (.c (.v x)) sl)).defers = [] := hds
      rw [← this]
    · simp only [Bool.and_eq_true] at hw ⊢
      refine ⟨?_, hw.2⟩
      exact putS_wf (dst := some t) (v := .c (.v x)) hw.1 rfl
end
section
variable {P : Program} {f : FR} {R : Ending → World → Prop} {n : Nat} {w0 : World} {L : List Nat} {β : List Nat} {m : SM} {α : Type} {cf : α → List Value} {size : Nat}
/-- One cell of an element of a row of ours, in a region that draws. -/
theorem Hs.takeLdC (j k : Nat) (hcl : ∀ x, (cf x).length = size) {E E' : Nat} {rd : List Nat} {g i q cap nl : Nat} {l : List α} {x : α} (v : Value) (hs : semAt j n β m = some (valS (Instr.loadAt E' (.pointer (some ⟨g, 0 + i * size + q, none⟩))), rd)) (hk : m.hp[k]? = some (.s (some ⟨g, 0, none⟩) cap nl E size (l.flatMap cf))) (hkr : rd.contains k = true) (hl : l.length = nl) (hx : l[i]? = some x) (hq : (cf x)[q]? = some v) (ha : aggB P E' = some false)
    (h : Hs P f R n w0 L β (takeM j (.c (.v v)) m)) : Hs P f R n w0 L β m :=
  Hs.takeV j (.c (.v v)) hs rfl (fun w hI => by
    have hr : RdX cf w (some ⟨g, 0, none⟩) l := own_rd hl (hI k (by simpa using hkr) _ hk)
    exact run_ldc ha (rdX_cell hcl hr hx hq)) h
end
/-- What is to be done next: a return. -/
def isRet (m : SM) : Bool := match m.r, m.todo with
  | .no, .code .ret :: _ => true
  | _, _ => false
theorem Hs.rRetB {P : Program} {f : FuncId} {R : Ending → World → Prop} {n : Nat} {w0 : World} {L : List Nat} {β : List Nat} {m : SM} {l : Nat} (ht : isRet m = true) (h : ∀ w, Mem w0 L β m.hp w → ∃ r : Loop, w.heap[l]? = some (.loop r) ∧ R (.returned (.bool false)) (w.putObj l (.loop { r with state := .done, pending := some .ret }))) : Hs P ⟨f, some l⟩ R n w0 L β m := by
  unfold isRet at ht
  split at ht
  · rename_i h1 h2
    exact Hs.rRet ⟨h1, h2⟩ h
  · cases ht
theorem Hs.retCB {P : Program} {f : FuncId} {R : Ending → World → Prop} {n : Nat} {w0 : World} {L : List Nat} {β : List Nat} {m : SM} {fn : Func} {v : Value} {r : Nat} (hf : P.funcs[f]? = some fn) (hds : m.sl.ds = [⟨.collected r, #[]⟩]) (ht : isRet m = true) (hr : retOf P fn n β ⟨.no, [], .dfr [] m.sl, m.hp⟩ = some v) (hro : roOk m.hp = true) (hrL : r ∉ L) (hd : w0.heap[r]? = some (.deferred (some [])))
    (h : ∀ w w', Mem w0 L β m.hp w → w' = w.putObj r (.deferred none) → Mem w' (wrN β m.hp) β m.hp w' → R (.returned v) w') : Hs P f R n w0 L β m := by
  unfold isRet at ht
  split at ht
  · rename_i h1 h2
    exact Hs.retC hf hds (.inr ⟨_, h1, h2⟩) hr hro hrL hd h
  · cases ht
end Go.Proofs.YtmmcamkmglpgiaaGreatDoor

namespace Go.Proofs.YtmmcamkmglpgiaaGreatDoor
open Go.RowKit Go.Shelf
set_option linter.all false
set_option maxRecDepth 100000
noncomputable abbrev rfP : RF := rfOf Tryz.f17
def hpP (outs : List PG) (n : Nat) (A : Option Addr) (c : Nat) (cur : PG) (j : Nat) : List HB := [.b true 29 [.v (.slice none 0 0)], .b true 27 [.v (.int .i64 0)], .b true 29 [.v (.slice A n c)], .s A c n 33 2 (outs.flatMap cPG), .s cur.A cur.c j 36 4 (cur.ops.flatMap cOP)]
abbrev btP (b2 b3 b4 : Nat) : List Nat := [b2, b3, b4, 0, 0]
def slP (Bs : Nat) (u : Nat → Value) : Slots := pins [(2, .c (.p 0 0)), (3, .c (.p 1 0)), (4, .c (.p 2 0)), (23, .c (.v (.func (.func 52) #[] #[.pointer (some ⟨Bs, 0, none⟩)])))] (.vals u)
def outsP (done : List PG) (cur : PG) : Bool → List PG
  | true => done ++ [cur]
  | false => []
theorem hpP_ro (outs : List PG) (n : Nat) (A : Option Addr) (c : Nat) (cur : PG) (j : Nat) : roOk (hpP outs n A c cur j) = true := rfl
noncomputable def tmP (b2 b3 b4 Bs : Nat) (u : Nat → Value) : Array Value := (fr (Tryz.f17).ntmps (btP b2 b3 b4) (slP Bs u)).tmps
noncomputable def rcP (b2 b3 b4 Bs : Nat) (u : Nat → Value) (r : Nat) (st : LoopState) (pe : Option Code) : Loop := recL 17 (tmP b2 b3 b4 Bs u) rfP.ps rfP.asg rfP.body r st pe
/-- Where all lies. -/
structure KP where
  b2 : Nat
  b3 : Nat
  b4 : Nat
  Bs : Nat
  l : Nat
  r : Nat
  u : Nat → Value
def KP.bt (k : KP) : List Nat := btP k.b2 k.b3 k.b4
noncomputable def KP.rc (k : KP) (st : LoopState) (pe : Option Code) : Loop := rcP k.b2 k.b3 k.b4 k.Bs k.u k.r st pe
structure KP.ok (k : KP) (wE : World) : Prop where
  lr : k.l ≠ k.r
  Bl : k.Bs ≠ k.l
  Br : k.Bs ≠ k.r
  l : wE.heap.size ≤ k.l
  r : wE.heap.size ≤ k.r
  B : wE.heap.size ≤ k.Bs
/-- The programs so far. -/
structure StP where
  done : List PG
  cur : PG
  has : Bool
  A : Option Addr
  c : Nat
  n : Nat
  j : Nat
def StP.outs (z : StP) : List PG := outsP z.done z.cur z.has
def StP.hp (z : StP) : List HB := hpP z.outs z.n z.A z.c z.cur z.j
structure StP.ok (z : StP) (m : Nat) : Prop where
  n : z.outs.length = z.n
  j : z.cur.ops.length = z.j
  nm : z.n ≤ m
  jm : z.j ≤ m
structure JP (wE : World) (k : KP) (z : StP) (fp : List Nat) (pre : List (List UInt8)) (bs : List Nat) (W : World) : Prop where
  fold : foldP [] pre = some (z.outs.map PG.m)
  ok : z.ok pre.length
  only : Only [] wE W
  hb : bs = wrN k.bt z.hp
  mem : Mem W bs k.bt z.hp W
  st : StX fp (fun w => ∀ x ∈ z.done, PgOk w x)
  dn : ∀ x ∈ z.done, PgOk W x
  hl : W.heap[k.l]? = some (.loop (k.rc .ready none))
  hr : W.heap[k.r]? = some (.deferred (some []))
  far : ∀ x ∈ bs ++ fp, x ≠ k.l ∧ x ≠ k.r ∧ x ≠ k.Bs ∧ wE.heap.size ≤ x ∧ x < W.heap.size
  ap : ∀ x ∈ fp, x ∉ bs
  BW : k.Bs < W.heap.size
def JQ (wE : World) (k : KP) (pre : List (List UInt8)) (bs : List Nat) (W : World) : Prop := ∃ z fp, JP wE k z fp pre bs W
structure JX (wE : World) (k : KP) (s : List UInt8) (W : World) : Prop where
  fold : foldP [] (linesB s) = none
  only : Only [] wE W
  h2 : Blk W k.b2 29 [.slice none 0 0]
  h3 : Blk W k.b3 27 [.int .i64 4]
  ne : k.b2 ≠ k.b3
  n2 : k.b2 ≠ k.r ∧ k.b2 ≠ k.l
  n3 : k.b3 ≠ k.r ∧ k.b3 ≠ k.l
  o2 : wE.heap.size ≤ k.b2
  o3 : wE.heap.size ≤ k.b3
  hl : W.heap[k.l]? = some (.loop (k.rc .done (some .ret)))
  hr : W.heap[k.r]? = some (.deferred (some []))
/-- A round's facts. -/
def QP (k : KP) (fp : List Nat) (W1 : World) (w : World) : Prop := w.heap[k.l]? = some (.loop (k.rc .busy none)) ∧ w.heap[k.r]? = some (.deferred (some [])) ∧ ∀ x ∈ fp, w.heap[x]? = W1.heap[x]?
theorem QP.st {k : KP} {fp : List Nat} {W1 : World} : StX (k.l :: k.r :: fp) (QP k fp W1) := fun w w' hs he h => by
  refine ⟨(he k.l (by simp)).trans h.1, (he k.r (by simp)).trans h.2.1, fun x hx => (he x (by simp [hx])).trans (h.2.2 x hx)⟩
section
variable {wE W1 w4 w : World} {k : KP} {z z' : StP} {fp fp' bs L4 : List Nat} {pre : List (List UInt8)} {x : List UInt8} {s : List UInt8}
abbrev GP (k : KP) (fp bs : List Nat) : List Nat := bs ++ (k.l :: k.r :: fp)
theorem JP.back (J : JP wE k z fp pre bs W1) (K : k.ok wE) (O : Only (GP k fp bs) W1 w) : Only [] wE w := J.only.trans O fun x hx => .inr (by
  simp only [GP, List.mem_append, List.mem_cons] at hx
  rcases hx with h | rfl | rfl | h
  · exact (J.far x (by simp [h])).2.2.2.1
  · exact K.l
  · exact K.r
  · exact (J.far x (by simp [h])).2.2.2.1)
abbrev RdP (wE : World) (k : KP) (s : List UInt8) (pre : List (List UInt8)) (x : List UInt8) (bs : List Nat) (W1 : World) : Ending → World → Prop := fun e W' => (e = .returned (.bool true) ∧ ∃ bs', JQ wE k (pre ++ [x]) bs' W' ∧ Only (k.l :: bs) W1 W' ∧ ∀ y ∈ bs', y ∈ bs ∨ W1.heap.size ≤ y) ∨ (e = .returned (.bool false) ∧ JX wE k s W')
/-- What a round has done to the world. -/
theorem roundO (J : JP wE k z fp pre bs W1) {Q : World → Prop} (C : Fx W1 (GP k fp bs) w4 L4 (k.l :: k.r :: fp') Q) (hQ : ∀ w, Q w → QP k fp W1 w) {β : List Nat} {hp : List HB} (H : Mem w4 L4 β hp w) (o : Obj) : Only (k.l :: bs) W1 (w.putObj k.l o) := by
  have hQ := hQ w (C.at H)
  have O1 := C.fin H
  refine Only.trans ⟨O1.os, O1.tape, O1.output, O1.size, fun i hi hn => ?_⟩ (only_put w k.l o) (fun y hy => .inl (by simp at hy; simp [hy]))
  simp only [List.mem_cons, not_or] at hn
  by_cases h1 : i = k.r
  · subst h1; rw [hQ.2.1, J.hr]
  by_cases h2 : i ∈ fp
  · exact hQ.2.2 i h2
  exact O1.block i hi (by simp only [GP, List.mem_append, List.mem_cons, not_or]; exact ⟨hn.2, hn.1, h1, h2⟩)
/-- The end of a round. -/
theorem endP (K : k.ok wE) (J : JP wE k z fp pre bs W1) (hfold : stepP (z.outs.map PG.m) x = some (z'.outs.map PG.m)) (hok : z'.ok (pre.length + 1))
    (C : Fx W1 (GP k fp bs) w4 L4 (k.l :: k.r :: fp') (fun w => QP k fp W1 w ∧ ∀ y ∈ z'.done, PgOk w y)) (hst : StX fp' (fun w => ∀ y ∈ z'.done, PgOk w y)) (hfp : ∀ y ∈ fp', y ∈ fp ∨ y ∈ bs) (hsub : ∀ y ∈ fp, y ∈ fp') (H : Mem w4 L4 k.bt z'.hp w) :
    ∃ r : Loop, w.heap[k.l]? = some (.loop r) ∧ RdP wE k s pre x bs W1 (.returned (.bool true)) (w.putObj k.l (.loop { r with state := .ready, pending := none })) := by
  have Q := C.at H
  have O1 := C.fin H
  have hlW : k.l < W1.heap.size := (Array.getElem?_eq_some_iff.1 J.hl).1
  have hrW : k.r < W1.heap.size := (Array.getElem?_eq_some_iff.1 J.hr).1
  have hBW : k.Bs < W1.heap.size := J.BW
  have hlw : k.l < w.heap.size := (Array.getElem?_eq_some_iff.1 Q.1.1).1
  have hsz := O1.size
  have hN : ∀ y ∈ wrN k.bt z'.hp, y ∉ k.l :: k.r :: fp' := fun y hy hm => by
    have h1 := (C.key H y hy).1
    have h2 := C.own y hm
    rcases h1 with h | h
    · exact h2.2.1 h
    · omega
  have hfpG : ∀ y ∈ fp', y ≠ k.l ∧ y ≠ k.r ∧ y ≠ k.Bs ∧ wE.heap.size ≤ y ∧ y < W1.heap.size := fun y hy => J.far y (by rcases hfp y hy with h | h <;> simp [h])
  have hbs : ∀ y ∈ wrN k.bt z'.hp, y ∈ bs ∨ W1.heap.size ≤ y := fun y hy => by
    have hny := hN y hy
    simp only [List.mem_cons, not_or] at hny
    rcases (C.key H y hy).2 with h | h
    · simp only [GP, List.mem_append, List.mem_cons] at h
      rcases h with h | h | h | h
      · exact .inl h
      · exact absurd h hny.1
      · exact absurd h hny.2.1
      · exact absurd (hsub y h) hny.2.2
    · exact .inr h
  have hbig : ∀ (y : Nat) (o : Obj), y < w.heap.size → y < (w.putObj k.l o).heap.size := fun y o h => Nat.lt_of_lt_of_le h (only_put w k.l o).size
  have hG : ∀ y ∈ GP k fp bs, wE.heap.size ≤ y := fun y hy => by
    simp only [GP, List.mem_append, List.mem_cons] at hy
    rcases hy with h | h | h | h
    · exact (J.far y (by simp [h])).2.2.2.1
    · subst h; exact K.l
    · subst h; exact K.r
    · exact (J.far y (by simp [h])).2.2.2.1
  have OE : Only [] wE w := J.back K O1
  have hOp := only_put w k.l (.loop { k.rc .busy none with state := .ready, pending := none })
  refine ⟨k.rc .busy none, Q.1.1, .inl ⟨rfl, wrN k.bt z'.hp, ⟨z', fp', ?_⟩, roundO J C (fun w h => h.1) H _, hbs⟩⟩
  have hput : ∀ (y : Nat), y ≠ k.l → (w.putObj k.l (.loop { k.rc .busy none with state := .ready, pending := none })).heap[y]? = w.heap[y]? := fun y hy => World.putObj_heap_other hy
  refine ⟨(foldP_one J.fold).trans hfold, by rw [List.length_append]; exact hok, OE.trans hOp (fun y hy => .inr (by simp at hy; subst hy; exact K.l)), rfl, Mem.rebaseF H hOp (fun i h y h1 h2 hm => ?_), hst, ?_, World.putObj_heap_same hlw, ?_, fun y hy => ?_, fun y hy hm => ?_, ?_⟩
  · simp only [List.mem_singleton] at hm
    subst hm
    exact C.apart H (hpP_ro ..) i h _ h1 h2 (by simp)
  · exact hst w _ hOp.size (fun y hy => hput y (hfpG y hy).1) Q.2
  · rw [hput k.r (Ne.symm K.lr)]; exact Q.1.2.1
  · rcases List.mem_append.1 hy with h | h
    · have hny := hN y h
      simp only [List.mem_cons, not_or] at hny
      have hlt := H.wrN_lt y h
      rcases hbs y h with h2 | h2
      · have := J.far y (by simp [h2])
        exact ⟨hny.1, hny.2.1, this.2.2.1, this.2.2.2.1, hbig _ _ hlt⟩
      · have := J.only.size
        exact ⟨hny.1, hny.2.1, by omega, by omega, hbig _ _ hlt⟩
    · have := hfpG y h
      exact ⟨this.1, this.2.1, this.2.2.1, this.2.2.2.1, hbig _ _ (by omega)⟩
  · exact hN y hm (by simp [hy])
  · exact hbig _ _ (by omega)
/-- A round that returns. -/
theorem failP (K : k.ok wE) (J : JP wE k z fp pre bs W1) (hfold : stepP (z.outs.map PG.m) x = none) {t : List (List UInt8)} (ht : pre ++ x :: t = linesB s)
    {Q : World → Prop} (C : Fx W1 (GP k fp bs) w4 L4 (k.l :: k.r :: fp') Q) (hQ : ∀ w, Q w → QP k fp W1 w) {β : List Nat} {hp : List HB} (H : Mem w4 L4 β hp w) (h2 : Blk w k.b2 29 [.slice none 0 0]) (h3 : Blk w k.b3 27 [.int .i64 4]) :
    ∃ r : Loop, w.heap[k.l]? = some (.loop r) ∧ RdP wE k s pre x bs W1 (.returned (.bool false)) (w.putObj k.l (.loop { r with state := .done, pending := some .ret })) := by
  have Q := hQ w (C.at H)
  have O1 := C.fin H
  have hlw : k.l < w.heap.size := (Array.getElem?_eq_some_iff.1 Q.1).1
  have OE : Only [] wE w := J.back K O1
  have hOp := only_put w k.l (.loop { k.rc .busy none with state := .done, pending := some .ret })
  have m2 : k.b2 ∈ bs := by rw [J.hb]; exact wrN_mem.2 ⟨0, .b true 29 [.v (.slice none 0 0)], k.b2, rfl, rfl, rfl, rfl⟩
  have m3 : k.b3 ∈ bs := by rw [J.hb]; exact wrN_mem.2 ⟨1, .b true 27 [.v (.int .i64 0)], k.b3, rfl, rfl, rfl, rfl⟩
  have f2 := J.far k.b2 (by simp [m2])
  have f3 := J.far k.b3 (by simp [m3])
  have hne : k.b2 ≠ k.b3 := fun e => by
    have := J.mem.inj 0 1 (.b true 29 [.v (.slice none 0 0)]) (.b true 27 [.v (.int .i64 0)]) k.b2 rfl rfl rfl (by show some k.b3 = some k.b2; rw [e])
    cases this
  refine ⟨k.rc .busy none, Q.1, .inr ⟨rfl, ?_⟩⟩
  have hput : ∀ (y : Nat), y ≠ k.l → (w.putObj k.l (.loop { k.rc .busy none with state := .done, pending := some .ret })).heap[y]? = w.heap[y]? := fun y hy => World.putObj_heap_other hy
  exact ⟨by rw [← ht]; exact foldP_bad J.fold hfold, OE.trans hOp (fun y hy => .inr (by simp at hy; subst hy; exact K.l)), (hput _ f2.1).trans h2, (hput _ f3.1).trans h3, hne, ⟨f2.2.1, f2.1⟩, ⟨f3.2.1, f3.1⟩, f2.2.2.2.1, f3.2.2.2.1, World.putObj_heap_same hlw, (hput _ (Ne.symm K.lr)).trans Q.2.1⟩
end
end Go.Proofs.YtmmcamkmglpgiaaGreatDoor

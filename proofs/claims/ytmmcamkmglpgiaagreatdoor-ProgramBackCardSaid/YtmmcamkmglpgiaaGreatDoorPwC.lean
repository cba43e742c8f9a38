/- Layer 19: whether an operation may be; for all operations; no condition · Layer 19: what is wrong with a program; for all programs; no condition but lengths · Layer 19: what is wrong with programs; for all programs; no condition but lengths · Layer 19: what a line makes of programs, in plain words; the library's functions that Parse calls; no condition but lengths · Layer 19: a text that says programs, in plain words: what is read is printed as it came; no condition · Layer 19: a text as it is written; for all texts; no condition but their length · Layer 19: how many operations a run makes (the closure that calls itself); for all programs whose calls go forward; no other condition · Layer 19: Work; for all programs; no condition but lengths. -/
import Derived.Test.YtmmcamkmglpgiaaGreatDoorPwA
import Derived.Test.YtmmcamkmglpgiaaGreatDoorPwB
import Derived.Shelf.Strings.SlTrimAscii
import Derived.Test.YtmmcamkmglpgiaaGreatDoorEngL
import Derived.Laws.Small
import Derived.Test.YtmmcamkmglpgiaaGreatDoorEngAO
namespace Go.Proofs.YtmmcamkmglpgiaaGreatDoor
open Go.RowKit
set_option linter.all false
set_option maxRecDepth 100000
theorem plAct_any (p q : Int) (o : OP9) (w : World) : Calls Tryz.prog 74 #[plV p q, opA o] w (RetB (actOk o.a o.b) w) := by
  have hC := fun w => sgAct_any o.a o.b w
  unfold ActR at hC
  refine Hs.enter Tryz.func74 [] [] [] [.g [.v (.int .i64 p), .v (.int .i64 q)], .g o.sc] (Mem.start0 w) (by kernel_rfl) (by kernel_rfl) ?_
  refine Hs.run2 300 (fun _ => by kernel_rfl) fun b0 b1 => ?_
  cases hA : actOk o.a o.b with
  | false =>
    rw [hA] at hC
    refine Hs.callX (v := fun A => .tuple #[actV A, .int .i64 2]) (Q := fun _ => True) (fun w' H => hC w') (by kernel_rfl) fun A _ => ?_
    refine Hs.run1 300 (fun _ => by kernel_rfl) fun b2 => ?_
    exact Hs.ret (v := .bool false) Tryz.func74 (by kernel_rfl) fun w' H => ⟨rfl, H.only⟩
  | true =>
    rw [hA] at hC
    refine Hs.callX (v := fun A => .tuple #[actV A, .int .i64 0]) (Q := fun _ => True) (fun w' H => hC w') (by kernel_rfl) fun A _ => ?_
    refine Hs.run1 300 (fun _ => by kernel_rfl) fun b2 => ?_
    exact Hs.ret (v := .bool true) Tryz.func74 (by kernel_rfl) fun w' H => ⟨rfl, H.only⟩
theorem plMode_any (p q : Int) (o : OP9) (w : World) : Calls Tryz.prog 77 #[plV p q, opA o] w (RetB (isFlagB o.a && withinB o.b 0 1) w) := by
  refine Hs.enter Tryz.func77 [] [] [] [.g [.v (.int .i64 p), .v (.int .i64 q)], .g o.sc] (Mem.start0 w) (by kernel_rfl) (by kernel_rfl) ?_
  refine Hs.run2 300 (fun _ => by kernel_rfl) fun b0 b1 => ?_
  refine Hs.callV (v := .bool (isFlagB o.a)) (fun w' H => isFlag9_any _ w') (by kernel_rfl) ?_
  refine Hs.run0 300 (fun _ => by kernel_rfl) ?_
  refine Hs.bool 8 (isFlagB o.a) (by kernel_rfl) (fun h => ?_) (fun h => ?_)
  · refine Hs.rung0 [3] 300 (fun _ => by kernel_rfl) ?_
    refine Hs.callV (v := .bool (withinB o.b 0 1)) (fun w' H => within_any _ _ _ w') (by kernel_rfl) ?_
    refine Hs.rung0 [3] 300 (fun _ => by kernel_rfl) ?_
    exact Hs.ret (v := .bool (withinB o.b 0 1)) Tryz.func77 (by kernel_rfl) fun w' H => ⟨by rw [h]; rfl, H.only⟩
  · refine Hs.rung0 [3] 300 (fun _ => by kernel_rfl) ?_
    exact Hs.ret (v := .bool false) Tryz.func77 (by kernel_rfl) fun w' H => ⟨by rw [h]; rfl, H.only⟩
/-- What is asked of an operation of a kind. -/
def askB (k : Nat) (p q : Int) (o : OP9) : Bool := match k with
  | 1 => withinB o.a 0 255
  | 2 => shortB o
  | 3 => shortB o
  | 4 => withinB o.a 1 1024
  | 5 => laterB p q o.a
  | 6 => laterB p q o.a
  | 7 => withinB o.a 0 3
  | 8 => withinB o.a 0 4 && isS o.b
  | 9 => withinB o.a 0 2
  | 11 => withinB o.a 0 1
  | 12 => actOk o.a o.b
  | 13 => isS o.a && withinB o.b 0 1
  | 14 => withinB o.a 0 1000
  | 15 => isFlagB o.a && withinB o.b 0 1
  | _ => true
def shN (k : Nat) : Nat := match k with
  | 10 => 0
  | 16 => 0
  | 8 => 2
  | 12 => 2
  | 13 => 2
  | 15 => 2
  | 2 => 3
  | 3 => 3
  | _ => 1
def textE (t : ByteArray) : Bool := !(t.toList == (⟨#[]⟩ : ByteArray).toList)
def restB (k : Nat) (p q : Int) (o : OP9) : Bool := !(!(Nat.beq (shN k) 3) && textE o.t) && (!(!(Nat.beq (shN k) 2) && o.b != 0) && (!(!(Nat.beq (shN k) 2) && !(Nat.beq (shN k) 1) && o.a != 0) && askB k p q o))
def rightB (o : OP9) (p q : Int) : Bool := withinB o.k 1 16 && restB o.k.toNat p q o
theorem right_out (o : OP9) (p q : Int) (h : withinB o.k 1 16 = false) (w : World) : Calls Tryz.prog 41 #[opA o, .int .i64 p, .int .i64 q] w (RetB false w) := by
  have hC := fun w => within_any o.k 1 16 w
  rw [h] at hC
  refine Hs.enter Tryz.func41 [] [] [] [.g o.sc, .c (.v (.int .i64 p)), .c (.v (.int .i64 q))] (Mem.start0 w) (by kernel_rfl) (by kernel_rfl) ?_
  refine Hs.run1 300 (fun _ => by kernel_rfl) fun b0 => ?_
  refine Hs.callV (v := .bool false) (fun w' H => hC w') (by kernel_rfl) ?_
  refine Hs.run0 300 (fun _ => by kernel_rfl) ?_
  refine Hs.condT (by kernel_rfl) ?_
  refine Hs.run0 300 (fun _ => by kernel_rfl) ?_
  exact Hs.ret (v := .bool false) Tryz.func41 (by kernel_rfl) fun w' H => ⟨rfl, H.only⟩
theorem right_1 (a b : Int) (t : ByteArray) (p q : Int) (w : World) : Calls Tryz.prog 41 #[opA ⟨1, a, b, t⟩, .int .i64 p, .int .i64 q] w (RetB (restB 1 p q ⟨1, a, b, t⟩) w) := by
  have hR : restB 1 p q ⟨1, a, b, t⟩ = (!(textE t) && (!(b != 0) && (withinB a 0 255))) := rfl
  rw [hR]
  refine Hs.enter Tryz.func41 [] [] [] [.g [.v (.int .i64 1), .v (.int .i64 a), .v (.int .i64 b), .v (.string t)], .c (.v (.int .i64 p)), .c (.v (.int .i64 q))] (Mem.start0 w) (by kernel_rfl) (by kernel_rfl) ?_
  refine Hs.run1 300 (fun _ => by kernel_rfl) fun b0 => ?_
  refine Hs.callV (v := .bool true) (fun w' H => within_any 1 1 16 w') (by kernel_rfl) ?_
  refine Hs.run0 300 (fun _ => by kernel_rfl) ?_
  refine Hs.condF (by kernel_rfl) ?_
  refine Hs.run0 300 (fun _ => by kernel_rfl) ?_
  refine Hs.any [0] (by kernel_rfl) ?_
  refine Hs.run0 300 (fun _ => by kernel_rfl) ?_
  apply Hs.share1 (β' := [] ++ [b0])
  · intro K
    refine Hs.branch2 0 4 (by kernel_rfl) ?_ ?_
    · refine Hs.callV (v := .agg sortC.toArray) (fun w' H => sorts_any w') (by kernel_rfl) ?_
      refine Hs.run1 300 (fun _ => by kernel_rfl) fun b1 => ?_
      exact K b1
    · refine Hs.run1 300 (fun _ => by kernel_rfl) fun b1 => ?_
      refine Hs.callV (v := .agg sortC.toArray) (fun w' H => sorts_any w') (by kernel_rfl) ?_
      refine Hs.run0 300 (fun _ => by kernel_rfl) ?_
      exact Hs.eqM (K b1) (by kernel_rfl) (by kernel_rfl)
  intro b1
  refine Hs.rung0 [3, 8] 300 (fun _ => by kernel_rfl) ?_
  refine Hs.bool 16 (textE t) (by kernel_rfl) (fun ht => ?_) (fun ht => ?_)
  · refine Hs.condT (by kernel_rfl) ?_
    refine Hs.rung0 [3, 8] 300 (fun _ => by kernel_rfl) ?_
    refine Hs.condT (by kernel_rfl) ?_
    refine Hs.run0 300 (fun _ => by kernel_rfl) ?_
    exact Hs.ret (v := .bool false) Tryz.func41 (by kernel_rfl) fun w' H => ⟨by rw [show (textE t) = true from ht]; rfl, H.only⟩
  refine Hs.condF (by kernel_rfl) ?_
  refine Hs.rung0 [3, 8] 300 (fun _ => by kernel_rfl) ?_
  refine Hs.bool 16 (b != 0) (by kernel_rfl) (fun hb => ?_) (fun hb => ?_)
  · refine Hs.condT (by kernel_rfl) ?_
    refine Hs.rung0 [3, 8] 300 (fun _ => by kernel_rfl) ?_
    refine Hs.condT (by kernel_rfl) ?_
    refine Hs.run0 300 (fun _ => by kernel_rfl) ?_
    exact Hs.ret (v := .bool false) Tryz.func41 (by kernel_rfl) fun w' H => ⟨by rw [show (textE t) = false from ht]; rw [show (b != 0) = true from hb]; rfl, H.only⟩
  refine Hs.condF (by kernel_rfl) ?_
  refine Hs.rung0 [3, 8] 300 (fun _ => by kernel_rfl) ?_
  refine Hs.condF (by kernel_rfl) ?_
  refine Hs.run0 300 (fun _ => by kernel_rfl) ?_
  refine Hs.callV (v := .bool (withinB a 0 255)) (fun w' H => plCode_any p q ⟨1, a, b, t⟩ w') (by kernel_rfl) ?_
  refine Hs.run0 300 (fun _ => by kernel_rfl) ?_
  exact Hs.ret (v := .bool (withinB a 0 255)) Tryz.func41 (by kernel_rfl) fun w' H => ⟨by rw [show (textE t) = false from ht]; rw [show (b != 0) = false from hb]; rfl, H.only⟩
theorem right_2 (a b : Int) (t : ByteArray) (p q : Int) (w : World) : Calls Tryz.prog 41 #[opA ⟨2, a, b, t⟩, .int .i64 p, .int .i64 q] w (RetB (restB 2 p q ⟨2, a, b, t⟩) w) := by
  have hR : restB 2 p q ⟨2, a, b, t⟩ = (!(b != 0) && (!(a != 0) && (shortB ⟨2, a, b, t⟩))) := rfl
  rw [hR]
  refine Hs.enter Tryz.func41 [] [] [] [.g [.v (.int .i64 2), .v (.int .i64 a), .v (.int .i64 b), .v (.string t)], .c (.v (.int .i64 p)), .c (.v (.int .i64 q))] (Mem.start0 w) (by kernel_rfl) (by kernel_rfl) ?_
  refine Hs.run1 300 (fun _ => by kernel_rfl) fun b0 => ?_
  refine Hs.callV (v := .bool true) (fun w' H => within_any 2 1 16 w') (by kernel_rfl) ?_
  refine Hs.run0 300 (fun _ => by kernel_rfl) ?_
  refine Hs.condF (by kernel_rfl) ?_
  refine Hs.run0 300 (fun _ => by kernel_rfl) ?_
  refine Hs.any [0] (by kernel_rfl) ?_
  refine Hs.run0 300 (fun _ => by kernel_rfl) ?_
  apply Hs.share1 (β' := [] ++ [b0])
  · intro K
    refine Hs.branch2 0 4 (by kernel_rfl) ?_ ?_
    · refine Hs.callV (v := .agg sortC.toArray) (fun w' H => sorts_any w') (by kernel_rfl) ?_
      refine Hs.run1 300 (fun _ => by kernel_rfl) fun b1 => ?_
      exact K b1
    · refine Hs.run1 300 (fun _ => by kernel_rfl) fun b1 => ?_
      refine Hs.callV (v := .agg sortC.toArray) (fun w' H => sorts_any w') (by kernel_rfl) ?_
      refine Hs.run0 300 (fun _ => by kernel_rfl) ?_
      exact Hs.eqM (K b1) (by kernel_rfl) (by kernel_rfl)
  intro b1
  refine Hs.rung0 [3, 8] 300 (fun _ => by kernel_rfl) ?_
  refine Hs.condF (by kernel_rfl) ?_
  refine Hs.rung0 [3, 8] 300 (fun _ => by kernel_rfl) ?_
  refine Hs.bool 16 (b != 0) (by kernel_rfl) (fun hb => ?_) (fun hb => ?_)
  · refine Hs.condT (by kernel_rfl) ?_
    refine Hs.rung0 [3, 8] 300 (fun _ => by kernel_rfl) ?_
    refine Hs.condT (by kernel_rfl) ?_
    refine Hs.run0 300 (fun _ => by kernel_rfl) ?_
    exact Hs.ret (v := .bool false) Tryz.func41 (by kernel_rfl) fun w' H => ⟨by rw [show (b != 0) = true from hb]; rfl, H.only⟩
  refine Hs.condF (by kernel_rfl) ?_
  refine Hs.rung0 [3, 8] 300 (fun _ => by kernel_rfl) ?_
  refine Hs.bool 16 (a != 0) (by kernel_rfl) (fun ha => ?_) (fun ha => ?_)
  · refine Hs.condT (by kernel_rfl) ?_
    
    
    refine Hs.run0 300 (fun _ => by kernel_rfl) ?_
    exact Hs.ret (v := .bool false) Tryz.func41 (by kernel_rfl) fun w' H => ⟨by rw [show (b != 0) = false from hb]; rw [show (a != 0) = true from ha]; rfl, H.only⟩
  refine Hs.condF (by kernel_rfl) ?_
  refine Hs.run0 300 (fun _ => by kernel_rfl) ?_
  refine Hs.callV (v := .bool (shortB ⟨2, a, b, t⟩)) (fun w' H => plShort_any p q ⟨2, a, b, t⟩ w') (by kernel_rfl) ?_
  refine Hs.run0 300 (fun _ => by kernel_rfl) ?_
  exact Hs.ret (v := .bool (shortB ⟨2, a, b, t⟩)) Tryz.func41 (by kernel_rfl) fun w' H => ⟨by rw [show (b != 0) = false from hb]; rw [show (a != 0) = false from ha]; rfl, H.only⟩
theorem right_3 (a b : Int) (t : ByteArray) (p q : Int) (w : World) : Calls Tryz.prog 41 #[opA ⟨3, a, b, t⟩, .int .i64 p, .int .i64 q] w (RetB (restB 3 p q ⟨3, a, b, t⟩) w) := by
  have hR : restB 3 p q ⟨3, a, b, t⟩ = (!(b != 0) && (!(a != 0) && (shortB ⟨3, a, b, t⟩))) := rfl
  rw [hR]
  refine Hs.enter Tryz.func41 [] [] [] [.g [.v (.int .i64 3), .v (.int .i64 a), .v (.int .i64 b), .v (.string t)], .c (.v (.int .i64 p)), .c (.v (.int .i64 q))] (Mem.start0 w) (by kernel_rfl) (by kernel_rfl) ?_
  refine Hs.run1 300 (fun _ => by kernel_rfl) fun b0 => ?_
  refine Hs.callV (v := .bool true) (fun w' H => within_any 3 1 16 w') (by kernel_rfl) ?_
  refine Hs.run0 300 (fun _ => by kernel_rfl) ?_
  refine Hs.condF (by kernel_rfl) ?_
  refine Hs.run0 300 (fun _ => by kernel_rfl) ?_
  refine Hs.any [0] (by kernel_rfl) ?_
  refine Hs.run0 300 (fun _ => by kernel_rfl) ?_
  apply Hs.share1 (β' := [] ++ [b0])
  · intro K
    refine Hs.branch2 0 4 (by kernel_rfl) ?_ ?_
    · refine Hs.callV (v := .agg sortC.toArray) (fun w' H => sorts_any w') (by kernel_rfl) ?_
      refine Hs.run1 300 (fun _ => by kernel_rfl) fun b1 => ?_
      exact K b1
    · refine Hs.run1 300 (fun _ => by kernel_rfl) fun b1 => ?_
      refine Hs.callV (v := .agg sortC.toArray) (fun w' H => sorts_any w') (by kernel_rfl) ?_
      refine Hs.run0 300 (fun _ => by kernel_rfl) ?_
      exact Hs.eqM (K b1) (by kernel_rfl) (by kernel_rfl)
  intro b1
  refine Hs.rung0 [3, 8] 300 (fun _ => by kernel_rfl) ?_
  refine Hs.condF (by kernel_rfl) ?_
  refine Hs.rung0 [3, 8] 300 (fun _ => by kernel_rfl) ?_
  refine Hs.bool 16 (b != 0) (by kernel_rfl) (fun hb => ?_) (fun hb => ?_)
  · refine Hs.condT (by kernel_rfl) ?_
    refine Hs.rung0 [3, 8] 300 (fun _ => by kernel_rfl) ?_
    refine Hs.condT (by kernel_rfl) ?_
    refine Hs.run0 300 (fun _ => by kernel_rfl) ?_
    exact Hs.ret (v := .bool false) Tryz.func41 (by kernel_rfl) fun w' H => ⟨by rw [show (b != 0) = true from hb]; rfl, H.only⟩
  refine Hs.condF (by kernel_rfl) ?_
  refine Hs.rung0 [3, 8] 300 (fun _ => by kernel_rfl) ?_
  refine Hs.bool 16 (a != 0) (by kernel_rfl) (fun ha => ?_) (fun ha => ?_)
  · refine Hs.condT (by kernel_rfl) ?_
    
    
    refine Hs.run0 300 (fun _ => by kernel_rfl) ?_
    exact Hs.ret (v := .bool false) Tryz.func41 (by kernel_rfl) fun w' H => ⟨by rw [show (b != 0) = false from hb]; rw [show (a != 0) = true from ha]; rfl, H.only⟩
  refine Hs.condF (by kernel_rfl) ?_
  refine Hs.run0 300 (fun _ => by kernel_rfl) ?_
  refine Hs.callV (v := .bool (shortB ⟨3, a, b, t⟩)) (fun w' H => plShort_any p q ⟨3, a, b, t⟩ w') (by kernel_rfl) ?_
  refine Hs.run0 300 (fun _ => by kernel_rfl) ?_
  exact Hs.ret (v := .bool (shortB ⟨3, a, b, t⟩)) Tryz.func41 (by kernel_rfl) fun w' H => ⟨by rw [show (b != 0) = false from hb]; rw [show (a != 0) = false from ha]; rfl, H.only⟩
theorem right_4 (a b : Int) (t : ByteArray) (p q : Int) (w : World) : Calls Tryz.prog 41 #[opA ⟨4, a, b, t⟩, .int .i64 p, .int .i64 q] w (RetB (restB 4 p q ⟨4, a, b, t⟩) w) := by
  have hR : restB 4 p q ⟨4, a, b, t⟩ = (!(textE t) && (!(b != 0) && (withinB a 1 1024))) := rfl
  rw [hR]
  refine Hs.enter Tryz.func41 [] [] [] [.g [.v (.int .i64 4), .v (.int .i64 a), .v (.int .i64 b), .v (.string t)], .c (.v (.int .i64 p)), .c (.v (.int .i64 q))] (Mem.start0 w) (by kernel_rfl) (by kernel_rfl) ?_
  refine Hs.run1 300 (fun _ => by kernel_rfl) fun b0 => ?_
  refine Hs.callV (v := .bool true) (fun w' H => within_any 4 1 16 w') (by kernel_rfl) ?_
  refine Hs.run0 300 (fun _ => by kernel_rfl) ?_
  refine Hs.condF (by kernel_rfl) ?_
  refine Hs.run0 300 (fun _ => by kernel_rfl) ?_
  refine Hs.any [0] (by kernel_rfl) ?_
  refine Hs.run0 300 (fun _ => by kernel_rfl) ?_
  apply Hs.share1 (β' := [] ++ [b0])
  · intro K
    refine Hs.branch2 0 4 (by kernel_rfl) ?_ ?_
    · refine Hs.callV (v := .agg sortC.toArray) (fun w' H => sorts_any w') (by kernel_rfl) ?_
      refine Hs.run1 300 (fun _ => by kernel_rfl) fun b1 => ?_
      exact K b1
    · refine Hs.run1 300 (fun _ => by kernel_rfl) fun b1 => ?_
      refine Hs.callV (v := .agg sortC.toArray) (fun w' H => sorts_any w') (by kernel_rfl) ?_
      refine Hs.run0 300 (fun _ => by kernel_rfl) ?_
      exact Hs.eqM (K b1) (by kernel_rfl) (by kernel_rfl)
  intro b1
  refine Hs.rung0 [3, 8] 300 (fun _ => by kernel_rfl) ?_
  refine Hs.bool 16 (textE t) (by kernel_rfl) (fun ht => ?_) (fun ht => ?_)
  · refine Hs.condT (by kernel_rfl) ?_
    refine Hs.rung0 [3, 8] 300 (fun _ => by kernel_rfl) ?_
    refine Hs.condT (by kernel_rfl) ?_
    refine Hs.run0 300 (fun _ => by kernel_rfl) ?_
    exact Hs.ret (v := .bool false) Tryz.func41 (by kernel_rfl) fun w' H => ⟨by rw [show (textE t) = true from ht]; rfl, H.only⟩
  refine Hs.condF (by kernel_rfl) ?_
  refine Hs.rung0 [3, 8] 300 (fun _ => by kernel_rfl) ?_
  refine Hs.bool 16 (b != 0) (by kernel_rfl) (fun hb => ?_) (fun hb => ?_)
  · refine Hs.condT (by kernel_rfl) ?_
    refine Hs.rung0 [3, 8] 300 (fun _ => by kernel_rfl) ?_
    refine Hs.condT (by kernel_rfl) ?_
    refine Hs.run0 300 (fun _ => by kernel_rfl) ?_
    exact Hs.ret (v := .bool false) Tryz.func41 (by kernel_rfl) fun w' H => ⟨by rw [show (textE t) = false from ht]; rw [show (b != 0) = true from hb]; rfl, H.only⟩
  refine Hs.condF (by kernel_rfl) ?_
  refine Hs.rung0 [3, 8] 300 (fun _ => by kernel_rfl) ?_
  refine Hs.condF (by kernel_rfl) ?_
  refine Hs.run0 300 (fun _ => by kernel_rfl) ?_
  refine Hs.callV (v := .bool (withinB a 1 1024)) (fun w' H => plCount_any p q ⟨4, a, b, t⟩ w') (by kernel_rfl) ?_
  refine Hs.run0 300 (fun _ => by kernel_rfl) ?_
  exact Hs.ret (v := .bool (withinB a 1 1024)) Tryz.func41 (by kernel_rfl) fun w' H => ⟨by rw [show (textE t) = false from ht]; rw [show (b != 0) = false from hb]; rfl, H.only⟩
theorem right_5 (a b : Int) (t : ByteArray) (p q : Int) (w : World) : Calls Tryz.prog 41 #[opA ⟨5, a, b, t⟩, .int .i64 p, .int .i64 q] w (RetB (restB 5 p q ⟨5, a, b, t⟩) w) := by
  have hR : restB 5 p q ⟨5, a, b, t⟩ = (!(textE t) && (!(b != 0) && (laterB p q a))) := rfl
  rw [hR]
  refine Hs.enter Tryz.func41 [] [] [] [.g [.v (.int .i64 5), .v (.int .i64 a), .v (.int .i64 b), .v (.string t)], .c (.v (.int .i64 p)), .c (.v (.int .i64 q))] (Mem.start0 w) (by kernel_rfl) (by kernel_rfl) ?_
  refine Hs.run1 300 (fun _ => by kernel_rfl) fun b0 => ?_
  refine Hs.callV (v := .bool true) (fun w' H => within_any 5 1 16 w') (by kernel_rfl) ?_
  refine Hs.run0 300 (fun _ => by kernel_rfl) ?_
  refine Hs.condF (by kernel_rfl) ?_
  refine Hs.run0 300 (fun _ => by kernel_rfl) ?_
  refine Hs.any [0] (by kernel_rfl) ?_
  refine Hs.run0 300 (fun _ => by kernel_rfl) ?_
  apply Hs.share1 (β' := [] ++ [b0])
  · intro K
    refine Hs.branch2 0 4 (by kernel_rfl) ?_ ?_
    · refine Hs.callV (v := .agg sortC.toArray) (fun w' H => sorts_any w') (by kernel_rfl) ?_
      refine Hs.run1 300 (fun _ => by kernel_rfl) fun b1 => ?_
      exact K b1
    · refine Hs.run1 300 (fun _ => by kernel_rfl) fun b1 => ?_
      refine Hs.callV (v := .agg sortC.toArray) (fun w' H => sorts_any w') (by kernel_rfl) ?_
      refine Hs.run0 300 (fun _ => by kernel_rfl) ?_
      exact Hs.eqM (K b1) (by kernel_rfl) (by kernel_rfl)
  intro b1
  refine Hs.rung0 [3, 8] 300 (fun _ => by kernel_rfl) ?_
  refine Hs.bool 16 (textE t) (by kernel_rfl) (fun ht => ?_) (fun ht => ?_)
  · refine Hs.condT (by kernel_rfl) ?_
    refine Hs.rung0 [3, 8] 300 (fun _ => by kernel_rfl) ?_
    refine Hs.condT (by kernel_rfl) ?_
    refine Hs.run0 300 (fun _ => by kernel_rfl) ?_
    exact Hs.ret (v := .bool false) Tryz.func41 (by kernel_rfl) fun w' H => ⟨by rw [show (textE t) = true from ht]; rfl, H.only⟩
  refine Hs.condF (by kernel_rfl) ?_
  refine Hs.rung0 [3, 8] 300 (fun _ => by kernel_rfl) ?_
  refine Hs.bool 16 (b != 0) (by kernel_rfl) (fun hb => ?_) (fun hb => ?_)
  · refine Hs.condT (by kernel_rfl) ?_
    refine Hs.rung0 [3, 8] 300 (fun _ => by kernel_rfl) ?_
    refine Hs.condT (by kernel_rfl) ?_
    refine Hs.run0 300 (fun _ => by kernel_rfl) ?_
    exact Hs.ret (v := .bool false) Tryz.func41 (by kernel_rfl) fun w' H => ⟨by rw [show (textE t) = false from ht]; rw [show (b != 0) = true from hb]; rfl, H.only⟩
  refine Hs.condF (by kernel_rfl) ?_
  refine Hs.rung0 [3, 8] 300 (fun _ => by kernel_rfl) ?_
  refine Hs.condF (by kernel_rfl) ?_
  refine Hs.run0 300 (fun _ => by kernel_rfl) ?_
  refine Hs.callV (v := .bool (laterB p q a)) (fun w' H => plLater_any p q ⟨5, a, b, t⟩ w') (by kernel_rfl) ?_
  refine Hs.run0 300 (fun _ => by kernel_rfl) ?_
  exact Hs.ret (v := .bool (laterB p q a)) Tryz.func41 (by kernel_rfl) fun w' H => ⟨by rw [show (textE t) = false from ht]; rw [show (b != 0) = false from hb]; rfl, H.only⟩
theorem right_6 (a b : Int) (t : ByteArray) (p q : Int) (w : World) : Calls Tryz.prog 41 #[opA ⟨6, a, b, t⟩, .int .i64 p, .int .i64 q] w (RetB (restB 6 p q ⟨6, a, b, t⟩) w) := by
  have hR : restB 6 p q ⟨6, a, b, t⟩ = (!(textE t) && (!(b != 0) && (laterB p q a))) := rfl
  rw [hR]
  refine Hs.enter Tryz.func41 [] [] [] [.g [.v (.int .i64 6), .v (.int .i64 a), .v (.int .i64 b), .v (.string t)], .c (.v (.int .i64 p)), .c (.v (.int .i64 q))] (Mem.start0 w) (by kernel_rfl) (by kernel_rfl) ?_
  refine Hs.run1 300 (fun _ => by kernel_rfl) fun b0 => ?_
  refine Hs.callV (v := .bool true) (fun w' H => within_any 6 1 16 w') (by kernel_rfl) ?_
  refine Hs.run0 300 (fun _ => by kernel_rfl) ?_
  refine Hs.condF (by kernel_rfl) ?_
  refine Hs.run0 300 (fun _ => by kernel_rfl) ?_
  refine Hs.any [0] (by kernel_rfl) ?_
  refine Hs.run0 300 (fun _ => by kernel_rfl) ?_
  apply Hs.share1 (β' := [] ++ [b0])
  · intro K
    refine Hs.branch2 0 4 (by kernel_rfl) ?_ ?_
    · refine Hs.callV (v := .agg sortC.toArray) (fun w' H => sorts_any w') (by kernel_rfl) ?_
      refine Hs.run1 300 (fun _ => by kernel_rfl) fun b1 => ?_
      exact K b1
    · refine Hs.run1 300 (fun _ => by kernel_rfl) fun b1 => ?_
      refine Hs.callV (v := .agg sortC.toArray) (fun w' H => sorts_any w') (by kernel_rfl) ?_
      refine Hs.run0 300 (fun _ => by kernel_rfl) ?_
      exact Hs.eqM (K b1) (by kernel_rfl) (by kernel_rfl)
  intro b1
  refine Hs.rung0 [3, 8] 300 (fun _ => by kernel_rfl) ?_
  refine Hs.bool 16 (textE t) (by kernel_rfl) (fun ht => ?_) (fun ht => ?_)
  · refine Hs.condT (by kernel_rfl) ?_
    refine Hs.rung0 [3, 8] 300 (fun _ => by kernel_rfl) ?_
    refine Hs.condT (by kernel_rfl) ?_
    refine Hs.run0 300 (fun _ => by kernel_rfl) ?_
    exact Hs.ret (v := .bool false) Tryz.func41 (by kernel_rfl) fun w' H => ⟨by rw [show (textE t) = true from ht]; rfl, H.only⟩
  refine Hs.condF (by kernel_rfl) ?_
  refine Hs.rung0 [3, 8] 300 (fun _ => by kernel_rfl) ?_
  refine Hs.bool 16 (b != 0) (by kernel_rfl) (fun hb => ?_) (fun hb => ?_)
  · refine Hs.condT (by kernel_rfl) ?_
    refine Hs.rung0 [3, 8] 300 (fun _ => by kernel_rfl) ?_
    refine Hs.condT (by kernel_rfl) ?_
    refine Hs.run0 300 (fun _ => by kernel_rfl) ?_
    exact Hs.ret (v := .bool false) Tryz.func41 (by kernel_rfl) fun w' H => ⟨by rw [show (textE t) = false from ht]; rw [show (b != 0) = true from hb]; rfl, H.only⟩
  refine Hs.condF (by kernel_rfl) ?_
  refine Hs.rung0 [3, 8] 300 (fun _ => by kernel_rfl) ?_
  refine Hs.condF (by kernel_rfl) ?_
  refine Hs.run0 300 (fun _ => by kernel_rfl) ?_
  refine Hs.callV (v := .bool (laterB p q a)) (fun w' H => plLater_any p q ⟨6, a, b, t⟩ w') (by kernel_rfl) ?_
  refine Hs.run0 300 (fun _ => by kernel_rfl) ?_
  exact Hs.ret (v := .bool (laterB p q a)) Tryz.func41 (by kernel_rfl) fun w' H => ⟨by rw [show (textE t) = false from ht]; rw [show (b != 0) = false from hb]; rfl, H.only⟩
theorem right_7 (a b : Int) (t : ByteArray) (p q : Int) (w : World) : Calls Tryz.prog 41 #[opA ⟨7, a, b, t⟩, .int .i64 p, .int .i64 q] w (RetB (restB 7 p q ⟨7, a, b, t⟩) w) := by
  have hR : restB 7 p q ⟨7, a, b, t⟩ = (!(textE t) && (!(b != 0) && (withinB a 0 3))) := rfl
  rw [hR]
  refine Hs.enter Tryz.func41 [] [] [] [.g [.v (.int .i64 7), .v (.int .i64 a), .v (.int .i64 b), .v (.string t)], .c (.v (.int .i64 p)), .c (.v (.int .i64 q))] (Mem.start0 w) (by kernel_rfl) (by kernel_rfl) ?_
  refine Hs.run1 300 (fun _ => by kernel_rfl) fun b0 => ?_
  refine Hs.callV (v := .bool true) (fun w' H => within_any 7 1 16 w') (by kernel_rfl) ?_
  refine Hs.run0 300 (fun _ => by kernel_rfl) ?_
  refine Hs.condF (by kernel_rfl) ?_
  refine Hs.run0 300 (fun _ => by kernel_rfl) ?_
  refine Hs.any [0] (by kernel_rfl) ?_
  refine Hs.run0 300 (fun _ => by kernel_rfl) ?_
  apply Hs.share1 (β' := [] ++ [b0])
  · intro K
    refine Hs.branch2 0 4 (by kernel_rfl) ?_ ?_
    · refine Hs.callV (v := .agg sortC.toArray) (fun w' H => sorts_any w') (by kernel_rfl) ?_
      refine Hs.run1 300 (fun _ => by kernel_rfl) fun b1 => ?_
      exact K b1
    · refine Hs.run1 300 (fun _ => by kernel_rfl) fun b1 => ?_
      refine Hs.callV (v := .agg sortC.toArray) (fun w' H => sorts_any w') (by kernel_rfl) ?_
      refine Hs.run0 300 (fun _ => by kernel_rfl) ?_
      exact Hs.eqM (K b1) (by kernel_rfl) (by kernel_rfl)
  intro b1
  refine Hs.rung0 [3, 8] 300 (fun _ => by kernel_rfl) ?_
  refine Hs.bool 16 (textE t) (by kernel_rfl) (fun ht => ?_) (fun ht => ?_)
  · refine Hs.condT (by kernel_rfl) ?_
    refine Hs.rung0 [3, 8] 300 (fun _ => by kernel_rfl) ?_
    refine Hs.condT (by kernel_rfl) ?_
    refine Hs.run0 300 (fun _ => by kernel_rfl) ?_
    exact Hs.ret (v := .bool false) Tryz.func41 (by kernel_rfl) fun w' H => ⟨by rw [show (textE t) = true from ht]; rfl, H.only⟩
  refine Hs.condF (by kernel_rfl) ?_
  refine Hs.rung0 [3, 8] 300 (fun _ => by kernel_rfl) ?_
  refine Hs.bool 16 (b != 0) (by kernel_rfl) (fun hb => ?_) (fun hb => ?_)
  · refine Hs.condT (by kernel_rfl) ?_
    refine Hs.rung0 [3, 8] 300 (fun _ => by kernel_rfl) ?_
    refine Hs.condT (by kernel_rfl) ?_
    refine Hs.run0 300 (fun _ => by kernel_rfl) ?_
    exact Hs.ret (v := .bool false) Tryz.func41 (by kernel_rfl) fun w' H => ⟨by rw [show (textE t) = false from ht]; rw [show (b != 0) = true from hb]; rfl, H.only⟩
  refine Hs.condF (by kernel_rfl) ?_
  refine Hs.rung0 [3, 8] 300 (fun _ => by kernel_rfl) ?_
  refine Hs.condF (by kernel_rfl) ?_
  refine Hs.run0 300 (fun _ => by kernel_rfl) ?_
  refine Hs.callV (v := .bool (withinB a 0 3)) (fun w' H => plFlags_any p q ⟨7, a, b, t⟩ w') (by kernel_rfl) ?_
  refine Hs.run0 300 (fun _ => by kernel_rfl) ?_
  exact Hs.ret (v := .bool (withinB a 0 3)) Tryz.func41 (by kernel_rfl) fun w' H => ⟨by rw [show (textE t) = false from ht]; rw [show (b != 0) = false from hb]; rfl, H.only⟩
theorem right_8 (a b : Int) (t : ByteArray) (p q : Int) (w : World) : Calls Tryz.prog 41 #[opA ⟨8, a, b, t⟩, .int .i64 p, .int .i64 q] w (RetB (restB 8 p q ⟨8, a, b, t⟩) w) := by
  have hR : restB 8 p q ⟨8, a, b, t⟩ = (!(textE t) && (withinB a 0 4 && isS b)) := rfl
  rw [hR]
  refine Hs.enter Tryz.func41 [] [] [] [.g [.v (.int .i64 8), .v (.int .i64 a), .v (.int .i64 b), .v (.string t)], .c (.v (.int .i64 p)), .c (.v (.int .i64 q))] (Mem.start0 w) (by kernel_rfl) (by kernel_rfl) ?_
  refine Hs.run1 300 (fun _ => by kernel_rfl) fun b0 => ?_
  refine Hs.callV (v := .bool true) (fun w' H => within_any 8 1 16 w') (by kernel_rfl) ?_
  refine Hs.run0 300 (fun _ => by kernel_rfl) ?_
  refine Hs.condF (by kernel_rfl) ?_
  refine Hs.run0 300 (fun _ => by kernel_rfl) ?_
  refine Hs.any [0] (by kernel_rfl) ?_
  refine Hs.run0 300 (fun _ => by kernel_rfl) ?_
  apply Hs.share1 (β' := [] ++ [b0])
  · intro K
    refine Hs.branch2 0 4 (by kernel_rfl) ?_ ?_
    · refine Hs.callV (v := .agg sortC.toArray) (fun w' H => sorts_any w') (by kernel_rfl) ?_
      refine Hs.run1 300 (fun _ => by kernel_rfl) fun b1 => ?_
      exact K b1
    · refine Hs.run1 300 (fun _ => by kernel_rfl) fun b1 => ?_
      refine Hs.callV (v := .agg sortC.toArray) (fun w' H => sorts_any w') (by kernel_rfl) ?_
      refine Hs.run0 300 (fun _ => by kernel_rfl) ?_
      exact Hs.eqM (K b1) (by kernel_rfl) (by kernel_rfl)
  intro b1
  refine Hs.rung0 [3, 8] 300 (fun _ => by kernel_rfl) ?_
  refine Hs.bool 16 (textE t) (by kernel_rfl) (fun ht => ?_) (fun ht => ?_)
  · refine Hs.condT (by kernel_rfl) ?_
    refine Hs.rung0 [3, 8] 300 (fun _ => by kernel_rfl) ?_
    refine Hs.condT (by kernel_rfl) ?_
    refine Hs.run0 300 (fun _ => by kernel_rfl) ?_
    exact Hs.ret (v := .bool false) Tryz.func41 (by kernel_rfl) fun w' H => ⟨by rw [show (textE t) = true from ht]; rfl, H.only⟩
  refine Hs.condF (by kernel_rfl) ?_
  refine Hs.rung0 [3, 8] 300 (fun _ => by kernel_rfl) ?_
  refine Hs.condF (by kernel_rfl) ?_
  refine Hs.rung0 [3, 8] 300 (fun _ => by kernel_rfl) ?_
  refine Hs.condF (by kernel_rfl) ?_
  refine Hs.run0 300 (fun _ => by kernel_rfl) ?_
  refine Hs.callV (v := .bool (withinB a 0 4 && isS b)) (fun w' H => plTarget_any p q ⟨8, a, b, t⟩ w') (by kernel_rfl) ?_
  refine Hs.run0 300 (fun _ => by kernel_rfl) ?_
  exact Hs.ret (v := .bool (withinB a 0 4 && isS b)) Tryz.func41 (by kernel_rfl) fun w' H => ⟨by rw [show (textE t) = false from ht]; rfl, H.only⟩
theorem right_9 (a b : Int) (t : ByteArray) (p q : Int) (w : World) : Calls Tryz.prog 41 #[opA ⟨9, a, b, t⟩, .int .i64 p, .int .i64 q] w (RetB (restB 9 p q ⟨9, a, b, t⟩) w) := by
  have hR : restB 9 p q ⟨9, a, b, t⟩ = (!(textE t) && (!(b != 0) && (withinB a 0 2))) := rfl
  rw [hR]
  refine Hs.enter Tryz.func41 [] [] [] [.g [.v (.int .i64 9), .v (.int .i64 a), .v (.int .i64 b), .v (.string t)], .c (.v (.int .i64 p)), .c (.v (.int .i64 q))] (Mem.start0 w) (by kernel_rfl) (by kernel_rfl) ?_
  refine Hs.run1 300 (fun _ => by kernel_rfl) fun b0 => ?_
  refine Hs.callV (v := .bool true) (fun w' H => within_any 9 1 16 w') (by kernel_rfl) ?_
  refine Hs.run0 300 (fun _ => by kernel_rfl) ?_
  refine Hs.condF (by kernel_rfl) ?_
  refine Hs.run0 300 (fun _ => by kernel_rfl) ?_
  refine Hs.any [0] (by kernel_rfl) ?_
  refine Hs.run0 300 (fun _ => by kernel_rfl) ?_
  apply Hs.share1 (β' := [] ++ [b0])
  · intro K
    refine Hs.branch2 0 4 (by kernel_rfl) ?_ ?_
    · refine Hs.callV (v := .agg sortC.toArray) (fun w' H => sorts_any w') (by kernel_rfl) ?_
      refine Hs.run1 300 (fun _ => by kernel_rfl) fun b1 => ?_
      exact K b1
    · refine Hs.run1 300 (fun _ => by kernel_rfl) fun b1 => ?_
      refine Hs.callV (v := .agg sortC.toArray) (fun w' H => sorts_any w') (by kernel_rfl) ?_
      refine Hs.run0 300 (fun _ => by kernel_rfl) ?_
      exact Hs.eqM (K b1) (by kernel_rfl) (by kernel_rfl)
  intro b1
  refine Hs.rung0 [3, 8] 300 (fun _ => by kernel_rfl) ?_
  refine Hs.bool 16 (textE t) (by kernel_rfl) (fun ht => ?_) (fun ht => ?_)
  · refine Hs.condT (by kernel_rfl) ?_
    refine Hs.rung0 [3, 8] 300 (fun _ => by kernel_rfl) ?_
    refine Hs.condT (by kernel_rfl) ?_
    refine Hs.run0 300 (fun _ => by kernel_rfl) ?_
    exact Hs.ret (v := .bool false) Tryz.func41 (by kernel_rfl) fun w' H => ⟨by rw [show (textE t) = true from ht]; rfl, H.only⟩
  refine Hs.condF (by kernel_rfl) ?_
  refine Hs.rung0 [3, 8] 300 (fun _ => by kernel_rfl) ?_
  refine Hs.bool 16 (b != 0) (by kernel_rfl) (fun hb => ?_) (fun hb => ?_)
  · refine Hs.condT (by kernel_rfl) ?_
    refine Hs.rung0 [3, 8] 300 (fun _ => by kernel_rfl) ?_
    refine Hs.condT (by kernel_rfl) ?_
    refine Hs.run0 300 (fun _ => by kernel_rfl) ?_
    exact Hs.ret (v := .bool false) Tryz.func41 (by kernel_rfl) fun w' H => ⟨by rw [show (textE t) = false from ht]; rw [show (b != 0) = true from hb]; rfl, H.only⟩
  refine Hs.condF (by kernel_rfl) ?_
  refine Hs.rung0 [3, 8] 300 (fun _ => by kernel_rfl) ?_
  refine Hs.condF (by kernel_rfl) ?_
  refine Hs.run0 300 (fun _ => by kernel_rfl) ?_
  refine Hs.callV (v := .bool (withinB a 0 2)) (fun w' H => plWhose_any p q ⟨9, a, b, t⟩ w') (by kernel_rfl) ?_
  refine Hs.run0 300 (fun _ => by kernel_rfl) ?_
  exact Hs.ret (v := .bool (withinB a 0 2)) Tryz.func41 (by kernel_rfl) fun w' H => ⟨by rw [show (textE t) = false from ht]; rw [show (b != 0) = false from hb]; rfl, H.only⟩
theorem right_10 (a b : Int) (t : ByteArray) (p q : Int) (w : World) : Calls Tryz.prog 41 #[opA ⟨10, a, b, t⟩, .int .i64 p, .int .i64 q] w (RetB (restB 10 p q ⟨10, a, b, t⟩) w) := by
  have hR : restB 10 p q ⟨10, a, b, t⟩ = (!(textE t) && (!(b != 0) && (!(a != 0) && (true)))) := rfl
  rw [hR]
  refine Hs.enter Tryz.func41 [] [] [] [.g [.v (.int .i64 10), .v (.int .i64 a), .v (.int .i64 b), .v (.string t)], .c (.v (.int .i64 p)), .c (.v (.int .i64 q))] (Mem.start0 w) (by kernel_rfl) (by kernel_rfl) ?_
  refine Hs.run1 300 (fun _ => by kernel_rfl) fun b0 => ?_
  refine Hs.callV (v := .bool true) (fun w' H => within_any 10 1 16 w') (by kernel_rfl) ?_
  refine Hs.run0 300 (fun _ => by kernel_rfl) ?_
  refine Hs.condF (by kernel_rfl) ?_
  refine Hs.run0 300 (fun _ => by kernel_rfl) ?_
  refine Hs.any [0] (by kernel_rfl) ?_
  refine Hs.run0 300 (fun _ => by kernel_rfl) ?_
  apply Hs.share1 (β' := [] ++ [b0])
  · intro K
    refine Hs.branch2 0 4 (by kernel_rfl) ?_ ?_
    · refine Hs.callV (v := .agg sortC.toArray) (fun w' H => sorts_any w') (by kernel_rfl) ?_
      refine Hs.run1 300 (fun _ => by kernel_rfl) fun b1 => ?_
      exact K b1
    · refine Hs.run1 300 (fun _ => by kernel_rfl) fun b1 => ?_
      refine Hs.callV (v := .agg sortC.toArray) (fun w' H => sorts_any w') (by kernel_rfl) ?_
      refine Hs.run0 300 (fun _ => by kernel_rfl) ?_
      exact Hs.eqM (K b1) (by kernel_rfl) (by kernel_rfl)
  intro b1
  refine Hs.rung0 [3, 8] 300 (fun _ => by kernel_rfl) ?_
  refine Hs.bool 16 (textE t) (by kernel_rfl) (fun ht => ?_) (fun ht => ?_)
  · refine Hs.condT (by kernel_rfl) ?_
    refine Hs.rung0 [3, 8] 300 (fun _ => by kernel_rfl) ?_
    refine Hs.condT (by kernel_rfl) ?_
    refine Hs.run0 300 (fun _ => by kernel_rfl) ?_
    exact Hs.ret (v := .bool false) Tryz.func41 (by kernel_rfl) fun w' H => ⟨by rw [show (textE t) = true from ht]; rfl, H.only⟩
  refine Hs.condF (by kernel_rfl) ?_
  refine Hs.rung0 [3, 8] 300 (fun _ => by kernel_rfl) ?_
  refine Hs.bool 16 (b != 0) (by kernel_rfl) (fun hb => ?_) (fun hb => ?_)
  · refine Hs.condT (by kernel_rfl) ?_
    refine Hs.rung0 [3, 8] 300 (fun _ => by kernel_rfl) ?_
    refine Hs.condT (by kernel_rfl) ?_
    refine Hs.run0 300 (fun _ => by kernel_rfl) ?_
    exact Hs.ret (v := .bool false) Tryz.func41 (by kernel_rfl) fun w' H => ⟨by rw [show (textE t) = false from ht]; rw [show (b != 0) = true from hb]; rfl, H.only⟩
  refine Hs.condF (by kernel_rfl) ?_
  refine Hs.rung0 [3, 8] 300 (fun _ => by kernel_rfl) ?_
  refine Hs.bool 16 (a != 0) (by kernel_rfl) (fun ha => ?_) (fun ha => ?_)
  · refine Hs.condT (by kernel_rfl) ?_
    
    
    refine Hs.run0 300 (fun _ => by kernel_rfl) ?_
    exact Hs.ret (v := .bool false) Tryz.func41 (by kernel_rfl) fun w' H => ⟨by rw [show (textE t) = false from ht]; rw [show (b != 0) = false from hb]; rw [show (a != 0) = true from ha]; rfl, H.only⟩
  refine Hs.condF (by kernel_rfl) ?_
  refine Hs.run0 300 (fun _ => by kernel_rfl) ?_
  refine Hs.callV (v := .bool (true)) (fun w' H => plAny_any p q ⟨10, a, b, t⟩ w') (by kernel_rfl) ?_
  refine Hs.run0 300 (fun _ => by kernel_rfl) ?_
  exact Hs.ret (v := .bool (true)) Tryz.func41 (by kernel_rfl) fun w' H => ⟨by rw [show (textE t) = false from ht]; rw [show (b != 0) = false from hb]; rw [show (a != 0) = false from ha]; rfl, H.only⟩
theorem right_11 (a b : Int) (t : ByteArray) (p q : Int) (w : World) : Calls Tryz.prog 41 #[opA ⟨11, a, b, t⟩, .int .i64 p, .int .i64 q] w (RetB (restB 11 p q ⟨11, a, b, t⟩) w) := by
  have hR : restB 11 p q ⟨11, a, b, t⟩ = (!(textE t) && (!(b != 0) && (withinB a 0 1))) := rfl
  rw [hR]
  refine Hs.enter Tryz.func41 [] [] [] [.g [.v (.int .i64 11), .v (.int .i64 a), .v (.int .i64 b), .v (.string t)], .c (.v (.int .i64 p)), .c (.v (.int .i64 q))] (Mem.start0 w) (by kernel_rfl) (by kernel_rfl) ?_
  refine Hs.run1 300 (fun _ => by kernel_rfl) fun b0 => ?_
  refine Hs.callV (v := .bool true) (fun w' H => within_any 11 1 16 w') (by kernel_rfl) ?_
  refine Hs.run0 300 (fun _ => by kernel_rfl) ?_
  refine Hs.condF (by kernel_rfl) ?_
  refine Hs.run0 300 (fun _ => by kernel_rfl) ?_
  refine Hs.any [0] (by kernel_rfl) ?_
  refine Hs.run0 300 (fun _ => by kernel_rfl) ?_
  apply Hs.share1 (β' := [] ++ [b0])
  · intro K
    refine Hs.branch2 0 4 (by kernel_rfl) ?_ ?_
    · refine Hs.callV (v := .agg sortC.toArray) (fun w' H => sorts_any w') (by kernel_rfl) ?_
      refine Hs.run1 300 (fun _ => by kernel_rfl) fun b1 => ?_
      exact K b1
    · refine Hs.run1 300 (fun _ => by kernel_rfl) fun b1 => ?_
      refine Hs.callV (v := .agg sortC.toArray) (fun w' H => sorts_any w') (by kernel_rfl) ?_
      refine Hs.run0 300 (fun _ => by kernel_rfl) ?_
      exact Hs.eqM (K b1) (by kernel_rfl) (by kernel_rfl)
  intro b1
  refine Hs.rung0 [3, 8] 300 (fun _ => by kernel_rfl) ?_
  refine Hs.bool 16 (textE t) (by kernel_rfl) (fun ht => ?_) (fun ht => ?_)
  · refine Hs.condT (by kernel_rfl) ?_
    refine Hs.rung0 [3, 8] 300 (fun _ => by kernel_rfl) ?_
    refine Hs.condT (by kernel_rfl) ?_
    refine Hs.run0 300 (fun _ => by kernel_rfl) ?_
    exact Hs.ret (v := .bool false) Tryz.func41 (by kernel_rfl) fun w' H => ⟨by rw [show (textE t) = true from ht]; rfl, H.only⟩
  refine Hs.condF (by kernel_rfl) ?_
  refine Hs.rung0 [3, 8] 300 (fun _ => by kernel_rfl) ?_
  refine Hs.bool 16 (b != 0) (by kernel_rfl) (fun hb => ?_) (fun hb => ?_)
  · refine Hs.condT (by kernel_rfl) ?_
    refine Hs.rung0 [3, 8] 300 (fun _ => by kernel_rfl) ?_
    refine Hs.condT (by kernel_rfl) ?_
    refine Hs.run0 300 (fun _ => by kernel_rfl) ?_
    exact Hs.ret (v := .bool false) Tryz.func41 (by kernel_rfl) fun w' H => ⟨by rw [show (textE t) = false from ht]; rw [show (b != 0) = true from hb]; rfl, H.only⟩
  refine Hs.condF (by kernel_rfl) ?_
  refine Hs.rung0 [3, 8] 300 (fun _ => by kernel_rfl) ?_
  refine Hs.condF (by kernel_rfl) ?_
  refine Hs.run0 300 (fun _ => by kernel_rfl) ?_
  refine Hs.callV (v := .bool (withinB a 0 1)) (fun w' H => plEither_any p q ⟨11, a, b, t⟩ w') (by kernel_rfl) ?_
  refine Hs.run0 300 (fun _ => by kernel_rfl) ?_
  exact Hs.ret (v := .bool (withinB a 0 1)) Tryz.func41 (by kernel_rfl) fun w' H => ⟨by rw [show (textE t) = false from ht]; rw [show (b != 0) = false from hb]; rfl, H.only⟩
theorem right_12 (a b : Int) (t : ByteArray) (p q : Int) (w : World) : Calls Tryz.prog 41 #[opA ⟨12, a, b, t⟩, .int .i64 p, .int .i64 q] w (RetB (restB 12 p q ⟨12, a, b, t⟩) w) := by
  have hR : restB 12 p q ⟨12, a, b, t⟩ = (!(textE t) && (actOk a b)) := rfl
  rw [hR]
  refine Hs.enter Tryz.func41 [] [] [] [.g [.v (.int .i64 12), .v (.int .i64 a), .v (.int .i64 b), .v (.string t)], .c (.v (.int .i64 p)), .c (.v (.int .i64 q))] (Mem.start0 w) (by kernel_rfl) (by kernel_rfl) ?_
  refine Hs.run1 300 (fun _ => by kernel_rfl) fun b0 => ?_
  refine Hs.callV (v := .bool true) (fun w' H => within_any 12 1 16 w') (by kernel_rfl) ?_
  refine Hs.run0 300 (fun _ => by kernel_rfl) ?_
  refine Hs.condF (by kernel_rfl) ?_
  refine Hs.run0 300 (fun _ => by kernel_rfl) ?_
  refine Hs.any [0] (by kernel_rfl) ?_
  refine Hs.run0 300 (fun _ => by kernel_rfl) ?_
  apply Hs.share1 (β' := [] ++ [b0])
  · intro K
    refine Hs.branch2 0 4 (by kernel_rfl) ?_ ?_
    · refine Hs.callV (v := .agg sortC.toArray) (fun w' H => sorts_any w') (by kernel_rfl) ?_
      refine Hs.run1 300 (fun _ => by kernel_rfl) fun b1 => ?_
      exact K b1
    · refine Hs.run1 300 (fun _ => by kernel_rfl) fun b1 => ?_
      refine Hs.callV (v := .agg sortC.toArray) (fun w' H => sorts_any w') (by kernel_rfl) ?_
      refine Hs.run0 300 (fun _ => by kernel_rfl) ?_
      exact Hs.eqM (K b1) (by kernel_rfl) (by kernel_rfl)
  intro b1
  refine Hs.rung0 [3, 8] 300 (fun _ => by kernel_rfl) ?_
  refine Hs.bool 16 (textE t) (by kernel_rfl) (fun ht => ?_) (fun ht => ?_)
  · refine Hs.condT (by kernel_rfl) ?_
    refine Hs.rung0 [3, 8] 300 (fun _ => by kernel_rfl) ?_
    refine Hs.condT (by kernel_rfl) ?_
    refine Hs.run0 300 (fun _ => by kernel_rfl) ?_
    exact Hs.ret (v := .bool false) Tryz.func41 (by kernel_rfl) fun w' H => ⟨by rw [show (textE t) = true from ht]; rfl, H.only⟩
  refine Hs.condF (by kernel_rfl) ?_
  refine Hs.rung0 [3, 8] 300 (fun _ => by kernel_rfl) ?_
  refine Hs.condF (by kernel_rfl) ?_
  refine Hs.rung0 [3, 8] 300 (fun _ => by kernel_rfl) ?_
  refine Hs.condF (by kernel_rfl) ?_
  refine Hs.run0 300 (fun _ => by kernel_rfl) ?_
  refine Hs.callV (v := .bool (actOk a b)) (fun w' H => plAct_any p q ⟨12, a, b, t⟩ w') (by kernel_rfl) ?_
  refine Hs.run0 300 (fun _ => by kernel_rfl) ?_
  exact Hs.ret (v := .bool (actOk a b)) Tryz.func41 (by kernel_rfl) fun w' H => ⟨by rw [show (textE t) = false from ht]; rfl, H.only⟩
theorem right_13 (a b : Int) (t : ByteArray) (p q : Int) (w : World) : Calls Tryz.prog 41 #[opA ⟨13, a, b, t⟩, .int .i64 p, .int .i64 q] w (RetB (restB 13 p q ⟨13, a, b, t⟩) w) := by
  have hR : restB 13 p q ⟨13, a, b, t⟩ = (!(textE t) && (isS a && withinB b 0 1)) := rfl
  rw [hR]
  refine Hs.enter Tryz.func41 [] [] [] [.g [.v (.int .i64 13), .v (.int .i64 a), .v (.int .i64 b), .v (.string t)], .c (.v (.int .i64 p)), .c (.v (.int .i64 q))] (Mem.start0 w) (by kernel_rfl) (by kernel_rfl) ?_
  refine Hs.run1 300 (fun _ => by kernel_rfl) fun b0 => ?_
  refine Hs.callV (v := .bool true) (fun w' H => within_any 13 1 16 w') (by kernel_rfl) ?_
  refine Hs.run0 300 (fun _ => by kernel_rfl) ?_
  refine Hs.condF (by kernel_rfl) ?_
  refine Hs.run0 300 (fun _ => by kernel_rfl) ?_
  refine Hs.any [0] (by kernel_rfl) ?_
  refine Hs.run0 300 (fun _ => by kernel_rfl) ?_
  apply Hs.share1 (β' := [] ++ [b0])
  · intro K
    refine Hs.branch2 0 4 (by kernel_rfl) ?_ ?_
    · refine Hs.callV (v := .agg sortC.toArray) (fun w' H => sorts_any w') (by kernel_rfl) ?_
      refine Hs.run1 300 (fun _ => by kernel_rfl) fun b1 => ?_
      exact K b1
    · refine Hs.run1 300 (fun _ => by kernel_rfl) fun b1 => ?_
      refine Hs.callV (v := .agg sortC.toArray) (fun w' H => sorts_any w') (by kernel_rfl) ?_
      refine Hs.run0 300 (fun _ => by kernel_rfl) ?_
      exact Hs.eqM (K b1) (by kernel_rfl) (by kernel_rfl)
  intro b1
  refine Hs.rung0 [3, 8] 300 (fun _ => by kernel_rfl) ?_
  refine Hs.bool 16 (textE t) (by kernel_rfl) (fun ht => ?_) (fun ht => ?_)
  · refine Hs.condT (by kernel_rfl) ?_
    refine Hs.rung0 [3, 8] 300 (fun _ => by kernel_rfl) ?_
    refine Hs.condT (by kernel_rfl) ?_
    refine Hs.run0 300 (fun _ => by kernel_rfl) ?_
    exact Hs.ret (v := .bool false) Tryz.func41 (by kernel_rfl) fun w' H => ⟨by rw [show (textE t) = true from ht]; rfl, H.only⟩
  refine Hs.condF (by kernel_rfl) ?_
  refine Hs.rung0 [3, 8] 300 (fun _ => by kernel_rfl) ?_
  refine Hs.condF (by kernel_rfl) ?_
  refine Hs.rung0 [3, 8] 300 (fun _ => by kernel_rfl) ?_
  refine Hs.condF (by kernel_rfl) ?_
  refine Hs.run0 300 (fun _ => by kernel_rfl) ?_
  refine Hs.callV (v := .bool (isS a && withinB b 0 1)) (fun w' H => plMask_any p q ⟨13, a, b, t⟩ w') (by kernel_rfl) ?_
  refine Hs.run0 300 (fun _ => by kernel_rfl) ?_
  exact Hs.ret (v := .bool (isS a && withinB b 0 1)) Tryz.func41 (by kernel_rfl) fun w' H => ⟨by rw [show (textE t) = false from ht]; rfl, H.only⟩
theorem right_14 (a b : Int) (t : ByteArray) (p q : Int) (w : World) : Calls Tryz.prog 41 #[opA ⟨14, a, b, t⟩, .int .i64 p, .int .i64 q] w (RetB (restB 14 p q ⟨14, a, b, t⟩) w) := by
  have hR : restB 14 p q ⟨14, a, b, t⟩ = (!(textE t) && (!(b != 0) && (withinB a 0 1000))) := rfl
  rw [hR]
  refine Hs.enter Tryz.func41 [] [] [] [.g [.v (.int .i64 14), .v (.int .i64 a), .v (.int .i64 b), .v (.string t)], .c (.v (.int .i64 p)), .c (.v (.int .i64 q))] (Mem.start0 w) (by kernel_rfl) (by kernel_rfl) ?_
  refine Hs.run1 300 (fun _ => by kernel_rfl) fun b0 => ?_
  refine Hs.callV (v := .bool true) (fun w' H => within_any 14 1 16 w') (by kernel_rfl) ?_
  refine Hs.run0 300 (fun _ => by kernel_rfl) ?_
  refine Hs.condF (by kernel_rfl) ?_
  refine Hs.run0 300 (fun _ => by kernel_rfl) ?_
  refine Hs.any [0] (by kernel_rfl) ?_
  refine Hs.run0 300 (fun _ => by kernel_rfl) ?_
  apply Hs.share1 (β' := [] ++ [b0])
  · intro K
    refine Hs.branch2 0 4 (by kernel_rfl) ?_ ?_
    · refine Hs.callV (v := .agg sortC.toArray) (fun w' H => sorts_any w') (by kernel_rfl) ?_
      refine Hs.run1 300 (fun _ => by kernel_rfl) fun b1 => ?_
      exact K b1
    · refine Hs.run1 300 (fun _ => by kernel_rfl) fun b1 => ?_
      refine Hs.callV (v := .agg sortC.toArray) (fun w' H => sorts_any w') (by kernel_rfl) ?_
      refine Hs.run0 300 (fun _ => by kernel_rfl) ?_
      exact Hs.eqM (K b1) (by kernel_rfl) (by kernel_rfl)
  intro b1
  refine Hs.rung0 [3, 8] 300 (fun _ => by kernel_rfl) ?_
  refine Hs.bool 16 (textE t) (by kernel_rfl) (fun ht => ?_) (fun ht => ?_)
  · refine Hs.condT (by kernel_rfl) ?_
    refine Hs.rung0 [3, 8] 300 (fun _ => by kernel_rfl) ?_
    refine Hs.condT (by kernel_rfl) ?_
    refine Hs.run0 300 (fun _ => by kernel_rfl) ?_
    exact Hs.ret (v := .bool false) Tryz.func41 (by kernel_rfl) fun w' H => ⟨by rw [show (textE t) = true from ht]; rfl, H.only⟩
  refine Hs.condF (by kernel_rfl) ?_
  refine Hs.rung0 [3, 8] 300 (fun _ => by kernel_rfl) ?_
  refine Hs.bool 16 (b != 0) (by kernel_rfl) (fun hb => ?_) (fun hb => ?_)
  · refine Hs.condT (by kernel_rfl) ?_
    refine Hs.rung0 [3, 8] 300 (fun _ => by kernel_rfl) ?_
    refine Hs.condT (by kernel_rfl) ?_
    refine Hs.run0 300 (fun _ => by kernel_rfl) ?_
    exact Hs.ret (v := .bool false) Tryz.func41 (by kernel_rfl) fun w' H => ⟨by rw [show (textE t) = false from ht]; rw [show (b != 0) = true from hb]; rfl, H.only⟩
  refine Hs.condF (by kernel_rfl) ?_
  refine Hs.rung0 [3, 8] 300 (fun _ => by kernel_rfl) ?_
  refine Hs.condF (by kernel_rfl) ?_
  refine Hs.run0 300 (fun _ => by kernel_rfl) ?_
  refine Hs.callV (v := .bool (withinB a 0 1000)) (fun w' H => plTime_any p q ⟨14, a, b, t⟩ w') (by kernel_rfl) ?_
  refine Hs.run0 300 (fun _ => by kernel_rfl) ?_
  exact Hs.ret (v := .bool (withinB a 0 1000)) Tryz.func41 (by kernel_rfl) fun w' H => ⟨by rw [show (textE t) = false from ht]; rw [show (b != 0) = false from hb]; rfl, H.only⟩
theorem right_15 (a b : Int) (t : ByteArray) (p q : Int) (w : World) : Calls Tryz.prog 41 #[opA ⟨15, a, b, t⟩, .int .i64 p, .int .i64 q] w (RetB (restB 15 p q ⟨15, a, b, t⟩) w) := by
  have hR : restB 15 p q ⟨15, a, b, t⟩ = (!(textE t) && (isFlagB a && withinB b 0 1)) := rfl
  rw [hR]
  refine Hs.enter Tryz.func41 [] [] [] [.g [.v (.int .i64 15), .v (.int .i64 a), .v (.int .i64 b), .v (.string t)], .c (.v (.int .i64 p)), .c (.v (.int .i64 q))] (Mem.start0 w) (by kernel_rfl) (by kernel_rfl) ?_
  refine Hs.run1 300 (fun _ => by kernel_rfl) fun b0 => ?_
  refine Hs.callV (v := .bool true) (fun w' H => within_any 15 1 16 w') (by kernel_rfl) ?_
  refine Hs.run0 300 (fun _ => by kernel_rfl) ?_
  refine Hs.condF (by kernel_rfl) ?_
  refine Hs.run0 300 (fun _ => by kernel_rfl) ?_
  refine Hs.any [0] (by kernel_rfl) ?_
  refine Hs.run0 300 (fun _ => by kernel_rfl) ?_
  apply Hs.share1 (β' := [] ++ [b0])
  · intro K
    refine Hs.branch2 0 4 (by kernel_rfl) ?_ ?_
    · refine Hs.callV (v := .agg sortC.toArray) (fun w' H => sorts_any w') (by kernel_rfl) ?_
      refine Hs.run1 300 (fun _ => by kernel_rfl) fun b1 => ?_
      exact K b1
    · refine Hs.run1 300 (fun _ => by kernel_rfl) fun b1 => ?_
      refine Hs.callV (v := .agg sortC.toArray) (fun w' H => sorts_any w') (by kernel_rfl) ?_
      refine Hs.run0 300 (fun _ => by kernel_rfl) ?_
      exact Hs.eqM (K b1) (by kernel_rfl) (by kernel_rfl)
  intro b1
  refine Hs.rung0 [3, 8] 300 (fun _ => by kernel_rfl) ?_
  refine Hs.bool 16 (textE t) (by kernel_rfl) (fun ht => ?_) (fun ht => ?_)
  · refine Hs.condT (by kernel_rfl) ?_
    refine Hs.rung0 [3, 8] 300 (fun _ => by kernel_rfl) ?_
    refine Hs.condT (by kernel_rfl) ?_
    refine Hs.run0 300 (fun _ => by kernel_rfl) ?_
    exact Hs.ret (v := .bool false) Tryz.func41 (by kernel_rfl) fun w' H => ⟨by rw [show (textE t) = true from ht]; rfl, H.only⟩
  refine Hs.condF (by kernel_rfl) ?_
  refine Hs.rung0 [3, 8] 300 (fun _ => by kernel_rfl) ?_
  refine Hs.condF (by kernel_rfl) ?_
  refine Hs.rung0 [3, 8] 300 (fun _ => by kernel_rfl) ?_
  refine Hs.condF (by kernel_rfl) ?_
  refine Hs.run0 300 (fun _ => by kernel_rfl) ?_
  refine Hs.callV (v := .bool (isFlagB a && withinB b 0 1)) (fun w' H => plMode_any p q ⟨15, a, b, t⟩ w') (by kernel_rfl) ?_
  refine Hs.run0 300 (fun _ => by kernel_rfl) ?_
  exact Hs.ret (v := .bool (isFlagB a && withinB b 0 1)) Tryz.func41 (by kernel_rfl) fun w' H => ⟨by rw [show (textE t) = false from ht]; rfl, H.only⟩
theorem right_16 (a b : Int) (t : ByteArray) (p q : Int) (w : World) : Calls Tryz.prog 41 #[opA ⟨16, a, b, t⟩, .int .i64 p, .int .i64 q] w (RetB (restB 16 p q ⟨16, a, b, t⟩) w) := by
  have hR : restB 16 p q ⟨16, a, b, t⟩ = (!(textE t) && (!(b != 0) && (!(a != 0) && (true)))) := rfl
  rw [hR]
  refine Hs.enter Tryz.func41 [] [] [] [.g [.v (.int .i64 16), .v (.int .i64 a), .v (.int .i64 b), .v (.string t)], .c (.v (.int .i64 p)), .c (.v (.int .i64 q))] (Mem.start0 w) (by kernel_rfl) (by kernel_rfl) ?_
  refine Hs.run1 300 (fun _ => by kernel_rfl) fun b0 => ?_
  refine Hs.callV (v := .bool true) (fun w' H => within_any 16 1 16 w') (by kernel_rfl) ?_
  refine Hs.run0 300 (fun _ => by kernel_rfl) ?_
  refine Hs.condF (by kernel_rfl) ?_
  refine Hs.run0 300 (fun _ => by kernel_rfl) ?_
  refine Hs.any [0] (by kernel_rfl) ?_
  refine Hs.run0 300 (fun _ => by kernel_rfl) ?_
  apply Hs.share1 (β' := [] ++ [b0])
  · intro K
    refine Hs.branch2 0 4 (by kernel_rfl) ?_ ?_
    · refine Hs.callV (v := .agg sortC.toArray) (fun w' H => sorts_any w') (by kernel_rfl) ?_
      refine Hs.run1 300 (fun _ => by kernel_rfl) fun b1 => ?_
      exact K b1
    · refine Hs.run1 300 (fun _ => by kernel_rfl) fun b1 => ?_
      refine Hs.callV (v := .agg sortC.toArray) (fun w' H => sorts_any w') (by kernel_rfl) ?_
      refine Hs.run0 300 (fun _ => by kernel_rfl) ?_
      exact Hs.eqM (K b1) (by kernel_rfl) (by kernel_rfl)
  intro b1
  refine Hs.rung0 [3, 8] 300 (fun _ => by kernel_rfl) ?_
  refine Hs.bool 16 (textE t) (by kernel_rfl) (fun ht => ?_) (fun ht => ?_)
  · refine Hs.condT (by kernel_rfl) ?_
    refine Hs.rung0 [3, 8] 300 (fun _ => by kernel_rfl) ?_
    refine Hs.condT (by kernel_rfl) ?_
    refine Hs.run0 300 (fun _ => by kernel_rfl) ?_
    exact Hs.ret (v := .bool false) Tryz.func41 (by kernel_rfl) fun w' H => ⟨by rw [show (textE t) = true from ht]; rfl, H.only⟩
  refine Hs.condF (by kernel_rfl) ?_
  refine Hs.rung0 [3, 8] 300 (fun _ => by kernel_rfl) ?_
  refine Hs.bool 16 (b != 0) (by kernel_rfl) (fun hb => ?_) (fun hb => ?_)
  · refine Hs.condT (by kernel_rfl) ?_
    refine Hs.rung0 [3, 8] 300 (fun _ => by kernel_rfl) ?_
    refine Hs.condT (by kernel_rfl) ?_
    refine Hs.run0 300 (fun _ => by kernel_rfl) ?_
    exact Hs.ret (v := .bool false) Tryz.func41 (by kernel_rfl) fun w' H => ⟨by rw [show (textE t) = false from ht]; rw [show (b != 0) = true from hb]; rfl, H.only⟩
  refine Hs.condF (by kernel_rfl) ?_
  refine Hs.rung0 [3, 8] 300 (fun _ => by kernel_rfl) ?_
  refine Hs.bool 16 (a != 0) (by kernel_rfl) (fun ha => ?_) (fun ha => ?_)
  · refine Hs.condT (by kernel_rfl) ?_
    
    
    refine Hs.run0 300 (fun _ => by kernel_rfl) ?_
    exact Hs.ret (v := .bool false) Tryz.func41 (by kernel_rfl) fun w' H => ⟨by rw [show (textE t) = false from ht]; rw [show (b != 0) = false from hb]; rw [show (a != 0) = true from ha]; rfl, H.only⟩
  refine Hs.condF (by kernel_rfl) ?_
  refine Hs.run0 300 (fun _ => by kernel_rfl) ?_
  refine Hs.callV (v := .bool (true)) (fun w' H => plAny_any p q ⟨16, a, b, t⟩ w') (by kernel_rfl) ?_
  refine Hs.run0 300 (fun _ => by kernel_rfl) ?_
  exact Hs.ret (v := .bool (true)) Tryz.func41 (by kernel_rfl) fun w' H => ⟨by rw [show (textE t) = false from ht]; rw [show (b != 0) = false from hb]; rw [show (a != 0) = false from ha]; rfl, H.only⟩
end Go.Proofs.YtmmcamkmglpgiaaGreatDoor

namespace Go.Proofs.YtmmcamkmglpgiaaGreatDoor
open Go.RowKit Go.Shelf
set_option linter.all false
set_option maxRecDepth 100000
theorem right_any (o : OP9) (p q : Int) (w : World) : Calls Tryz.prog 41 #[opA o, .int .i64 p, .int .i64 q] w (RetB (rightB o p q) w) := by
  cases h : withinB o.k 1 16 with
  | false =>
    have e : rightB o p q = false := by unfold rightB; rw [h]; rfl
    rw [e]
    exact right_out o p q h w
  | true =>
    have e : rightB o p q = restB o.k.toNat p q o := by unfold rightB; rw [h]; rfl
    rw [e]
    obtain ⟨k, a, b, t⟩ := o
    have h2 : 1 ≤ k ∧ k ≤ 16 := by simpa [withinB] using h
    obtain ⟨n, rfl⟩ : ∃ n : Nat, k = n := ⟨k.toNat, by omega⟩
    have h3 : n = 1 ∨ n = 2 ∨ n = 3 ∨ n = 4 ∨ n = 5 ∨ n = 6 ∨ n = 7 ∨ n = 8 ∨ n = 9 ∨ n = 10 ∨ n = 11 ∨ n = 12 ∨ n = 13 ∨ n = 14 ∨ n = 15 ∨ n = 16 := by omega
    rcases h3 with rfl | rfl | rfl | rfl | rfl | rfl | rfl | rfl | rfl | rfl | rfl | rfl | rfl | rfl | rfl | rfl
    · exact right_1 a b t p q w
    · exact right_2 a b t p q w
    · exact right_3 a b t p q w
    · exact right_4 a b t p q w
    · exact right_5 a b t p q w
    · exact right_6 a b t p q w
    · exact right_7 a b t p q w
    · exact right_8 a b t p q w
    · exact right_9 a b t p q w
    · exact right_10 a b t p q w
    · exact right_11 a b t p q w
    · exact right_12 a b t p q w
    · exact right_13 a b t p q w
    · exact right_14 a b t p q w
    · exact right_15 a b t p q w
    · exact right_16 a b t p q w
theorem wrong1_any (o : OP9) (p q : Int) (c : Nat) (w : World) (hc : Blk w c 57 [.int .i64 p, .int .i64 q]) : Calls Tryz.prog 40 #[opA o, .pointer (some ⟨c, 0, none⟩)] w (RetB (!rightB o p q) w) := by
  have H0 : Mem w [] [c] [.b false 57 [.v (.int .i64 p), .v (.int .i64 q)]] w := Mem.startW [] rfl (by simp [bks, HB.blk]) ⟨hc, trivial⟩ (fun y hy => by simp [wrN, HB.wr] at hy)
  refine Hs.enter Tryz.func40 [] [c] _ [.g o.sc, .c (.p 0 0)] H0 (by kernel_rfl) (by kernel_rfl) ?_
  refine Hs.run1 300 (fun _ => by kernel_rfl) fun b1 => ?_
  refine Hs.callV (v := .bool (rightB o p q)) (fun w' H => right_any o p q w') (by kernel_rfl) ?_
  refine Hs.run0 300 (fun _ => by kernel_rfl) ?_
  exact Hs.ret (v := .bool (!rightB o p q)) Tryz.func40 (by kernel_rfl) fun w' H => ⟨rfl, H.only⟩
def ixG (f : OP9 → Bool) : List OP9 → Nat → Int
  | [], _ => -1
  | o :: l, i => match f o with
    | true => (i : Int)
    | false => ixG f l (i + 1)
theorem ixG_cons (f : OP9 → Bool) (o : OP9) (l : List OP9) (i : Nat) : ixG f (o :: l) i = match f o with
    | true => (i : Int)
    | false => ixG f l (i + 1) := rfl
theorem ixG_any (f : OP9 → Bool) : ∀ (l : List OP9) (i : Nat), decide (0 ≤ ixG f l i) = l.any f
  | [], i => rfl
  | o :: l, i => by
    unfold ixG
    rw [List.any_cons]
    cases h : f o with
    | true => exact decide_eq_true (Int.natCast_nonneg i)
    | false => exact ixG_any f l (i + 1)
set_option maxHeartbeats 1000000 in
theorem ixOp_any (p q : Int) (l : List OP9) (A : Option Addr) (cap : Nat) (c : Nat) (w : World) (hrd : RdX cOP w A l) (hm : l.length ≤ maxLen) (hc : Blk w c 57 [.int .i64 p, .int .i64 q]) : Calls Tryz.prog 63 #[.slice A l.length cap, .func (.func 40) #[] #[.pointer (some ⟨c, 0, none⟩)]] w fun e w' => e = .returned (.int .i64 (ixG (fun o => !rightB o p q) l 0)) ∧ Only [] w w' := by
  have J : ∀ (d i : Nat), l.length - i = d → i ≤ l.length → ixG (fun o => !rightB o p q) (l.drop i) i = ixG (fun o => !rightB o p q) l 0 → ∀ (u : Nat → Value), Hs Tryz.prog 63 (fun e w' => e = .returned (.int .i64 (ixG (fun o => !rightB o p q) l 0)) ∧ Only [] w w') (Tryz.f63).ntmps w [] [] ⟨.no, loopAt Tryz.f63 0, pins [(0, .c (.v (.slice A l.length cap))), (1, .c (.v (.func (.func 40) #[] #[.pointer (some ⟨c, 0, none⟩)]))), (4, .c (.v (.int .i64 0))), (7, .c (.v (.int .i64 l.length))), (8, .c (.v (.int .i64 i)))] (.vals u), []⟩ := by
    intro d
    induction d with
    | zero =>
      intro i hd hi hix u
      obtain rfl : i = l.length := by omega
      rw [List.drop_length] at hix
      have e : ixG (fun o => !rightB o p q) l 0 = -1 := hix.symm
      refine Hs.run0 300 (fun _ => by kernel_rfl) ?_
      refine Hs.condP ((l.length : Int) < (l.length : Int)) (by kernel_rfl) (fun h => by omega) (fun _ => ?_)
      refine Hs.run0 300 (fun _ => by kernel_rfl) ?_
      exact Hs.ret (v := .int .i64 (-1)) Tryz.func63 (by kernel_rfl) fun w' H => ⟨by rw [e], H.only⟩
    | succ d ih =>
      intro i hd hi hix u
      have hil : i < l.length := by omega
      obtain ⟨r, hr⟩ : ∃ r, l[i]? = some r := ⟨_, List.getElem?_eq_getElem hil⟩
      have hdr : l.drop i = r :: l.drop (i + 1) := by
        rw [List.drop_eq_getElem_cons hil]
        rw [List.getElem?_eq_getElem hil] at hr
        injection hr with hr
        rw [hr]
      rw [hdr, ixG_cons] at hix
      obtain ⟨ab, aoff, hA, _, _⟩ := hrd (by omega)
      have hih := fun hix u => ih (i + 1) (by omega) (by omega) hix u
      clear ih
      have hrd := hrd
      rw [hA] at hih hrd ⊢
      refine Hs.run0 300 (fun _ => by kernel_rfl) ?_
      refine Hs.condP ((i : Int) < (l.length : Int)) (by kernel_rfl) (fun _ => ?_) (fun h => by omega)
      refine Hs.run0 300 (fun _ => by kernel_rfl) ?_
      refine Hs.idx (b := ab) (off := aoff) (len := l.length) (c := cap) (i := i) elemPo hil (by kernel_rfl) ?_
      refine Hs.ldx (cf := cOP) (size := 4) (E := 36) (b := ab) (off := aoff) (i := i) (l := l) (x := r) cOP_len (.g r.sc) (by kernel_rfl) (fun w' H => hrd.only H.only) hr (by kernel_rfl) (by kernel_rfl) rfl (by kernel_rfl) ?_
      refine Hs.callV (v := .bool (!rightB r p q)) (fun w' H => wrong1_any r p q c w' (hc.only H.only (by simp))) (by kernel_rfl) ?_
      refine Hs.run0 300 (fun _ => by kernel_rfl) ?_
      refine Hs.cond (!rightB r p q) (by kernel_rfl) (fun h => ?_) (fun h => ?_)
      · rw [h] at hix
        refine Hs.run0 300 (fun _ => by kernel_rfl) ?_
        exact Hs.ret (v := .int .i64 i) Tryz.func63 (by kernel_rfl) fun w' H => ⟨by rw [← hix], H.only⟩
      · rw [h] at hix
        refine Hs.run0 300 (fun _ => by kernel_rfl) ?_
        refine Hs.slot 8 (.c (.v (.int .i64 (i + 1 : Nat)))) rfl ((by kernel_rfl : _ = Value.int .i64 (IntKind.i64.wrap ((i : Int) + 1))).trans (wrap_nextJ hm)) ?_
        refine Hs.loop (by kernel_rfl) ?_
        exact Hs.goto (loopAt Tryz.f63 0) [] [] [(0, .c (.v (.slice (some ⟨ab, aoff, none⟩) l.length cap))), (1, .c (.v (.func (.func 40) #[] #[.pointer (some ⟨c, 0, none⟩)]))), (4, .c (.v (.int .i64 0))), (7, .c (.v (.int .i64 l.length))), (8, .c (.v (.int .i64 (i + 1 : Nat))))] (by kernel_rfl) (by decide) (by kernel_rfl) (by kernel_rfl) (fun _ => (by kernel_rfl)) (fun u => hih hix u)
  refine Hs.enter Tryz.func63 [] [] [] [.c (.v (.slice A l.length cap)), .c (.v (.func (.func 40) #[] #[.pointer (some ⟨c, 0, none⟩)]))] (Mem.start0 w) (by kernel_rfl) (by kernel_rfl) ?_
  refine Hs.run0 300 (fun _ => by kernel_rfl) ?_
  refine Hs.loop (by kernel_rfl) ?_
  exact Hs.goto (loopAt Tryz.f63 0) [] [] [(0, .c (.v (.slice A l.length cap))), (1, .c (.v (.func (.func 40) #[] #[.pointer (some ⟨c, 0, none⟩)]))), (4, .c (.v (.int .i64 0))), (7, .c (.v (.int .i64 l.length))), (8, .c (.v (.int .i64 (0 : Nat))))] (by kernel_rfl) (by decide) (by kernel_rfl) (by kernel_rfl) (fun _ => (by kernel_rfl)) (fun u => J l.length 0 (by omega) (by omega) (by rw [List.drop_zero]) u)
theorem coOp_any (p q : Int) (l : List OP9) (A : Option Addr) (cap : Nat) (c : Nat) (w : World) (hrd : RdX cOP w A l) (hm : l.length ≤ maxLen) (hc : Blk w c 57 [.int .i64 p, .int .i64 q]) : Calls Tryz.prog 39 #[.slice A l.length cap, .func (.func 40) #[] #[.pointer (some ⟨c, 0, none⟩)]] w (RetB (l.any fun o => !rightB o p q) w) := by
  refine Hs.enter Tryz.func39 [] [] [] [.c (.v (.slice A l.length cap)), .c (.v (.func (.func 40) #[] #[.pointer (some ⟨c, 0, none⟩)]))] (Mem.start0 w) (by kernel_rfl) (by kernel_rfl) ?_
  refine Hs.run0 300 (fun _ => by kernel_rfl) ?_
  refine Hs.callV (v := .int .i64 (ixG (fun o => !rightB o p q) l 0)) (fun w' H => ixOp_any p q l A cap c w' (hrd.only H.only) hm (hc.only H.only (by simp))) (by kernel_rfl) ?_
  refine Hs.run0 300 (fun _ => by kernel_rfl) ?_
  exact Hs.ret (v := .bool (decide (0 ≤ ixG (fun o => !rightB o p q) l 0))) Tryz.func39 (by kernel_rfl) fun w' H => ⟨by rw [ixG_any], H.only⟩
def alnumL : List UInt8 := [97, 98, 99, 100, 101, 102, 103, 104, 105, 106, 107, 108, 109, 110, 111, 112, 113, 114, 115, 116, 117, 118, 119, 120, 121, 122, 48, 49, 50, 51, 52, 53, 54, 55, 56, 57]
def nmB (t : ByteArray) : Bool := textE t && (decide ((t.size : Int) ≤ 64) && (strL (Lib.trimS t.data.toList alnumL)).toList == (⟨#[]⟩ : ByteArray).toList)
theorem trim_any (t : ByteArray) (ht : (t.size : Int) ≤ 64) (w : World) : Calls Tryz.prog 62 #[.string t, .string (strL alnumL)] w fun e w' => e = .returned (.string (strL (Lib.trimS t.data.toList alnumL))) ∧ Only [] w w' := by
  have h : (t.size : Int) ≤ 64 := ht
  refine (Any.strings_Trim_laid Tryz.lays160 (by kernel_rfl) t (strL alnumL) w (by omega) (by decide) (ascii_of_all (by decide))).mono ?_
  rintro e w' ⟨rfl, hb⟩
  exact ⟨rfl, only_of_below hb⟩
theorem named_any (t : ByteArray) (w : World) : Calls Tryz.prog 38 #[.string t] w (RetB (nmB t) w) := by
  refine Hs.enter Tryz.func38 [] [] [] [.c (.v (.string t))] (Mem.start0 w) (by kernel_rfl) (by kernel_rfl) ?_
  refine Hs.run0 300 (fun _ => by kernel_rfl) ?_
  refine Hs.bool 5 (textE t) (by kernel_rfl) (fun h => ?_) (fun h => ?_)
  · refine Hs.rung0 [2] 300 (fun _ => by kernel_rfl) ?_
    refine Hs.bool 10 (decide ((t.size : Int) ≤ 64)) (by kernel_rfl) (fun h2 => ?_) (fun h2 => ?_)
    · refine Hs.rung0 [2, 7] 300 (fun _ => by kernel_rfl) ?_
      refine Hs.callV (v := .string (strL (Lib.trimS t.data.toList alnumL))) (fun w' H => trim_any t (of_decide_eq_true h2) w') (by kernel_rfl) ?_
      refine Hs.rung0 [2, 7] 300 (fun _ => by kernel_rfl) ?_
      exact Hs.ret (v := .bool ((strL (Lib.trimS t.data.toList alnumL)).toList == (⟨#[]⟩ : ByteArray).toList)) Tryz.func38 (by kernel_rfl) fun w' H => ⟨by unfold nmB; rw [h, h2]; rfl, H.only⟩
    · refine Hs.rung0 [2, 7] 300 (fun _ => by kernel_rfl) ?_
      exact Hs.ret (v := .bool false) Tryz.func38 (by kernel_rfl) fun w' H => ⟨by unfold nmB; rw [h, h2]; rfl, H.only⟩
  · refine Hs.rung0 [2, 7] 300 (fun _ => by kernel_rfl) ?_
    exact Hs.ret (v := .bool false) Tryz.func38 (by kernel_rfl) fun w' H => ⟨by unfold nmB; rw [h]; rfl, H.only⟩
end Go.Proofs.YtmmcamkmglpgiaaGreatDoor

namespace Go.Proofs.YtmmcamkmglpgiaaGreatDoor
open Go.RowKit Go.MapKept
set_option linter.all false
set_option maxRecDepth 100000
instance decBA : DecidableEq ByteArray := fun a b => decidable_of_iff (a.data.toList = b.data.toList) ⟨fun h => by
  cases a with | mk x => cases b with | mk y => exact congrArg ByteArray.mk (Array.toList_inj.1 h), fun h => by rw [h]⟩
abbrev PM := ByteArray × List OP9
def badOps (ops : List OP9) (p q : Int) : Bool := ops.any fun o => !rightB o p q
def wrongM (m : PM) (p q : Int) : Int := match nmB m.1 with
  | false => 4
  | true => if (64 : Int) < m.2.length then 6 else match badOps m.2 p q with
    | true => 2
    | false => 0
theorem wrong_any (x : PG) (p q : Int) (w : World) (hx : PgOk w x) : Calls Tryz.prog 19 #[.agg (cPG x).toArray, plV p q] w fun e w' => e = .returned (.int .i64 (wrongM x.m p q)) ∧ Only [] w w' := by
  have hco : ∀ b0 b1 w', Mem w [] ([] ++ [b0, b1]) [.b true 33 [.v (.string x.n), .v (.slice x.A x.ops.length x.c)], .b true 57 [.v (.int .i64 p), .v (.int .i64 q)]] w' → Calls Tryz.prog 39 #[.slice x.A x.ops.length x.c, .func (.func 40) #[] #[.pointer (some ⟨b1, 0, none⟩)]] w' (RetB (badOps x.ops p q) w') := fun b0 b1 w' H => coOp_any p q x.ops x.A x.c b1 w' (hx.1.only H.only) (Nat.le_trans hx.2.1 hx.2.2) (H.at 1 rfl)
  have hW : wrongM x.m p q = (match nmB x.n with
    | false => 4
    | true => if (64 : Int) < x.ops.length then 6 else match badOps x.ops p q with
      | true => 2
      | false => 0) := rfl
  rw [hW]
  refine Hs.enter Tryz.func19 [] [] [] [.g x.sc, .g [.v (.int .i64 p), .v (.int .i64 q)]] (Mem.start0 w) (by kernel_rfl) (by kernel_rfl) ?_
  refine Hs.run2 300 (fun _ => by kernel_rfl) fun b0 b1 => ?_
  refine Hs.callV (v := .bool (nmB x.n)) (fun w' H => named_any _ w') (by kernel_rfl) ?_
  refine Hs.run0 300 (fun _ => by kernel_rfl) ?_
  refine Hs.cond (!nmB x.n) (by kernel_rfl) (fun h => ?_) (fun h => ?_)
  · refine Hs.run0 300 (fun _ => by kernel_rfl) ?_
    exact Hs.ret (v := .int .i64 4) Tryz.func19 (by kernel_rfl) fun w' H => ⟨by rw [show nmB x.n = false by simpa using h], H.only⟩
  · refine Hs.run0 300 (fun _ => by kernel_rfl) ?_
    refine Hs.condP ((64 : Int) < (x.ops.length : Int)) (by kernel_rfl) (fun h2 => ?_) (fun h2 => ?_)
    · refine Hs.run0 300 (fun _ => by kernel_rfl) ?_
      exact Hs.ret (v := .int .i64 6) Tryz.func19 (by kernel_rfl) fun w' H => ⟨by rw [show nmB x.n = true by simpa using h]; dsimp only; rw [if_pos h2], H.only⟩
    · refine Hs.run0 300 (fun _ => by kernel_rfl) ?_
      refine Hs.callV (v := .bool (badOps x.ops p q)) (fun w' H => hco b0 b1 w' (Eq.mp (by kernel_rfl) H)) (by kernel_rfl) ?_
      refine Hs.run0 300 (fun _ => by kernel_rfl) ?_
      refine Hs.cond (badOps x.ops p q) (by kernel_rfl) (fun h3 => ?_) (fun h3 => ?_)
      · refine Hs.run0 300 (fun _ => by kernel_rfl) ?_
        exact Hs.ret (v := .int .i64 2) Tryz.func19 (by kernel_rfl) fun w' H => ⟨by rw [show nmB x.n = true by simpa using h]; dsimp only; rw [if_neg h2, h3], H.only⟩
      · refine Hs.run0 300 (fun _ => by kernel_rfl) ?_
        exact Hs.ret (v := .int .i64 0) Tryz.func19 (by kernel_rfl) fun w' H => ⟨by rw [show nmB x.n = true by simpa using h]; dsimp only; rw [if_neg h2, h3], H.only⟩
def kS (s : ByteArray) : Value := .string s
theorem kS_inj (a b : ByteArray) (h : kS a = kS b) : a = b := by injection h
theorem keyN : KeyT Tryz.prog 58 9 4 (.bool false) kS := ⟨(by kernel_rfl), fun w => by kernel_rfl, ⟨.string, by kernel_rfl, fun _ => trivial⟩, kS_inj⟩
def seenE (l : List ByteArray) : List (ByteArray × Value) := l.map fun n => (n, .bool true)
def hasN (n : ByteArray) (l : List ByteArray) : Bool := l.any fun a => decide (a = n)
theorem seen_look (n : ByteArray) : ∀ l : List ByteArray, lookM n (seenE l) = if hasN n l = true then some (Value.bool true) else none
  | [] => rfl
  | a :: l => by
    have e : hasN n (a :: l) = (decide (a = n) || hasN n l) := rfl
    have e2 : lookM n (seenE (a :: l)) = if a = n then some (Value.bool true) else lookM n (seenE l) := rfl
    rw [e, e2]
    by_cases h : a = n
    · rw [if_pos h, decide_eq_true h]
      rfl
    · rw [if_neg h, decide_eq_false h, Bool.false_or]
      exact seen_look n l
def dupM (seen : List ByteArray) : List ByteArray → Int
  | [] => 0
  | n :: l => if hasN n seen = true then 4 else dupM (seen ++ [n]) l
def wrongs (q : Int) : List PM → Nat → Int
  | [], _ => 0
  | m :: l, i => if wrongM m i q = 0 then wrongs q l (i + 1) else wrongM m i q
theorem wrongs_cons (q : Int) (m : PM) (l : List PM) (i : Nat) : wrongs q (m :: l) i = if wrongM m i q = 0 then wrongs q l (i + 1) else wrongM m i q := rfl
theorem dupM_cons (seen : List ByteArray) (n : ByteArray) (l : List ByteArray) : dupM seen (n :: l) = if hasN n seen = true then 4 else dupM (seen ++ [n]) l := rfl
/-- What is wrong with programs. -/
def checkM (l : List PM) : Int := match withinB (l.length : Int) 1 32 with
  | false => 5
  | true => if wrongs l.length l 0 = 0 then dupM [] (l.map Prod.fst) else wrongs l.length l 0
abbrev CkR (ps : List PG) (w : World) : Ending → World → Prop := fun e w' => e = .returned (.int .i64 (checkM (ps.map PG.m))) ∧ Only [] w w'
set_option maxHeartbeats 4000000 in
theorem check_any (ps : List PG) (A : Option Addr) (c : Nat) (w : World) (h : Pgs w A c ps) : Calls Tryz.prog 9 #[.slice A ps.length c] w (CkR ps w) := by
  have hlen : ps.length ≤ maxLen := Nat.le_trans h.le h.max
  have hwe : ∀ b, withinB (ps.length : Int) 1 32 = b → checkM (ps.map PG.m) = (match b with
    | false => 5
    | true => if wrongs ps.length (ps.map PG.m) 0 = 0 then dupM [] (ps.map PG.n) else wrongs ps.length (ps.map PG.m) 0) := by
    intro b hb
    unfold checkM
    rw [List.length_map, hb, List.map_map]
    rfl
  have J2 : ∀ (d i : Nat), ps.length - i = d → i ≤ ps.length → checkM (ps.map PG.m) = dupM ((ps.take i).map PG.n) ((ps.drop i).map PG.n) → ∀ (r : Nat) (u : Nat → Value), Hs Tryz.prog 9 (CkR ps w) (Tryz.f9).ntmps w [] [r] ⟨.no, loopAt Tryz.f9 1, pins [(6, .c (.v (.map (some r)))), (31, .c (.v (.slice A ps.length c))), (32, .c (.v (.int .i64 ps.length))), (33, .c (.v (.int .i64 i)))] (.vals u), [HB.mp kS r (seenE ((ps.take i).map PG.n))]⟩ := by
    intro d
    induction d with
    | zero =>
      intro i hd hi hix r u
      obtain rfl : i = ps.length := by omega
      rw [List.drop_length] at hix
      have e : checkM (ps.map PG.m) = 0 := hix
      refine Hs.run0 300 (fun _ => by kernel_rfl) ?_
      refine Hs.condP ((ps.length : Int) < (ps.length : Int)) (by kernel_rfl) (fun h => by omega) (fun _ => ?_)
      refine Hs.run0 300 (fun _ => by kernel_rfl) ?_
      exact Hs.ret (v := .int .i64 0) Tryz.func9 (by kernel_rfl) fun w' H => ⟨by rw [e], H.only⟩
    | succ d ih =>
      intro i hd hi hix r u
      have hil : i < ps.length := by omega
      obtain ⟨x, hx⟩ : ∃ x, ps[i]? = some x := ⟨_, List.getElem?_eq_getElem hil⟩
      have hdr : ps.drop i = x :: ps.drop (i + 1) := by
        rw [List.drop_eq_getElem_cons hil]
        rw [List.getElem?_eq_getElem hil] at hx
        injection hx with hx
        rw [hx]
      have htk : (ps.take (i + 1)).map PG.n = (ps.take i).map PG.n ++ [x.n] := by rw [List.take_add_one, hx, List.map_append]; rfl
      rw [hdr, List.map_cons, dupM_cons] at hix
      obtain ⟨ab, aoff, hA, _, _⟩ := h.rd (by omega)
      have hih := fun hix r u => ih (i + 1) (by omega) (by omega) hix r u
      clear ih
      have hrd := h.rd
      rw [hA] at hih hrd ⊢
      refine Hs.run0 300 (fun _ => by kernel_rfl) ?_
      refine Hs.condP ((i : Int) < (ps.length : Int)) (by kernel_rfl) (fun _ => ?_) (fun h => by omega)
      refine Hs.run0 300 (fun _ => by kernel_rfl) ?_
      refine Hs.idx (b := ab) (off := aoff) (len := ps.length) (c := c) (i := i) elemPr hil (by kernel_rfl) ?_
      refine Hs.ldx (cf := cPG) (size := 2) (E := 33) (b := ab) (off := aoff) (i := i) (l := ps) (x := x) cPG_len (.g x.sc) (by kernel_rfl) (fun w' H => hrd.only H.only) hx (by kernel_rfl) (by kernel_rfl) rfl (by kernel_rfl) ?_
      refine Hs.run1 300 (fun _ => by kernel_rfl) fun b1 => ?_
      by_cases hn : hasN x.n ((ps.take i).map PG.n) = true
      · rw [if_pos hn] at hix
        refine Hs.getM (r := r) (es := seenE ((ps.take i).map PG.n)) keyN x.n false (.bool true) (by rw [seen_look, if_pos hn]; rfl) (by kernel_rfl) (fun w' H => H.mapM 0 (by kernel_rfl)) ?_
        refine Hs.run0 300 (fun _ => by kernel_rfl) ?_
        refine Hs.condT (by kernel_rfl) ?_
        refine Hs.run0 300 (fun _ => by kernel_rfl) ?_
        exact Hs.ret (v := .int .i64 4) Tryz.func9 (by kernel_rfl) fun w' H => ⟨by rw [hix], H.only⟩
      · rw [if_neg hn] at hix
        refine Hs.getM (r := r) (es := seenE ((ps.take i).map PG.n)) keyN x.n false (.bool false) (by rw [seen_look, if_neg hn]; rfl) (by kernel_rfl) (fun w' H => H.mapM 0 (by kernel_rfl)) ?_
        refine Hs.run0 300 (fun _ => by kernel_rfl) ?_
        refine Hs.condF (by kernel_rfl) ?_
        refine Hs.run0 300 (fun _ => by kernel_rfl) ?_
        refine Hs.putM 0 keyN x.n (.bool true) (es := seenE ((ps.take i).map PG.n)) (r := r) (by rw [seen_look, if_neg hn]) (by kernel_rfl) (by kernel_rfl) (by kernel_rfl) ?_
        have hes : seenE ((ps.take i).map PG.n) ++ [(x.n, .bool true)] = seenE ((ps.take (i + 1)).map PG.n) := by rw [htk]; unfold seenE; rw [List.map_append]; rfl
        rw [hes]
        refine Hs.run0 300 (fun _ => by kernel_rfl) ?_
        refine Hs.slot 33 (.c (.v (.int .i64 (i + 1 : Nat)))) rfl ((by kernel_rfl : _ = Value.int .i64 (IntKind.i64.wrap ((i : Int) + 1))).trans (wrap_nextJ hlen)) ?_
        refine Hs.loop (by kernel_rfl) ?_
        exact Hs.goto (loopAt Tryz.f9 1) [0] [HB.mp kS r (seenE ((ps.take (i + 1)).map PG.n))] [(6, .c (.v (.map (some r)))), (31, .c (.v (.slice (some ⟨ab, aoff, none⟩) ps.length c))), (32, .c (.v (.int .i64 ps.length))), (33, .c (.v (.int .i64 (i + 1 : Nat))))] (by kernel_rfl) (by decide) (by kernel_rfl) (by kernel_rfl) (fun _ => (by kernel_rfl)) (fun u => hih (by rw [htk]; exact hix) r u)
  have J1 : withinB (ps.length : Int) 1 32 = true → ∀ (d i : Nat), ps.length - i = d → i ≤ ps.length → wrongs ps.length (ps.map PG.m) 0 = wrongs ps.length ((ps.drop i).map PG.m) i → ∀ (u : Nat → Value), Hs Tryz.prog 9 (CkR ps w) (Tryz.f9).ntmps w [] [] ⟨.no, loopAt Tryz.f9 0, pins [(0, .c (.v (.slice A ps.length c))), (13, .c (.v (.slice A ps.length c))), (14, .c (.v (.int .i64 ps.length))), (15, .c (.v (.int .i64 i)))] (.vals u), []⟩ := by
    intro hwi d
    induction d with
    | zero =>
      intro i hd hi hix u
      obtain rfl : i = ps.length := by omega
      rw [List.drop_length] at hix
      have e : wrongs ps.length (ps.map PG.m) 0 = 0 := hix
      have e2 := hwe true hwi
      dsimp only at e2
      rw [if_pos e] at e2
      refine Hs.run0 300 (fun _ => by kernel_rfl) ?_
      refine Hs.condP ((ps.length : Int) < (ps.length : Int)) (by kernel_rfl) (fun h => by omega) (fun _ => ?_)
      refine Hs.run0 300 (fun _ => by kernel_rfl) ?_
      refine Hs.mkM (T := 58) kS (by kernel_rfl) (by kernel_rfl) fun r => ?_
      refine Hs.run0 300 (fun _ => by kernel_rfl) ?_
      refine Hs.loop (by kernel_rfl) ?_
      exact Hs.goto (loopAt Tryz.f9 1) [0] [HB.mp kS r (seenE ((ps.take 0).map PG.n))] [(6, .c (.v (.map (some r)))), (31, .c (.v (.slice A ps.length c))), (32, .c (.v (.int .i64 ps.length))), (33, .c (.v (.int .i64 (0 : Nat))))] (by kernel_rfl) (by decide) (by kernel_rfl) (by kernel_rfl) (fun _ => (by kernel_rfl)) (fun u => J2 ps.length 0 (by omega) (by omega) (by rw [e2]; rfl) r u)
    | succ d ih =>
      intro i hd hi hix u
      have hil : i < ps.length := by omega
      obtain ⟨x, hx⟩ : ∃ x, ps[i]? = some x := ⟨_, List.getElem?_eq_getElem hil⟩
      have hxm : x ∈ ps := List.mem_of_getElem? hx
      have hxo := h.all x hxm
      have hdr : ps.drop i = x :: ps.drop (i + 1) := by
        rw [List.drop_eq_getElem_cons hil]
        rw [List.getElem?_eq_getElem hil] at hx
        injection hx with hx
        rw [hx]
      rw [hdr, List.map_cons, wrongs_cons] at hix
      obtain ⟨ab, aoff, hA, _, _⟩ := h.rd (by omega)
      have hih := fun hix u => ih (i + 1) (by omega) (by omega) hix u
      clear ih
      have hrd := h.rd
      rw [hA] at hih hrd ⊢
      refine Hs.run0 300 (fun _ => by kernel_rfl) ?_
      refine Hs.condP ((i : Int) < (ps.length : Int)) (by kernel_rfl) (fun _ => ?_) (fun h => by omega)
      refine Hs.run0 300 (fun _ => by kernel_rfl) ?_
      refine Hs.idx (b := ab) (off := aoff) (len := ps.length) (c := c) (i := i) elemPr hil (by kernel_rfl) ?_
      refine Hs.ldx (cf := cPG) (size := 2) (E := 33) (b := ab) (off := aoff) (i := i) (l := ps) (x := x) cPG_len (.g x.sc) (by kernel_rfl) (fun w' H => hrd.only H.only) hx (by kernel_rfl) (by kernel_rfl) rfl (by kernel_rfl) ?_
      refine Hs.run1 300 (fun _ => by kernel_rfl) fun b1 => ?_
      refine Hs.callV (v := .int .i64 (wrongM x.m i ps.length)) (fun w' H => wrong_any x i ps.length w' (hxo.only H.only)) (by kernel_rfl) ?_
      refine Hs.run0 300 (fun _ => by kernel_rfl) ?_
      refine Hs.cond (!decide (wrongM x.m i ps.length = 0)) (by kernel_rfl) (fun h1 => ?_) (fun h1 => ?_)
      · have h1 : ¬ wrongM x.m i ps.length = 0 := by simpa using h1
        rw [if_neg h1] at hix
        have e2 := hwe true hwi
        dsimp only at e2
        rw [hix, if_neg h1] at e2
        refine Hs.run0 300 (fun _ => by kernel_rfl) ?_
        exact Hs.ret (v := .int .i64 (wrongM x.m i ps.length)) Tryz.func9 (by kernel_rfl) fun w' H => ⟨by rw [e2], H.only⟩
      · have h1 : wrongM x.m i ps.length = 0 := by simpa using h1
        rw [if_pos h1] at hix
        refine Hs.run0 300 (fun _ => by kernel_rfl) ?_
        refine Hs.slot 15 (.c (.v (.int .i64 (i + 1 : Nat)))) rfl ((by kernel_rfl : _ = Value.int .i64 (IntKind.i64.wrap ((i : Int) + 1))).trans (wrap_nextJ hlen)) ?_
        refine Hs.loop (by kernel_rfl) ?_
        exact Hs.goto (loopAt Tryz.f9 0) [] [] [(0, .c (.v (.slice (some ⟨ab, aoff, none⟩) ps.length c))), (13, .c (.v (.slice (some ⟨ab, aoff, none⟩) ps.length c))), (14, .c (.v (.int .i64 ps.length))), (15, .c (.v (.int .i64 (i + 1 : Nat))))] (by kernel_rfl) (by decide) (by kernel_rfl) (by kernel_rfl) (fun _ => (by kernel_rfl)) (fun u => hih hix u)
  refine Hs.enter Tryz.func9 [] [] [] [.c (.v (.slice A ps.length c))] (Mem.start0 w) (by kernel_rfl) (by kernel_rfl) ?_
  refine Hs.run0 300 (fun _ => by kernel_rfl) ?_
  refine Hs.callV (v := .bool (withinB (ps.length : Int) 1 32)) (fun w' H => within_any _ _ _ w') (by kernel_rfl) ?_
  refine Hs.run0 300 (fun _ => by kernel_rfl) ?_
  refine Hs.cond (!withinB (ps.length : Int) 1 32) (by kernel_rfl) (fun h1 => ?_) (fun h1 => ?_)
  · have e2 := hwe false (by simpa using h1)
    refine Hs.run0 300 (fun _ => by kernel_rfl) ?_
    exact Hs.ret (v := .int .i64 5) Tryz.func9 (by kernel_rfl) fun w' H => ⟨by rw [e2], H.only⟩
  · refine Hs.run0 300 (fun _ => by kernel_rfl) ?_
    refine Hs.loop (by kernel_rfl) ?_
    exact Hs.goto (loopAt Tryz.f9 0) [] [] [(0, .c (.v (.slice A ps.length c))), (13, .c (.v (.slice A ps.length c))), (14, .c (.v (.int .i64 ps.length))), (15, .c (.v (.int .i64 (0 : Nat))))] (by kernel_rfl) (by decide) (by kernel_rfl) (by kernel_rfl) (fun _ => (by kernel_rfl)) (fun u => J1 (by simpa using h1) ps.length 0 (by omega) (by omega) (by rw [List.drop_zero]) u)
end Go.Proofs.YtmmcamkmglpgiaaGreatDoor

namespace Go.Proofs.YtmmcamkmglpgiaaGreatDoor
open Go.RowKit Go.Shelf
set_option linter.all false
set_option maxRecDepth 100000
theorem parse1_in (c : Int) (w : World) : CallsIn Fence.wide 1 Tryz.prog 36 #[.int .i32 c] w fun e w' => e = .returned (.bool (badR c)) ∧ w' = w := by
  refine callsIn_of_wp Tryz.func36 rfl trivial ?_ rfl
  simp only [Tryz.ntmps36, List.size_toArray, List.length_cons, List.length_nil, Nat.reduceAdd, Nat.reduceSub, Array.replicate_succ, Array.replicate_zero, List.push_toArray, List.append_toArray, List.nil_append, List.cons_append]
  by_cases h : c ≤ 32
  · gi_wp2
    go_ret
    exact ⟨by simp [badR, h], rfl⟩
  · gi_wp2
    go_ret
    have h3 : ¬ c ≤ 32 := by omega
    refine ⟨?_, rfl⟩
    rw [show badR c = (decide (c ≤ 32) || decide (c > 126)) from rfl, decide_eq_false h3]
    rfl
def badName (s : List UInt8) : Bool := decide (0 ≤ Lib.idxFunc (fun c : Nat => badR c) true (strL s))
theorem contains_any (s : List UInt8) (w : World) : Calls Tryz.prog 35 #[.string (strL s), .func (.func 36) #[] #[]] w (RetB (badName s) w) := by
  refine (Tryz.strings_ContainsFunc_runes 36 #[] (enters_of Tryz.func36 (by kernel_rfl) rfl) (fun c : Nat => badR c) (strL s) w ?_).mono ?_
  · intro W x hx hb
    refine (callsIn_wide.1 (parse1_in (x : Int) W)).mono ?_
    rintro e w' ⟨rfl, rfl⟩
    exact ⟨rfl, 0, rfl⟩
  · rintro e w' ⟨rfl, hb⟩
    exact ⟨rfl, only_of_below hb⟩
def headL : List UInt8 := [112, 114, 111, 103, 32]
def trimN (x : List UInt8) : List UInt8 := Lib.trimSuffix x [10]
def endsN (x : List UInt8) : Bool := Lib.hasSuffix x [10]
def isHead (x : List UInt8) : Bool := Lib.hasPrefix x headL
def behind (x : List UInt8) : List UInt8 := Lib.trimPrefix x headL
theorem suffix_any (s : List UInt8) (hs : s.length ≤ 9223372036854775807) (w : World) : Calls Tryz.prog 31 #[.string (strL s), .string (strL [10])] w (RetB (endsN s) w) := by
  refine (Tryz.strings_HasSuffix (strL s) (strL [10]) w hs).mono ?_
  rintro e w' ⟨rfl, rfl⟩
  exact ⟨rfl, Only.refl _ _⟩
theorem trimN_any (s : List UInt8) (hs : s.length ≤ 9223372036854775807) (w : World) : Calls Tryz.prog 33 #[.string (strL s), .string (strL [10])] w fun e w' => e = .returned (.string (strL (trimN s))) ∧ Only [] w w' := by
  refine (Tryz.strings_TrimSuffix (strL s) (strL [10]) w hs).mono ?_
  rintro e w' ⟨rfl, rfl⟩
  exact ⟨rfl, Only.refl _ _⟩
theorem cutP_any (s : List UInt8) (w : World) : Calls Tryz.prog 34 #[.string (strL s), .string (strL headL)] w fun e w' => e = .returned (.tuple #[.string (strL (behind s)), .bool (isHead s)]) ∧ Only [] w w' := by
  refine (Tryz.strings_CutPrefix (strL s) (strL headL) w).mono ?_
  rintro e w' ⟨rfl, rfl⟩
  exact ⟨rfl, Only.refl _ _⟩
abbrev LinesR (s : List UInt8) (w : World) : Ending → World → Prop := fun e w' => ∃ b : Nat, e = .returned (.func (.func 52) #[] #[.pointer (some ⟨b, 0, none⟩)]) ∧ Only [] w w' ∧ Blk w' b 9 [.string (strL s)] ∧ ∀ a, (some ⟨b, 0, none⟩ : Option Addr) = some a → w.heap.size ≤ a.block ∧ a.block < w'.heap.size
theorem lines_any (s : List UInt8) (w : World) : Calls Tryz.prog 32 #[.string (strL s)] w (LinesR s w) := by
  refine Hs.enter Tryz.func32 [] [] [] [.c (.v (.string (strL s)))] (Mem.start0 w) (by kernel_rfl) (by kernel_rfl) ?_
  refine Hs.run1 300 (fun _ => by kernel_rfl) fun b0 => ?_
  refine Hs.ret (v := .func (.func 52) #[] #[.pointer (some ⟨b0, 0, none⟩)]) Tryz.func32 (by kernel_rfl) fun w' H => ?_
  have hB : Blk w' b0 9 [.string (strL s)] := Mem.at (wr := true) (T := 9) (cs := [.v (.string (strL s))]) H 0 (by kernel_rfl)
  have hn := H.own 0 (.b true 9 [.v (.string (strL s))]) b0 (by kernel_rfl) rfl rfl
  refine ⟨b0, rfl, H.only, hB, fun a ha => ?_⟩
  injection ha with ha
  subst ha
  refine ⟨?_, hB.lt⟩
  rcases hn with h | h
  · cases h
  · exact h
/-- A line's operation, at the last program. -/
def addOp (o : OP9) : List PM → Option (List PM)
  | [] => none
  | [m] => some [(m.1, m.2 ++ [o])]
  | m :: a :: l => match addOp o (a :: l) with
    | some l' => some (m :: l')
    | none => none
theorem addOp_app (o : OP9) (m : PM) : ∀ l : List PM, addOp o (l ++ [m]) = some (l ++ [(m.1, m.2 ++ [o])])
  | [] => rfl
  | [a] => rfl
  | a :: b :: l => by
    have ih := addOp_app o m (b :: l)
    have e : addOp o (a :: ((b :: l) ++ [m])) = (match addOp o ((b :: l) ++ [m]) with
      | some l' => some (a :: l')
      | none => none) := rfl
    rw [List.cons_append, e, ih]
    rfl
/-- What a line makes of programs. -/
def stepX (l : List PM) (x : List UInt8) : Option (List PM) := match isHead x with
  | true => match badName (behind x) with
    | true => none
    | false => some (l ++ [(strL (behind x), [])])
  | false => match opB x with
    | (_, false) => none
    | (o, true) => addOp o l
def stepP (l : List PM) (x : List UInt8) : Option (List PM) := stepX l (trimN x)
def foldP : List PM → List (List UInt8) → Option (List PM)
  | l, [] => some l
  | l, x :: t => match stepP l x with
    | some l' => foldP l' t
    | none => none
theorem foldP_app : ∀ (a b : List (List UInt8)) (l : List PM), foldP l (a ++ b) = (match foldP l a with
    | some l' => foldP l' b
    | none => none)
  | [], b, l => rfl
  | x :: a, b, l => by
    have e : foldP l (x :: (a ++ b)) = (match stepP l x with
      | some l' => foldP l' (a ++ b)
      | none => none) := rfl
    have e2 : foldP l (x :: a) = (match stepP l x with
      | some l' => foldP l' a
      | none => none) := rfl
    rw [List.cons_append, e, e2]
    cases stepP l x with
    | none => rfl
    | some l' => exact foldP_app a b l'
theorem foldP_one {l l' : List PM} {a : List (List UInt8)} {x : List UInt8} (h : foldP l a = some l') : foldP l (a ++ [x]) = stepP l' x := by
  rw [foldP_app, h]
  show (match stepP l' x with
    | some l' => foldP l' []
    | none => none) = _
  cases stepP l' x <;> rfl
theorem foldP_bad {l l' : List PM} {a : List (List UInt8)} {x : List UInt8} {t : List (List UInt8)} (h : foldP l a = some l') (hx : stepP l' x = none) : foldP l (a ++ x :: t) = none := by
  rw [foldP_app, h]
  show (match stepP l' x with
    | some l' => foldP l' t
    | none => none) = _
  rw [hx]
/-- The programs that a text says, or what is wrong. -/
def parseM (s : List UInt8) : Option (List PM) × Int := match decide (262144 < s.length) with
  | true => (none, 6)
  | false => match !s.isEmpty && !endsN s with
    | true => (none, 4)
    | false => match foldP [] (linesB s) with
      | none => (none, 4)
      | some l => if checkM l = 0 then (some l, 0) else (none, checkM l)
theorem lines_mem : ∀ {s x : List UInt8}, x ∈ linesB s → x.length ≤ s.length
  | [], x, h => by cases h
  | c :: s, x, h => by
    unfold linesB at h
    split at h
    · rcases List.mem_cons.1 h with h | h
      · subst h; simp
      · have := lines_mem h; simp; omega
    · split at h
      · rename_i e
        simp at h; subst h; simp
      · rename_i h0 t e
        rcases List.mem_cons.1 h with h | h
        · subst h
          have : h0 ∈ linesB s := by rw [e]; simp
          have := lines_mem this
          simp; omega
        · have : x ∈ linesB s := by rw [e]; simp [h]
          have := lines_mem this
          simp; omega
theorem lines_len : ∀ s : List UInt8, (linesB s).length ≤ s.length
  | [] => by simp [linesB]
  | c :: s => by
    have ih := lines_len s
    unfold linesB
    split
    · simp; omega
    · split
      · simp
      · rename_i h0 t e
        rw [e] at ih
        simp at ih ⊢; omega
end Go.Proofs.YtmmcamkmglpgiaaGreatDoor

namespace Go.Proofs.YtmmcamkmglpgiaaGreatDoor
open Go.RowKit Go.Shelf
set_option linter.all false
set_option maxRecDepth 100000
def hexD (n : Nat) : UInt8 := hexL.getD n 0
def writB (c : UInt8) : List UInt8 := if itselfB c = true then [c] else [92, hexD (c.toNat / 16), hexD (c.toNat % 16)]
/-- A text as it is written. -/
def writL (l : List UInt8) : List UInt8 := l.flatMap writB
/-- An operation as a line. -/
def lineL (o : OP9) : List UInt8 := match sortRows[o.k.toNat]? with
  | some r => r.1 ++ (if r.2.1 = 1 then 32 :: Lib.itoa o.a else if r.2.1 = 2 then 32 :: (Lib.itoa o.a ++ 32 :: Lib.itoa o.b) else if r.2.1 = 3 then 32 :: writL o.t.data.toList else [])
  | none => []
def opLn (l : List OP9) : List UInt8 := l.flatMap fun o => lineL o ++ [10]
def progL (m : PM) : List UInt8 := headL ++ m.1.data.toList ++ [10] ++ opLn m.2
/-- A text that says programs. -/
def printL (l : List PM) : List UInt8 := l.flatMap progL
theorem lineL_row {o : OP9} {r : SoR} (h : sortRows[o.k.toNat]? = some r) : lineL o = r.1 ++ (if r.2.1 = 1 then 32 :: Lib.itoa o.a else if r.2.1 = 2 then 32 :: (Lib.itoa o.a ++ 32 :: Lib.itoa o.b) else if r.2.1 = 3 then 32 :: writL o.t.data.toList else []) := by
  unfold lineL
  rw [h]
theorem printL_app (a b : List PM) : printL (a ++ b) = printL a ++ printL b := by simp [printL]
theorem opLn_app (a b : List OP9) : opLn (a ++ b) = opLn a ++ opLn b := by simp [opLn]
theorem opLn_one (o : OP9) : opLn [o] = lineL o ++ [10] := by simp [opLn]
theorem writL_app (a b : List UInt8) : writL (a ++ b) = writL a ++ writL b := by simp [writL]
theorem cutS_join : ∀ y : List UInt8, ∃ x r, cutS y = x :: r ∧ y = x ++ r.flatMap (fun z => 32 :: z)
  | [] => ⟨[], [], rfl, rfl⟩
  | c :: s => by
    obtain ⟨x, r, h1, h2⟩ := cutS_join s
    unfold cutS
    rw [h1]
    by_cases h : c = 32
    · rw [if_pos h]
      exact ⟨[], x :: r, rfl, by rw [h]; simp [← h2]⟩
    · rw [if_neg h]
      exact ⟨c :: x, r, rfl, by simp [← h2]⟩
theorem ixF_word (x : List UInt8) : ∀ (l : List SoR) (i : Nat), ixF x l i = -1 ∨ ∃ j r, l[j]? = some r ∧ ixF x l i = ((i + j : Nat) : Int) ∧ r.1 = x
  | [], i => .inl rfl
  | r :: l, i => by
    unfold ixF
    cases h : r.1 == x with
    | true => exact .inr ⟨0, r, rfl, rfl, by simpa using h⟩
    | false =>
      rcases ixF_word x l (i + 1) with h | ⟨j, q, h1, h2, h3⟩
      · exact .inl h
      · exact .inr ⟨j + 1, q, h1, by dsimp only; rw [h2]; congr 1; omega, h3⟩
theorem ix_word {x : List UInt8} (h : ¬ ixI x < 1) : ∃ (k : Nat) (r : SoR), ixI x = (k : Int) ∧ sortRows[k]? = some r ∧ shK (ixI x) = r.2.1 ∧ r.1 = x := by
  rcases ixF_word x sortRows 0 with h1 | ⟨j, r, h1, h2, h4⟩
  · exact absurd (show ixI x < 1 by show ixF x sortRows 0 < 1; rw [h1]; decide) h
  · rw [Nat.zero_add] at h2
    have h3 : ixI x = (j : Int) := h2
    refine ⟨j, r, h3, h1, ?_, h4⟩
    unfold shK
    rw [h3, Int.toNat_natCast, h1]
theorem hex_back : ∀ n : Fin 256, (0 ≤ digI (UInt8.ofNat n.val).toNat → hexD (digI (UInt8.ofNat n.val).toNat).toNat = UInt8.ofNat n.val) := by decide +kernel
theorem u8_all {p : UInt8 → Prop} (h : ∀ n : Fin 256, p (UInt8.ofNat n.val)) (c : UInt8) : p c := by
  have := h ⟨c.toNat, by have := c.toNat_lt; omega⟩
  rwa [show UInt8.ofNat (⟨c.toNat, by have := c.toNat_lt; omega⟩ : Fin 256).val = c from UInt8.ofNat_toNat] at this
theorem hex_dig (a : UInt8) (h : 0 ≤ digI a.toNat) : hexD (digI a.toNat).toNat = a := u8_all (p := fun a => 0 ≤ digI a.toNat → hexD (digI a.toNat).toNat = a) hex_back a h
theorem hexV_in {x y : Int} (hx : 0 ≤ x ∧ x ≤ 15) (hy : 0 ≤ y ∧ y ≤ 15) : hexV x y = 16 * x + y := by
  unfold hexV
  show (16 * x + y) % 256 = _
  omega
/-- What is read is written as it stood. -/
theorem read_writ : ∀ (k : Nat) (l out o : List UInt8), readB k l out = some o → ∃ s, o = out ++ s ∧ writL s = l
  | 0, l, out, o, h => by cases h
  | k + 1, [], out, o, h => by
    injection h with h
    exact ⟨[], by simp [h], rfl⟩
  | k + 1, c :: l, out, o, h => by
    cases hi : itselfB c with
    | true =>
      have h2 : readB k l (out ++ [c]) = some o := by
        have e : readB (k + 1) (c :: l) out = (match itselfB c with
          | true => readB k l (out ++ [c])
          | false => readB (k + 1) (c :: l) out) := by
          rw [hi]
          show (match itselfB c with | true => readB k l (out ++ [c]) | false => _) = _
          rw [hi]
        rw [e, hi] at h
        exact h
      obtain ⟨s, h3, h4⟩ := read_writ k l (out ++ [c]) o h2
      refine ⟨c :: s, by rw [h3]; simp, ?_⟩
      show writB c ++ writL s = _
      rw [h4]
      unfold writB
      rw [if_pos hi]
      rfl
    | false =>
      rw [readB_esc k c l out hi] at h
      cases hc : !decide ((c.toNat : Int) = 92) with
      | true => rw [hc] at h; cases h
      | false =>
        rw [hc] at h
        have hc2 : c = 92 := by
          have : (c.toNat : Int) = 92 := by simpa using hc
          have : c.toNat = 92 := by omega
          rw [← UInt8.ofNat_toNat (x := c), this]
          rfl
        match l, h with
        | a :: b :: r, h =>
          dsimp only at h
          cases hd : decide (digI a.toNat < 0) || decide (digI b.toNat < 0) with
          | true => rw [hd] at h; cases h
          | false =>
            rw [hd] at h
            simp only [Bool.or_eq_false_iff, decide_eq_false_iff_not] at hd
            cases hv : itselfI (hexV (digI a.toNat) (digI b.toNat)) with
            | true => rw [hv] at h; cases h
            | false =>
              rw [hv] at h
              have h : readB k r (out ++ [(hexV (digI a.toNat) (digI b.toNat)).toNat.toUInt8]) = some o := h
              obtain ⟨s, h3, h4⟩ := read_writ k r _ o h
              have ha := digI_hi a.toNat
              have hb := digI_hi b.toNat
              have hw := hexV_in (x := digI a.toNat) (y := digI b.toNat) (by omega) (by omega)
              have hn := hexV_u8 (digI a.toNat) (digI b.toNat)
              generalize hx : (hexV (digI a.toNat) (digI b.toNat)).toNat.toUInt8 = x at *
              refine ⟨x :: s, by rw [h3]; simp, ?_⟩
              show writB x ++ writL s = _
              rw [h4]
              have hi2 : ¬ itselfB x = true := by
                unfold itselfB
                rw [hn, hv]
                decide
              unfold writB
              rw [if_neg hi2, hc2]
              have e1 : x.toNat / 16 = (digI a.toNat).toNat := by omega
              have e2 : x.toNat % 16 = (digI b.toNat).toNat := by omega
              rw [e1, e2, hex_dig a (by omega), hex_dig b (by omega)]
              rfl
        | [], h => cases h
        | [a], h => cases h
theorem numOk_text {a : List UInt8} (h : numOk a = true) : Lib.itoa (atoiN a) = a := by
  unfold numOk at h
  simp only [Bool.and_eq_true] at h
  simpa using h.2.2
/-- What a line says is printed as the line. -/
theorem op_line {y : List UInt8} {o : OP9} (h : opB y = (o, true)) : lineL o = y := by
  obtain ⟨x, r, h1, h2⟩ := cutS_join y
  unfold opB at h
  rw [h1, opW_cons] at h
  cases hd : decide (ixI x < 1) with
  | true => rw [hd] at h; injection h with _ h; cases h
  | false =>
    rw [hd] at h
    obtain ⟨k, q, hk, hq, hs, hx⟩ := ix_word (of_decide_eq_false hd)
    dsimp only at h
    cases h3 : shK (ixI x) == 3 with
    | true =>
      rw [h3] at h
      have h : opT (ixI x) r = (o, true) := h
      match r, h, h2 with
      | [a], h, h2 =>
        unfold opT at h
        dsimp only at h
        cases hr : readB (a.length + 1) a [] with
        | none => rw [hr] at h; injection h with _ h; cases h
        | some s =>
          rw [hr] at h
          injection h with h _
          subst h
          obtain ⟨s2, e1, e2⟩ := read_writ _ _ _ _ hr
          have hsh : q.2.1 = 3 := by rw [← hs]; simpa using h3
          rw [lineL_row (r := q) (by show sortRows[(ixI x).toNat]? = _; rw [hk, Int.toNat_natCast]; exact hq), hsh, hx, h2]
          rw [List.nil_append] at e1
          subst e1
          simp [strL_data, e2]
      | [], h, h2 => unfold opT at h; injection h with _ h; cases h
      | a :: b :: t, h, h2 => unfold opT at h; injection h with _ h; cases h
    | false =>
      rw [h3] at h
      dsimp only at h
      cases h4 : decide (((r.length + 1 : Nat) : Int) = 1 + shK (ixI x)) with
      | false => rw [h4] at h; injection h with _ h; cases h
      | true =>
        rw [h4] at h
        have h5 := of_decide_eq_true h4
        have h3 : shK (ixI x) ≠ 3 := by simpa using h3
        rw [hs] at h5 h3
        dsimp only at h
        cases ho : opN (ixI x) r with
        | none => rw [ho] at h; injection h with _ h; cases h
        | some o2 =>
          rw [ho] at h
          injection h with h _
          subst h
          have hsc := sh_cases hq
          match r, ho, h2, h5 with
          | [], ho, h2, h5 =>
            unfold opN at ho
            injection ho with ho
            subst ho
            have hsh : q.2.1 = 0 := by simp at h5; omega
            rw [lineL_row (r := q) (by show sortRows[(ixI x).toNat]? = _; rw [hk, Int.toNat_natCast]; exact hq), hsh, hx, h2]
            simp
          | [a], ho, h2, h5 =>
            unfold opN at ho
            dsimp only at ho
            cases hn : numOk a with
            | false => rw [hn] at ho; cases ho
            | true =>
              rw [hn] at ho
              injection ho with ho
              subst ho
              have hsh : q.2.1 = 1 := by simp at h5; omega
              rw [lineL_row (r := q) (by show sortRows[(ixI x).toNat]? = _; rw [hk, Int.toNat_natCast]; exact hq), hsh, hx, h2]
              simp [numOk_text hn]
          | a :: b :: t, ho, h2, h5 =>
            unfold opN at ho
            dsimp only at ho
            cases hn : numOk a with
            | false => rw [hn] at ho; cases ho
            | true =>
              rw [hn] at ho
              dsimp only at ho
              cases hn2 : numOk b with
              | false => rw [hn2] at ho; cases ho
              | true =>
                rw [hn2] at ho
                injection ho with ho
                subst ho
                have hl : t = [] := by
                  cases t with
                  | nil => rfl
                  | cons z t => simp at h5; omega
                subst hl
                have hsh : q.2.1 = 2 := by simp at h5; omega
                rw [lineL_row (r := q) (by show sortRows[(ixI x).toNat]? = _; rw [hk, Int.toNat_natCast]; exact hq), hsh, hx, h2]
                simp [numOk_text hn, numOk_text hn2]
theorem suffix_ten {y : List UInt8} : trimN (y ++ [10]) = y := by
  unfold trimN Lib.trimSuffix Lib.hasSuffix
  rw [if_pos (by rw [List.isSuffixOf_iff_suffix]; exact ⟨y, rfl⟩)]
  simp
theorem addOp_print {o : OP9} : ∀ {l l' : List PM}, addOp o l = some l' → printL l' = printL l ++ (lineL o ++ [10])
  | [], l', h => by cases h
  | [m], l', h => by
    injection h with h
    subst h
    simp [printL, progL, opLn_app, opLn_one]
  | m :: a :: l, l', h => by
    have e : addOp o (m :: a :: l) = (match addOp o (a :: l) with
      | some l' => some (m :: l')
      | none => none) := rfl
    rw [e] at h
    cases h2 : addOp o (a :: l) with
    | none => rw [h2] at h; cases h
    | some l2 =>
      rw [h2] at h
      injection h with h
      subst h
      have := addOp_print h2
      show progL m ++ printL l2 = progL m ++ printL (a :: l) ++ _
      rw [this, List.append_assoc]
theorem head_behind {y : List UInt8} (h : isHead y = true) : headL ++ behind y = y := by
  unfold isHead Lib.hasPrefix at h
  unfold behind Lib.trimPrefix Lib.hasPrefix
  rw [if_pos h]
  obtain ⟨t, rfl⟩ := List.isPrefixOf_iff_prefix.1 h
  simp
theorem step_print {l l' : List PM} {y : List UInt8} (h : stepX l y = some l') : printL l' = printL l ++ (y ++ [10]) := by
  unfold stepX at h
  cases hh : isHead y with
  | true =>
    rw [hh] at h
    dsimp only at h
    cases hb : badName (behind y) with
    | true => rw [hb] at h; cases h
    | false =>
      rw [hb] at h
      injection h with h
      subst h
      have := head_behind hh
      rw [printL_app]
      congr 1
      show progL (strL (behind y), []) ++ [] = _
      simp only [progL, strL_data, opLn, List.flatMap_nil, List.append_nil]
      rw [this]
  | false =>
    rw [hh] at h
    dsimp only at h
    cases ho : opB y with
    | mk o b =>
      rw [ho] at h
      cases b with
      | false => cases h
      | true => rw [addOp_print h, op_line ho]
theorem fold_print : ∀ {ls : List (List UInt8)} {l l' : List PM}, (∀ x ∈ ls, ∃ y, x = y ++ [10]) → foldP l ls = some l' → printL l' = printL l ++ ls.flatten
  | [], l, l', _, h => by
    injection h with h
    subst h
    simp
  | x :: t, l, l', hx, h => by
    obtain ⟨y, rfl⟩ := hx x (by simp)
    have e : foldP l ((y ++ [10]) :: t) = (match stepX l (trimN (y ++ [10])) with
      | some l' => foldP l' t
      | none => none) := rfl
    rw [e, suffix_ten] at h
    cases hs : stepX l y with
    | none => rw [hs] at h; cases h
    | some l2 =>
      rw [hs] at h
      rw [fold_print (fun x hx' => hx x (by simp [hx'])) h, step_print hs]
      simp
theorem lines_flat : ∀ s : List UInt8, (linesB s).flatten = s
  | [] => rfl
  | c :: s => by
    have ih := lines_flat s
    unfold linesB
    split
    · rename_i h
      simp [ih, h]
    · split
      · rename_i h
        rw [h] at ih
        simp at ih
        simp [← ih]
      · rename_i h
        rw [h] at ih
        simp at ih
        simp [ih]
theorem lines_ends : ∀ {s : List UInt8}, endsN s = true → ∀ x ∈ linesB s, ∃ y, x = y ++ [10]
  | [], h, x, hx => by cases hx
  | c :: s, h, x, hx => by
    unfold endsN Lib.hasSuffix at h
    rw [List.isSuffixOf_iff_suffix] at h
    have ih : s ≠ [] → ∀ x ∈ linesB s, ∃ y, x = y ++ [10] := fun hs => by
      refine lines_ends ?_
      unfold endsN Lib.hasSuffix
      rw [List.isSuffixOf_iff_suffix]
      rcases List.suffix_cons_iff.1 h with h | h
      · exact absurd (by injection h with _ h; exact h.symm) hs
      · exact h
    unfold linesB at hx
    split at hx
    · rename_i hc
      rcases List.mem_cons.1 hx with rfl | hx
      · exact ⟨[], rfl⟩
      · by_cases hs : s = []
        · subst hs; cases hx
        · exact ih hs x hx
    · rename_i hc
      have hs : s ≠ [] := by
        rintro rfl
        rcases List.suffix_cons_iff.1 h with h | h
        · injection h with h _; exact hc h.symm
        · have := h.length_le; simp at this
      split at hx
      · rename_i he
        have := lines_flat s
        rw [he] at this
        exact absurd this.symm hs
      · rename_i h0 t he
        rcases List.mem_cons.1 hx with rfl | hx
        · obtain ⟨y, hy⟩ := ih hs h0 (by rw [he]; simp)
          exact ⟨c :: y, by rw [hy]; rfl⟩
        · exact ih hs x (by rw [he]; simp [hx])
/-- What is parsed is right, and printed as it came. -/
theorem parse_print {s : List UInt8} {l : List PM} {i : Int} (h : parseM s = (some l, i)) : i = 0 ∧ checkM l = 0 ∧ printL l = s := by
  unfold parseM at h
  cases h1 : decide (262144 < s.length) with
  | true => rw [h1] at h; injection h with h; cases h
  | false =>
    rw [h1] at h
    dsimp only at h
    cases h2 : !s.isEmpty && !endsN s with
    | true => rw [h2] at h; injection h with h; cases h
    | false =>
      rw [h2] at h
      dsimp only at h
      cases h3 : foldP [] (linesB s) with
      | none => rw [h3] at h; injection h with h; cases h
      | some l2 =>
        rw [h3] at h
        dsimp only at h
        split at h
        · rename_i hc
          injection h with e1 e2
          injection e1 with e1
          subst e1
          refine ⟨e2.symm, hc, ?_⟩
          have hx : ∀ x ∈ linesB s, ∃ y, x = y ++ [10] := by
            cases s with
            | nil => intro x hx; cases hx
            | cons c s => exact lines_ends (by simpa using h2)
          rw [fold_print hx h3, lines_flat]
          rfl
        · injection h with h; cases h
theorem parse_none {s : List UInt8} {i : Int} (h : parseM s = (none, i)) : i ≠ 0 := by
  unfold parseM at h
  cases h1 : decide (262144 < s.length) with
  | true => rw [h1] at h; injection h with _ h; omega
  | false =>
    rw [h1] at h
    dsimp only at h
    cases h2 : !s.isEmpty && !endsN s with
    | true => rw [h2] at h; injection h with _ h; omega
    | false =>
      rw [h2] at h
      dsimp only at h
      cases h3 : foldP [] (linesB s) with
      | none => rw [h3] at h; injection h with _ h; omega
      | some l2 =>
        rw [h3] at h
        dsimp only at h
        split at h
        · injection h with h; cases h
        · rename_i hc
          injection h with _ h; omega
end Go.Proofs.YtmmcamkmglpgiaaGreatDoor

namespace Go.Proofs.YtmmcamkmglpgiaaGreatDoor
open Go.RowKit
set_option linter.all false
set_option maxRecDepth 100000
theorem writL_len : ∀ l : List UInt8, (writL l).length ≤ 3 * l.length
  | [] => Nat.le_refl _
  | c :: l => by
    have ih := writL_len l
    have e : writL (c :: l) = writB c ++ writL l := rfl
    rw [e, List.length_append, List.length_cons]
    have : (writB c).length ≤ 3 := by unfold writB; split <;> simp
    omega
theorem writL_take {l : List UInt8} {i : Nat} {c : UInt8} (h : l[i]? = some c) : writL (l.take (i + 1)) = writL (l.take i) ++ writB c := by
  rw [List.take_add_one, h, writL_app]
  simp [writL]
section
variable {f : FR} {R : Ending → World → Prop} {n : Nat} {w0 : World} {L : List Nat} {β : List Nat} {m : SM}
theorem Hs.sIdxU (l : List UInt8) (i : Nat) (c : UInt8) (hi : l[i]? = some c) (hs : semOf n β m = some (valS (Instr.index 9 (.string (strL l)) (.int .u8 (i : Int))))) (k : Hs Tryz.prog f R n w0 L β (m.put (dstOf m) (.c (.v (.int .u8 c.toNat))) m.hp)) : Hs Tryz.prog f R n w0 L β m := by
  refine Hs.opV (.c (.v (.int .u8 c.toNat))) hs rfl (fun w H => ?_) k
  have hu : Tryz.prog.underlying 9 = some .string := by kernel_rfl
  have hg : (strL l)[i]? = some c := by
    obtain ⟨h1, h2⟩ := (List.getElem?_eq_some_iff.1 hi)
    have h3 : i < (strL l).size := h1
    rw [getElem?_pos (strL l) i h3]
    exact congrArg some h2
  simp only [Instr.index, asIntOf, Sem.run_bind, Sem.run_pure, Result.andThen_ok, run_underlying hu w]
  rw [if_pos (Int.natCast_nonneg i)]
  simp only [Int.toNat_natCast, hg]
  rfl
end
theorem hex_get : ∀ n : Fin 16, hexL[n.val]? = some (hexD n.val) := by decide
theorem hex_at {n : Nat} (h : n < 16) : hexL[n]? = some (hexD n) := hex_get ⟨n, h⟩
theorem and15_all : ∀ n : Fin 256, IntKind.u8.wrap (((BitVec.ofInt 8 ((UInt8.ofNat n.val).toNat : Int)) &&& (BitVec.ofInt 8 15)).toNat) = (((UInt8.ofNat n.val).toNat % 16 : Nat) : Int) := by decide +kernel
theorem and15 (c : UInt8) : IntKind.u8.wrap (((BitVec.ofInt 8 (c.toNat : Int)) &&& (BitVec.ofInt 8 15)).toNat) = ((c.toNat % 16 : Nat) : Int) := u8_all (p := fun c => IntKind.u8.wrap (((BitVec.ofInt 8 (c.toNat : Int)) &&& (BitVec.ofInt 8 15)).toNat) = ((c.toNat % 16 : Nat) : Int)) and15_all c
theorem shr4 (c : UInt8) : (c.toNat : Int).fdiv 16 = ((c.toNat / 16 : Nat) : Int) := by
  rw [Int.fdiv_eq_ediv_of_nonneg _ (by decide)]
  omega
abbrev buB (g : Nat) (u : Bool) (A : Option Addr) (n cap : Nat) : HB := .b true 65 [.v (bdV g u), .v (.slice A n cap)]
set_option maxHeartbeats 4000000 in
theorem written_any (l : List UInt8) (hl : l.length ≤ 46912496118442) (w : World) : Calls Tryz.prog 45 #[.string (strL l)] w fun e w' => e = .returned (.string (strL (writL l))) ∧ Only [] w w' := by
  have J : ∀ (d i : Nat), l.length - i = d → i ≤ l.length → ∀ (bu : Bool) (A : Option Addr) (n cap : Nat), (writL (l.take i)).length = n → ∀ (b3 g : Nat) (u : Nat → Value), Hs Tryz.prog 45 (fun e w' => e = .returned (.string (strL (writL l))) ∧ Only [] w w') (Tryz.f45).ntmps w [] [b3, g] ⟨.no, loopAt Tryz.f45 0, pins [(0, .c (.v (.string (strL l)))), (3, .c (.p 0 0)), (7, .c (.v (.int .i64 l.length))), (8, .c (.v (.int .i64 i)))] (.vals u), [buB b3 bu A n cap, .s A cap n 5 1 ((u8v (writL (l.take i))).flatMap cu8)]⟩ := by
    intro d
    induction d with
    | zero =>
      intro i hd hi bu A n cap hn b3 g u
      obtain rfl : i = l.length := by omega
      rw [List.take_length] at hn ⊢
      refine Hs.run0 300 (fun _ => by kernel_rfl) ?_
      refine Hs.condP ((l.length : Int) < (l.length : Int)) (by kernel_rfl) (fun h => by omega) (fun _ => ?_)
      refine Hs.run0 300 (fun _ => by kernel_rfl) ?_
      refine Hs.callLast (.string (strL (writL l))) (fun w' H => str_any19 0 1 (u := bu) (A := A) (cap := cap) (l := writL l) H (by decide) (by kernel_rfl) (by kernel_rfl) hn) (by kernel_rfl) (by kernel_rfl) ?_
      refine Hs.run0 300 (fun _ => by kernel_rfl) ?_
      exact Hs.ret (v := .string (strL (writL l))) Tryz.func45 (by kernel_rfl) fun w' H => ⟨rfl, H.only⟩
    | succ d ih =>
      intro i hd hi bu A n cap hn b3 g u
      have hil : i < l.length := by omega
      obtain ⟨c, hc⟩ : ∃ c, l[i]? = some c := ⟨_, List.getElem?_eq_getElem hil⟩
      have hih := fun bu A n cap h b3 g u => ih (i + 1) (by omega) (by omega) bu A n cap h b3 g u
      clear ih
      have hN : (writL (l.take i)).length ≤ 3 * i := Nat.le_trans (writL_len _) (by rw [List.length_take]; omega)
      rw [writL_take hc] at hih
      refine Hs.run0 300 (fun _ => by kernel_rfl) ?_
      refine Hs.condP ((i : Int) < (l.length : Int)) (by kernel_rfl) (fun _ => ?_) (fun h => by omega)
      refine Hs.run0 300 (fun _ => by kernel_rfl) ?_
      refine Hs.sIdx l i c hc (by kernel_rfl) ?_
      refine Hs.run0 300 (fun _ => by kernel_rfl) ?_
      refine Hs.callV (v := .bool (itselfI c.toNat)) (fun w' H => itself_any _ w') (by kernel_rfl) ?_
      refine Hs.run0 300 (fun _ => by kernel_rfl) ?_
      refine Hs.cond (itselfI c.toNat) (by kernel_rfl) (fun h1 => ?_) (fun h1 => ?_)
      · have ew : writB c = [c] := by unfold writB; rw [if_pos (show itselfB c = true from h1)]
        rw [ew] at hih
        refine Hs.run0 300 (fun _ => by kernel_rfl) ?_
        refine Hs.callBS 0 1 (T := 65) (cs0 := [.v (bdV b3 bu), .v (.slice A n cap)]) .nilIface (fun A' cap' => [.v (bdV b3 true), .v (.slice A' (n + 1) cap')]) (u8v (writL (l.take i))) (u8v (writL (l.take i) ++ [c])) n (n + 1) (by rw [u8v_len, hn]) (by rw [u8v_len]; simp [hn]) (by decide) (by kernel_rfl) (by kernel_rfl) (fun w' H hB hO hne => by
          have := wb_any b3 bu A n cap (u8v (writL (l.take i))) c.toNat w' ⟨hB, hO, by rw [u8v_len, hn], hne⟩ (by omega)
          rw [← u8v_snoc] at this
          exact this) (by kernel_rfl) (by kernel_rfl) (fun _ _ => (by kernel_rfl)) fun A1 c1 _ _ => ?_
        refine Hs.run0 300 (fun _ => by kernel_rfl) ?_
        refine Hs.slot 8 (.c (.v (.int .i64 (i + 1 : Nat)))) rfl ((by kernel_rfl : _ = Value.int .i64 (IntKind.i64.wrap ((i : Int) + 1))).trans (wrap_nextK (by omega))) ?_
        refine Hs.loop (by kernel_rfl) ?_
        exact Hs.goto (loopAt Tryz.f45 0) [0, 1] [buB b3 true A1 (n + 1) c1, .s A1 c1 (n + 1) 5 1 ((u8v (writL (l.take i) ++ [c])).flatMap cu8)] [(0, .c (.v (.string (strL l)))), (3, .c (.p 0 0)), (7, .c (.v (.int .i64 l.length))), (8, .c (.v (.int .i64 (i + 1 : Nat))))] (by kernel_rfl) (by decide) (by kernel_rfl) (by kernel_rfl) (fun _ => (by kernel_rfl)) (fun u => hih true A1 (n + 1) c1 (by simp [hn]) b3 g u)
      · have ew : writB c = [92, hexD (c.toNat / 16), hexD (c.toNat % 16)] := by unfold writB; rw [if_neg (by show ¬ itselfI c.toNat = true; rw [h1]; decide)]
        rw [ew] at hih
        refine Hs.run0 300 (fun _ => by kernel_rfl) ?_
        refine Hs.callBS 0 1 (T := 65) (cs0 := [.v (bdV b3 bu), .v (.slice A n cap)]) .nilIface (fun A' cap' => [.v (bdV b3 true), .v (.slice A' (n + 1) cap')]) (u8v (writL (l.take i))) (u8v (writL (l.take i) ++ [92])) n (n + 1) (by rw [u8v_len, hn]) (by rw [u8v_len]; simp [hn]) (by decide) (by kernel_rfl) (by kernel_rfl) (fun w' H hB hO hne => by
          have := wb_any b3 bu A n cap (u8v (writL (l.take i))) 92 w' ⟨hB, hO, by rw [u8v_len, hn], hne⟩ (by omega)
          rw [show ((92 : Int)) = ((92 : UInt8).toNat : Int) from rfl, ← u8v_snoc] at this
          exact this) (by kernel_rfl) (by kernel_rfl) (fun _ _ => (by kernel_rfl)) fun A1 c1 _ _ => ?_
        refine Hs.run0 300 (fun _ => by kernel_rfl) ?_
        refine Hs.slot 20 (.c (.v (.int .u8 (c.toNat / 16 : Nat)))) rfl ((by kernel_rfl : _ = Value.int .u8 ((c.toNat : Int).fdiv 16)).trans (congrArg (Value.int .u8) (shr4 c))) ?_
        refine Hs.sIdxU hexL (c.toNat / 16) (hexD (c.toNat / 16)) (hex_at (by have := c.toNat_lt; omega)) (by kernel_rfl) ?_
        refine Hs.run0 300 (fun _ => by kernel_rfl) ?_
        refine Hs.callBS 0 1 (T := 65) (cs0 := [.v (bdV b3 true), .v (.slice A1 (n + 1) c1)]) .nilIface (fun A' cap' => [.v (bdV b3 true), .v (.slice A' (n + 1 + 1) cap')]) (u8v (writL (l.take i) ++ [92])) (u8v (writL (l.take i) ++ [92] ++ [hexD (c.toNat / 16)])) (n + 1) (n + 1 + 1) (by rw [u8v_len]; simp [hn]) (by rw [u8v_len]; simp [hn]) (by decide) (by kernel_rfl) (by kernel_rfl) (fun w' H hB hO hne => by
          have := wb_any b3 true A1 (n + 1) c1 (u8v (writL (l.take i) ++ [92])) (hexD (c.toNat / 16) : UInt8).toNat w' ⟨hB, hO, by rw [u8v_len]; simp [hn], hne⟩ (by omega)
          rw [← u8v_snoc] at this
          exact this) (by kernel_rfl) (by kernel_rfl) (fun _ _ => (by kernel_rfl)) fun A2 c2 _ _ => ?_
        refine Hs.run0 300 (fun _ => by kernel_rfl) ?_
        refine Hs.slot 24 (.c (.v (.int .u8 (c.toNat % 16 : Nat)))) rfl ((by kernel_rfl : _ = Value.int .u8 (IntKind.u8.wrap (((BitVec.ofInt 8 (c.toNat : Int)) &&& (BitVec.ofInt 8 15)).toNat))).trans (congrArg (Value.int .u8) (and15 c))) ?_
        refine Hs.sIdxU hexL (c.toNat % 16) (hexD (c.toNat % 16)) (hex_at (by omega)) (by kernel_rfl) ?_
        refine Hs.run0 300 (fun _ => by kernel_rfl) ?_
        refine Hs.callBS 0 1 (T := 65) (cs0 := [.v (bdV b3 true), .v (.slice A2 (n + 1 + 1) c2)]) .nilIface (fun A' cap' => [.v (bdV b3 true), .v (.slice A' (n + 1 + 1 + 1) cap')]) (u8v (writL (l.take i) ++ [92] ++ [hexD (c.toNat / 16)])) (u8v (writL (l.take i) ++ [92] ++ [hexD (c.toNat / 16)] ++ [hexD (c.toNat % 16)])) (n + 1 + 1) (n + 1 + 1 + 1) (by rw [u8v_len]; simp [hn]) (by rw [u8v_len]; simp [hn]) (by decide) (by kernel_rfl) (by kernel_rfl) (fun w' H hB hO hne => by
          have := wb_any b3 true A2 (n + 1 + 1) c2 (u8v (writL (l.take i) ++ [92] ++ [hexD (c.toNat / 16)])) (hexD (c.toNat % 16) : UInt8).toNat w' ⟨hB, hO, by rw [u8v_len]; simp [hn], hne⟩ (by omega)
          rw [← u8v_snoc] at this
          exact this) (by kernel_rfl) (by kernel_rfl) (fun _ _ => (by kernel_rfl)) fun A3 c3 _ _ => ?_
        refine Hs.run0 300 (fun _ => by kernel_rfl) ?_
        refine Hs.slot 8 (.c (.v (.int .i64 (i + 1 : Nat)))) rfl ((by kernel_rfl : _ = Value.int .i64 (IntKind.i64.wrap ((i : Int) + 1))).trans (wrap_nextK (by omega))) ?_
        refine Hs.loop (by kernel_rfl) ?_
        have e3 : writL (l.take i) ++ [92] ++ [hexD (c.toNat / 16)] ++ [hexD (c.toNat % 16)] = writL (l.take i) ++ [92, hexD (c.toNat / 16), hexD (c.toNat % 16)] := by simp
        rw [e3]
        exact Hs.goto (loopAt Tryz.f45 0) [0, 1] [buB b3 true A3 (n + 1 + 1 + 1) c3, .s A3 c3 (n + 1 + 1 + 1) 5 1 ((u8v (writL (l.take i) ++ [92, hexD (c.toNat / 16), hexD (c.toNat % 16)])).flatMap cu8)] [(0, .c (.v (.string (strL l)))), (3, .c (.p 0 0)), (7, .c (.v (.int .i64 l.length))), (8, .c (.v (.int .i64 (i + 1 : Nat))))] (by kernel_rfl) (by decide) (by kernel_rfl) (by kernel_rfl) (fun _ => (by kernel_rfl)) (fun u => hih true A3 (n + 1 + 1 + 1) c3 (by simp [hn]) b3 g u)
  refine Hs.enter Tryz.func45 [] [] [] [.c (.v (.string (strL l)))] (Mem.start0 w) (by kernel_rfl) (by kernel_rfl) ?_
  refine Hs.run1 300 (fun _ => by kernel_rfl) fun b3 => ?_
  refine Hs.nilS 5 1 (by kernel_rfl) ?_ (by kernel_rfl)
  refine Hs.loop (by kernel_rfl) ?_
  exact Hs.goto (loopAt Tryz.f45 0) [0, 1] [buB b3 false none 0 0, .s none 0 0 5 1 ((u8v (writL (l.take 0))).flatMap cu8)] [(0, .c (.v (.string (strL l)))), (3, .c (.p 0 0)), (7, .c (.v (.int .i64 l.length))), (8, .c (.v (.int .i64 (0 : Nat))))] (by kernel_rfl) (by decide) (by kernel_rfl) (by kernel_rfl) (fun _ => (by kernel_rfl)) (fun u => J l.length 0 (by omega) (by omega) false none 0 0 (by simp [writL]) b3 0 u)
end Go.Proofs.YtmmcamkmglpgiaaGreatDoor

namespace Go.Proofs.YtmmcamkmglpgiaaGreatDoor
open Go.RowKit Go.MapKept
set_option linter.all false
set_option maxRecDepth 100000
section
variable {P : Program} {f : FR} {R : Ending → World → Prop} {n : Nat} {w0 : World} {L : List Nat} {β : List Nat} {m : SM}
theorem Hs.minI {ts : Array TypeId} {ty : TypeId} {k k' : IntKind} (x y : Int) (hs : semOf n β m = some (valS (Builtin.min_ ts ty #[.int k x, .int k' y]))) (h : Hs P f R n w0 L β (m.put (dstOf m) (.c (.v (.int k (if y < x then y else x)))) m.hp)) : Hs P f R n w0 L β m :=
  Hs.opV (.c (.v (.int k (if y < x then y else x)))) hs rfl (fun w _ => run_min_int2 w ts ty k k' x y) h
variable {κ : Type} [DecidableEq κ] {ke : κ → Value}
/-- A call that turns a map of ours. -/
theorem Hs.callMp {X : Type} (k : Nat) {r : Nat} {es : List (κ × Value)} (es' : X → List (κ × Value)) (v : X → Value) (Q : X → Prop) {F : FuncId} {args : Array Value} (hk : m.hp[k]? = some (HB.mp ke r es)) (hC : ∀ w, Mem w0 L β m.hp w → Calls P F args w fun e w' => ∃ x, e = .returned (v x) ∧ Only [r] w w' ∧ MapM ke w' r (es' x) ∧ Q x) (hc : callOf P n β m = some (F, args)) (hrd : (rdOf m).contains k = false)
    (h : ∀ x, Q x → Hs P f R n w0 L β (m.put (dstOf m) (.c (.v (v x))) (m.hp.set k (HB.mp ke r (es' x))))) : Hs P f R n w0 L β m := by
  refine ⟨fun w H W => ?_⟩
  refine (Hs.call hc (fun w H => ?_)).go w H W
  refine Calls.mono (hC w H) ?_
  rintro e w' ⟨x, rfl, O, hM', hq⟩
  have hl : (HB.mp ke r (es' x)).lies w' β (nm β k) := ⟨hM', fun a ha => by injection ha with ha; subst ha; exact hM'.lt⟩
  refine ⟨[], .c (.v (v x)), m.hp.set k (HB.mp ke r (es' x)), rfl, by rw [List.append_nil]; exact H.swap k hk O (fun x hx => by simp only [List.mem_singleton] at hx; subst hx; rfl) rfl hl (fun x hx => .inl hx), ?_, fun j hj b hb => ?_, by rw [List.append_nil]; exact h x hq⟩
  · simp only [SV.wf, SC.wf, Bool.true_and, Bool.and_eq_true, Nat.ble_eq, List.length_set]
    exact ⟨Nat.le_refl _, set_wf (SM.wf_hp W) rfl⟩
  · rw [List.getElem?_set, if_neg (fun e => by
      subst e
      simp at hrd
      exact hrd hj)]
    exact hb
end
theorem keyW : KeyT Tryz.prog 59 3 3 (.int .i64 0) (kI .i64) := ⟨(by kernel_rfl), fun w => by kernel_rfl, ⟨.int .i64, by kernel_rfl, fun _ => rfl⟩, kI_inj⟩
def stepW (g : Int → Int) (o : OP9) (n : Int) : Int := if (1073741824 : Int) < (if o.k = 5 ∨ o.k = 6 then n + 1 + g o.a else n + 1) then 1073741824 else (if o.k = 5 ∨ o.k = 6 then n + 1 + g o.a else n + 1)
/-- How many operations a run makes of these. -/
def opsW (g : Int → Int) : List OP9 → Int → Int
  | [], n => n
  | o :: l, n => if o.k = 6 ∨ o.k = 1 then stepW g o n else opsW g l (stepW g o n)
theorem opsW_cons (g : Int → Int) (o : OP9) (l : List OP9) (n : Int) : opsW g (o :: l) n = if o.k = 6 ∨ o.k = 1 then stepW g o n else opsW g l (stepW g o n) := rfl
theorem stepW_bd {g : Int → Int} {o : OP9} {n : Int} (h0 : 0 ≤ n) (hg : 0 ≤ g o.a) : 0 ≤ stepW g o n ∧ stepW g o n ≤ 1073741824 := by
  unfold stepW
  split <;> split <;> omega
structure WorkOk (l : List PM) (W : Nat → Int) : Prop where
  eq : ∀ (k : Nat) (m : PM), l[k]? = some m → W k = opsW (fun a => W a.toNat) m.2 0
  bd : ∀ k : Nat, 0 ≤ W k ∧ W k ≤ 1073741824
  fw : ∀ (k : Nat) (m : PM) (o : OP9), l[k]? = some m → o ∈ m.2 → (o.k = 5 ∨ o.k = 6) → (k : Int) < o.a ∧ o.a < l.length
def EsOk (W : Nat → Int) (es : List (Int × Value)) : Prop := ∀ (k : Nat) v, lookM (k : Int) es = some v → v = .int .i64 (W k)
theorem EsOk.set {W : Nat → Int} {es : List (Int × Value)} (h : EsOk W es) (k : Nat) : EsOk W (setE (k : Int) (.int .i64 (W k)) es) := fun j v hj => by
  rw [lookM_setE] at hj
  split at hj
  · rename_i e
    injection hj with hj
    rw [← hj, show k = j by omega]
  · exact h j v hj
theorem map_apart {α : Type} {cf : α → List Value} {w w' : World} {A : Option Addr} {l : List α} {rm : Nat} {es : List (Int × Value)} (hne : ∀ x, 0 < (cf x).length) (h : RdX cf w A l) (hM : MapM (kI .i64) w rm es) (O : Only [rm] w w') : RdX cf w' A l :=
  h.far O fun a ha h0 hm => by
    obtain ⟨b, off, e, hlt, hc⟩ := h h0
    rw [ha] at e
    injection e with e
    subst e
    obtain rfl := List.mem_singleton.1 hm
    obtain ⟨x, t, rfl⟩ : ∃ x t, l = x :: t := by cases l with | nil => cases h0 | cons x t => exact ⟨x, t, rfl⟩
    have h1 := hne x
    obtain ⟨u, t2, hu⟩ : ∃ u t2, cf x = u :: t2 := by cases hx : cf x with | nil => rw [hx] at h1; cases h1 | cons u t2 => exact ⟨u, t2, rfl⟩
    have h2 := hc 0 u (by rw [List.flatMap_cons, hu]; rfl)
    obtain ⟨a, clock, hb, _⟩ := hM
    unfold World.cell? at h2
    dsimp only at h2 hb
    rw [hb] at h2
    cases h2
theorem pgs_map {w w' : World} {A : Option Addr} {c : Nat} {ps : List PG} {rm : Nat} {es : List (Int × Value)} (h : Pgs w A c ps) (hM : MapM (kI .i64) w rm es) (O : Only [rm] w w') : Pgs w' A c ps :=
  ⟨map_apart (fun x => by rw [cPG_len]; omega) h.rd hM O, h.le, h.max, fun x hx => ⟨map_apart (fun x => by rw [cOP_len]; omega) (h.all x hx).1 hM O, (h.all x hx).2⟩⟩
theorem wrap_nextW {n : Int} (h0 : 0 ≤ n) (h1 : n ≤ 1073741824) : Value.int .i64 (IntKind.i64.wrap (n + 1)) = (SV.c (.v (.int .i64 (n + 1)))).den [] := by
  rw [IntWalk.i64_in _ (by omega)]; rfl
theorem wrap_addW {n g : Int} (h0 : 0 ≤ n) (h1 : n ≤ 1073741824) (h2 : 0 ≤ g) (h3 : g ≤ 1073741824) : Value.int .i64 (IntKind.i64.wrap (n + 1 + g)) = (SV.c (.v (.int .i64 (n + 1 + g)))).den [] := by
  rw [IntWalk.i64_in _ (by omega)]; rfl
abbrev WkR (W : Nat → Int) (k : Nat) (rm : Nat) (w : World) : Ending → World → Prop := fun e w' => ∃ es', e = .returned (.int .i64 (W k)) ∧ Only [rm] w w' ∧ MapM (kI .i64) w' rm es' ∧ EsOk W es'
set_option maxHeartbeats 4000000 in
theorem work1_any (ps : List PG) (A : Option Addr) (c : Nat) (W : Nat → Int) (hW : WorkOk (ps.map PG.m) W) (hlen : ps.length ≤ 1000) (hops : ∀ x ∈ ps, x.ops.length ≤ 1000) (b5 b2 b6 rm : Nat) (hnd : [b5, b2, b6, rm].Nodup) : ∀ (d k : Nat), ps.length - k ≤ d → k < ps.length → ∀ (w : World) (es : List (Int × Value)), Blk w b5 59 [.map (some rm)] → Blk w b2 29 [.slice A ps.length c] → Blk w b6 60 [.func (.func 20) #[] #[.pointer (some ⟨b5, 0, none⟩), .pointer (some ⟨b2, 0, none⟩), .pointer (some ⟨b6, 0, none⟩)]] → Pgs w A c ps → MapM (kI .i64) w rm es → EsOk W es → Calls Tryz.prog 20 #[.int .i64 k, .pointer (some ⟨b5, 0, none⟩), .pointer (some ⟨b2, 0, none⟩), .pointer (some ⟨b6, 0, none⟩)] w (WkR W k rm w) := by
  intro d
  induction d with
  | zero => intro k h1 h2; omega
  | succ d ihd =>
    intro k hkd hk w es h5 h2 h6 hP hM hes
    obtain ⟨x, hx⟩ : ∃ x, ps[k]? = some x := ⟨_, List.getElem?_eq_getElem hk⟩
    have hxm : x ∈ ps := List.mem_of_getElem? hx
    have hxo := hP.all x hxm
    have hol := hops x hxm
    have hWe : W k = opsW (fun a => W a.toNat) x.ops 0 := hW.eq k x.m (by rw [List.getElem?_map, hx]; rfl)
    have hfw : ∀ o ∈ x.ops, (o.k = 5 ∨ o.k = 6) → (k : Int) < o.a ∧ o.a < ps.length := fun o ho h => by
      have := hW.fw k x.m o (by rw [List.getElem?_map, hx]; rfl) ho h
      rwa [List.length_map] at this
    obtain ⟨ab, aoff, hA, _, _⟩ := hP.rd (by omega)
    subst hA
    have hrm := hM.lt
    have H0 : Mem w [rm] [b5, b2, b6, 0] [.b false 59 [.v (.map (some rm))], .b false 29 [.v (.slice (some ⟨ab, aoff, none⟩) ps.length c)], .b false 60 [.v (.func (.func 20) #[] #[.pointer (some ⟨b5, 0, none⟩), .pointer (some ⟨b2, 0, none⟩), .pointer (some ⟨b6, 0, none⟩)])], HB.mp (kI .i64) rm es] w := by
      refine Mem.startW [rm] rfl ?_ ⟨h5, h2, h6, ⟨hM, fun a ha => by injection ha with ha; subst ha; exact hrm⟩, trivial⟩ (fun y hy => by simpa [wrN, HB.wr, HB.blk, HB.mp] using hy)
      simpa [bks, HB.blk, HB.mp] using hnd
    have hPw : ∀ {β : List Nat} {hp : List HB} {w' : World}, Mem w [rm] β hp w' → Pgs w' (some ⟨ab, aoff, none⟩) c ps := fun H => pgs_map hP hM H.only
    have J : ∀ (e i : Nat), x.ops.length - i = e → i ≤ x.ops.length → ∀ (n : Int) (es1 : List (Int × Value)), 0 ≤ n → n ≤ 1073741824 → W k = opsW (fun a => W a.toNat) (x.ops.drop i) n → EsOk W es1 → ∀ (u : Nat → Value), Hs Tryz.prog ⟨20, none⟩ (WkR W k rm w) (Tryz.f20).ntmps w [rm] [b5, b2, b6, 0] ⟨.no, loopAt Tryz.f20 0, pins [(0, .c (.v (.int .i64 k))), (1, .c (.p 0 0)), (2, .c (.p 1 0)), (3, .c (.p 2 0)), (8, .c (.v (.int .i64 n))), (23, .c (.v (.slice x.A x.ops.length x.c))), (24, .c (.v (.int .i64 x.ops.length))), (25, .c (.v (.int .i64 i)))] (.vals u), [.b false 59 [.v (.map (some rm))], .b false 29 [.v (.slice (some ⟨ab, aoff, none⟩) ps.length c)], .b false 60 [.v (.func (.func 20) #[] #[.pointer (some ⟨b5, 0, none⟩), .pointer (some ⟨b2, 0, none⟩), .pointer (some ⟨b6, 0, none⟩)])], HB.mp (kI .i64) rm es1]⟩ := by
      intro e
      induction e with
      | zero =>
        intro i hi hil n es1 h0 h1 hop hes1 u
        obtain rfl : i = x.ops.length := by omega
        rw [List.drop_length] at hop
        have hop : W k = n := hop
        refine Hs.run0 300 (fun _ => by kernel_rfl) ?_
        refine Hs.condP ((x.ops.length : Int) < (x.ops.length : Int)) (by kernel_rfl) (fun h => by omega) (fun _ => ?_)
        refine Hs.run0 300 (fun _ => by kernel_rfl) ?_
        refine Hs.setM 3 keyW (k : Int) (.int .i64 (n)) (es := es1) (r := rm) (by kernel_rfl) (by kernel_rfl) (by kernel_rfl) ?_
        refine Hs.run0 300 (fun _ => by kernel_rfl) ?_
        exact Hs.ret (v := .int .i64 (n)) Tryz.func20 (by kernel_rfl) fun w' H => ⟨setE (k : Int) (.int .i64 (n)) es1, by rw [hop], H.only, Mem.mapM (ke := kI .i64) (r := rm) (es := setE (k : Int) (.int .i64 (n)) es1) H 3 (by kernel_rfl), by rw [← hop]; exact hes1.set k⟩
      | succ e ihe =>
        intro i hi hil n es1 h0 h1 hop hes1 u
        have hil2 : i < x.ops.length := by omega
        obtain ⟨o, ho⟩ : ∃ o, x.ops[i]? = some o := ⟨_, List.getElem?_eq_getElem hil2⟩
        have hom : o ∈ x.ops := List.mem_of_getElem? ho
        have hdr : x.ops.drop i = o :: x.ops.drop (i + 1) := by
          rw [List.drop_eq_getElem_cons hil2]
          rw [List.getElem?_eq_getElem hil2] at ho
          injection ho with ho
          rw [ho]
        rw [hdr, opsW_cons] at hop
        obtain ⟨ob, ooff, hO, _, _⟩ := hxo.1 (by omega)
        have hih := fun n es1 h0 h1 hop hes1 u => ihe (i + 1) (by omega) (by omega) n es1 h0 h1 hop hes1 u
        clear ihe
        have hor : ∀ {β : List Nat} {hp : List HB} {w' : World}, Mem w [rm] β hp w' → RdX cOP w' (some ⟨ob, ooff, none⟩) x.ops := fun H => by rw [← hO]; exact ((hPw H).all x hxm).1
        rw [hO] at hih ⊢
        obtain ⟨oq, oa, oy, ot⟩ := o
        refine Hs.run0 300 (fun _ => by kernel_rfl) ?_
        refine Hs.condP ((i : Int) < (x.ops.length : Int)) (by kernel_rfl) (fun _ => ?_) (fun h => by omega)
        refine Hs.run0 300 (fun _ => by kernel_rfl) ?_
        refine Hs.idx (b := ob) (off := ooff) (len := x.ops.length) (c := x.c) (i := i) elemPo hil2 (by kernel_rfl) ?_
        refine Hs.ldx (cf := cOP) (size := 4) (E := 36) (b := ob) (off := ooff) (i := i) (l := x.ops) (x := ⟨oq, oa, oy, ot⟩) cOP_len (.g [.v (.int .i64 oq), .v (.int .i64 oa), .v (.int .i64 oy), .v (.string ot)]) (by kernel_rfl) (fun w' H => hor H) ho (by kernel_rfl) (by kernel_rfl) rfl (by kernel_rfl) ?_
        refine Hs.run1 300 (fun _ => by kernel_rfl) fun b7 => ?_
        refine Hs.slot 8 (.c (.v (.int .i64 (n + 1)))) rfl ((by kernel_rfl : _ = Value.int .i64 (IntKind.i64.wrap (n + 1))).trans (wrap_nextW h0 h1)) ?_
        by_cases h5 : oq = 5
        · subst h5
          rw [if_neg (by simp)] at hop
          obtain ⟨a', rfl⟩ : ∃ a' : Nat, oa = a' := ⟨oa.toNat, by have := (hfw _ hom (by simp)).1; dsimp only at this; omega⟩
          have hf := hfw _ hom (by simp)
          dsimp only at hf
          have hba := hW.bd a'
          have eS : stepW (fun a => W a.toNat) ⟨5, (a' : Int), oy, ot⟩ n = (if (1073741824 : Int) < n + 1 + W a' then 1073741824 else n + 1 + W a') := by unfold stepW; simp
          have hbd := stepW_bd (g := (fun a => W a.toNat)) (o := ⟨5, (a' : Int), oy, ot⟩) h0 hba.1
          have hC : ∀ w', Mem w [rm] ([b5, b2, b6, 0] ++ [b7]) [.b false 59 [.v (.map (some rm))], .b false 29 [.v (.slice (some ⟨ab, aoff, none⟩) ps.length c)], .b false 60 [.v (.func (.func 20) #[] #[.pointer (some ⟨b5, 0, none⟩), .pointer (some ⟨b2, 0, none⟩), .pointer (some ⟨b6, 0, none⟩)])], HB.mp (kI .i64) rm es1, .b true 36 [.v (.int .i64 5), .v (.int .i64 (a' : Int)), .v (.int .i64 oy), .v (.string ot)]] w' → Calls Tryz.prog 20 #[.int .i64 (a' : Int), .pointer (some ⟨b5, 0, none⟩), .pointer (some ⟨b2, 0, none⟩), .pointer (some ⟨b6, 0, none⟩)] w' fun e w2 => ∃ es', e = .returned (.int .i64 (W a')) ∧ Only [rm] w' w2 ∧ MapM (kI .i64) w2 rm es' ∧ EsOk W es' := fun w' H => ihd a' (by omega) (by omega) w' es1 (H.at 0 rfl) (H.at 1 rfl) (H.at 2 rfl) (hPw H) (Mem.mapM (ke := kI .i64) (r := rm) (es := es1) H 3 rfl) hes1
          refine Hs.rung0 [3] 300 (fun _ => by kernel_rfl) ?_
          refine Hs.condT (by kernel_rfl) ?_
          refine Hs.run0 300 (fun _ => by kernel_rfl) ?_
          refine Hs.callMp 3 (X := List (Int × Value)) (r := rm) (es := es1) (fun es' => es') (fun _ => .int .i64 (W a')) (EsOk W) (by kernel_rfl) (fun w' H => hC w' (Eq.mp (by kernel_rfl) H)) (by kernel_rfl) (by kernel_rfl) fun es2 hes2 => ?_
          refine Hs.run0 300 (fun _ => by kernel_rfl) ?_
          refine Hs.slot 8 (.c (.v (.int .i64 (stepW (fun a => W a.toNat) ⟨5, (a' : Int), oy, ot⟩ n)))) rfl ((by kernel_rfl : _ = Value.int .i64 (if (1073741824 : Int) < IntKind.i64.wrap (n + 1 + W a') then 1073741824 else IntKind.i64.wrap (n + 1 + W a'))).trans (by rw [IntWalk.i64_in _ (by omega), ← eS]; rfl)) ?_
          refine Hs.rung0 [3] 300 (fun _ => by kernel_rfl) ?_
          refine Hs.condF (by kernel_rfl) ?_
          refine Hs.run0 300 (fun _ => by kernel_rfl) ?_
          refine Hs.slot 25 (.c (.v (.int .i64 (i + 1 : Nat)))) rfl ((by kernel_rfl : _ = Value.int .i64 (IntKind.i64.wrap ((i : Int) + 1))).trans (wrap_nextK (by omega))) ?_
          refine Hs.loop (by kernel_rfl) ?_
          exact Hs.goto (loopAt Tryz.f20 0) [0, 1, 2, 3] [.b false 59 [.v (.map (some rm))], .b false 29 [.v (.slice (some ⟨ab, aoff, none⟩) ps.length c)], .b false 60 [.v (.func (.func 20) #[] #[.pointer (some ⟨b5, 0, none⟩), .pointer (some ⟨b2, 0, none⟩), .pointer (some ⟨b6, 0, none⟩)])], HB.mp (kI .i64) rm es2] [(0, .c (.v (.int .i64 k))), (1, .c (.p 0 0)), (2, .c (.p 1 0)), (3, .c (.p 2 0)), (8, .c (.v (.int .i64 (stepW (fun a => W a.toNat) ⟨5, (a' : Int), oy, ot⟩ n)))), (23, .c (.v (.slice (some ⟨ob, ooff, none⟩) x.ops.length x.c))), (24, .c (.v (.int .i64 x.ops.length))), (25, .c (.v (.int .i64 (i + 1 : Nat))))] (by kernel_rfl) (by decide) (by kernel_rfl) (by kernel_rfl) (fun _ => (by kernel_rfl)) (fun u => hih (stepW (fun a => W a.toNat) ⟨5, (a' : Int), oy, ot⟩ n) es2 hbd.1 hbd.2 hop hes2 u)
        · by_cases h6 : oq = 6
          · subst h6
            rw [if_pos (by simp)] at hop
            obtain ⟨a', rfl⟩ : ∃ a' : Nat, oa = a' := ⟨oa.toNat, by have := (hfw _ hom (by simp)).1; dsimp only at this; omega⟩
            have hf := hfw _ hom (by simp)
            dsimp only at hf
            have hba := hW.bd a'
            have eS : stepW (fun a => W a.toNat) ⟨6, (a' : Int), oy, ot⟩ n = (if (1073741824 : Int) < n + 1 + W a' then 1073741824 else n + 1 + W a') := by unfold stepW; simp
            have hbd := stepW_bd (g := (fun a => W a.toNat)) (o := ⟨6, (a' : Int), oy, ot⟩) h0 hba.1
            have hC : ∀ w', Mem w [rm] ([b5, b2, b6, 0] ++ [b7]) [.b false 59 [.v (.map (some rm))], .b false 29 [.v (.slice (some ⟨ab, aoff, none⟩) ps.length c)], .b false 60 [.v (.func (.func 20) #[] #[.pointer (some ⟨b5, 0, none⟩), .pointer (some ⟨b2, 0, none⟩), .pointer (some ⟨b6, 0, none⟩)])], HB.mp (kI .i64) rm es1, .b true 36 [.v (.int .i64 6), .v (.int .i64 (a' : Int)), .v (.int .i64 oy), .v (.string ot)]] w' → Calls Tryz.prog 20 #[.int .i64 (a' : Int), .pointer (some ⟨b5, 0, none⟩), .pointer (some ⟨b2, 0, none⟩), .pointer (some ⟨b6, 0, none⟩)] w' fun e w2 => ∃ es', e = .returned (.int .i64 (W a')) ∧ Only [rm] w' w2 ∧ MapM (kI .i64) w2 rm es' ∧ EsOk W es' := fun w' H => ihd a' (by omega) (by omega) w' es1 (H.at 0 rfl) (H.at 1 rfl) (H.at 2 rfl) (hPw H) (Mem.mapM (ke := kI .i64) (r := rm) (es := es1) H 3 rfl) hes1
            refine Hs.rung0 [3] 300 (fun _ => by kernel_rfl) ?_
            refine Hs.condT (by kernel_rfl) ?_
            refine Hs.run0 300 (fun _ => by kernel_rfl) ?_
            refine Hs.callMp 3 (X := List (Int × Value)) (r := rm) (es := es1) (fun es' => es') (fun _ => .int .i64 (W a')) (EsOk W) (by kernel_rfl) (fun w' H => hC w' (Eq.mp (by kernel_rfl) H)) (by kernel_rfl) (by kernel_rfl) fun es2 hes2 => ?_
            refine Hs.run0 300 (fun _ => by kernel_rfl) ?_
            refine Hs.slot 8 (.c (.v (.int .i64 (stepW (fun a => W a.toNat) ⟨6, (a' : Int), oy, ot⟩ n)))) rfl ((by kernel_rfl : _ = Value.int .i64 (if (1073741824 : Int) < IntKind.i64.wrap (n + 1 + W a') then 1073741824 else IntKind.i64.wrap (n + 1 + W a'))).trans (by rw [IntWalk.i64_in _ (by omega), ← eS]; rfl)) ?_
            refine Hs.rung0 [3] 300 (fun _ => by kernel_rfl) ?_
            refine Hs.condT (by kernel_rfl) ?_
            refine Hs.run0 300 (fun _ => by kernel_rfl) ?_
            refine Hs.setM 3 keyW (k : Int) (.int .i64 (stepW (fun a => W a.toNat) ⟨6, (a' : Int), oy, ot⟩ n)) (es := es2) (r := rm) (by kernel_rfl) (by kernel_rfl) (by kernel_rfl) ?_
            refine Hs.run0 300 (fun _ => by kernel_rfl) ?_
            exact Hs.ret (v := .int .i64 (stepW (fun a => W a.toNat) ⟨6, (a' : Int), oy, ot⟩ n)) Tryz.func20 (by kernel_rfl) fun w' H => ⟨setE (k : Int) (.int .i64 (stepW (fun a => W a.toNat) ⟨6, (a' : Int), oy, ot⟩ n)) es2, by rw [hop], H.only, Mem.mapM (ke := kI .i64) (r := rm) (es := setE (k : Int) (.int .i64 (stepW (fun a => W a.toNat) ⟨6, (a' : Int), oy, ot⟩ n)) es2) H 3 (by kernel_rfl), by rw [← hop]; exact hes2.set k⟩
          · have eS : stepW (fun a => W a.toNat) ⟨oq, oa, oy, ot⟩ n = (if (1073741824 : Int) < n + 1 then 1073741824 else n + 1) := by unfold stepW; simp [h5, h6]
            have hbd : 0 ≤ stepW (fun a => W a.toNat) ⟨oq, oa, oy, ot⟩ n ∧ stepW (fun a => W a.toNat) ⟨oq, oa, oy, ot⟩ n ≤ 1073741824 := by rw [eS]; split <;> omega
            refine Hs.bool 34 (decide (oq = 5)) (by kernel_rfl) (fun h => absurd (of_decide_eq_true h) h5) (fun _ => ?_)
            refine Hs.rung0 [3] 300 (fun _ => by kernel_rfl) ?_
            refine Hs.cond (decide (oq = 6)) (by kernel_rfl) (fun h => absurd (of_decide_eq_true h) h6) (fun _ => ?_)
            refine Hs.run0 300 (fun _ => by kernel_rfl) ?_
            refine Hs.slot 8 (.c (.v (.int .i64 (stepW (fun a => W a.toNat) ⟨oq, oa, oy, ot⟩ n)))) rfl ((by kernel_rfl : _ = Value.int .i64 (if (1073741824 : Int) < n + 1 then 1073741824 else n + 1)).trans (by rw [← eS]; rfl)) ?_
            refine Hs.bool 50 (decide (oq = 6)) (by kernel_rfl) (fun h => absurd (of_decide_eq_true h) h6) (fun _ => ?_)
            refine Hs.rung0 [3] 300 (fun _ => by kernel_rfl) ?_
            refine Hs.cond (decide (oq = 1)) (by kernel_rfl) (fun h => ?_) (fun h => ?_)
            · have h := of_decide_eq_true h
              rw [if_pos (.inr h)] at hop
              refine Hs.run0 300 (fun _ => by kernel_rfl) ?_
              refine Hs.setM 3 keyW (k : Int) (.int .i64 (stepW (fun a => W a.toNat) ⟨oq, oa, oy, ot⟩ n)) (es := es1) (r := rm) (by kernel_rfl) (by kernel_rfl) (by kernel_rfl) ?_
              refine Hs.run0 300 (fun _ => by kernel_rfl) ?_
              exact Hs.ret (v := .int .i64 (stepW (fun a => W a.toNat) ⟨oq, oa, oy, ot⟩ n)) Tryz.func20 (by kernel_rfl) fun w' H => ⟨setE (k : Int) (.int .i64 (stepW (fun a => W a.toNat) ⟨oq, oa, oy, ot⟩ n)) es1, by rw [hop], H.only, Mem.mapM (ke := kI .i64) (r := rm) (es := setE (k : Int) (.int .i64 (stepW (fun a => W a.toNat) ⟨oq, oa, oy, ot⟩ n)) es1) H 3 (by kernel_rfl), by rw [← hop]; exact hes1.set k⟩
            · have h := of_decide_eq_false h
              rw [if_neg (by simp [h6, h])] at hop
              refine Hs.run0 300 (fun _ => by kernel_rfl) ?_
              refine Hs.slot 25 (.c (.v (.int .i64 (i + 1 : Nat)))) rfl ((by kernel_rfl : _ = Value.int .i64 (IntKind.i64.wrap ((i : Int) + 1))).trans (wrap_nextK (by omega))) ?_
              refine Hs.loop (by kernel_rfl) ?_
              exact Hs.goto (loopAt Tryz.f20 0) [0, 1, 2, 3] [.b false 59 [.v (.map (some rm))], .b false 29 [.v (.slice (some ⟨ab, aoff, none⟩) ps.length c)], .b false 60 [.v (.func (.func 20) #[] #[.pointer (some ⟨b5, 0, none⟩), .pointer (some ⟨b2, 0, none⟩), .pointer (some ⟨b6, 0, none⟩)])], HB.mp (kI .i64) rm es1] [(0, .c (.v (.int .i64 k))), (1, .c (.p 0 0)), (2, .c (.p 1 0)), (3, .c (.p 2 0)), (8, .c (.v (.int .i64 (stepW (fun a => W a.toNat) ⟨oq, oa, oy, ot⟩ n)))), (23, .c (.v (.slice (some ⟨ob, ooff, none⟩) x.ops.length x.c))), (24, .c (.v (.int .i64 x.ops.length))), (25, .c (.v (.int .i64 (i + 1 : Nat))))] (by kernel_rfl) (by decide) (by kernel_rfl) (by kernel_rfl) (fun _ => (by kernel_rfl)) (fun u => hih (stepW (fun a => W a.toNat) ⟨oq, oa, oy, ot⟩ n) es1 hbd.1 hbd.2 hop hes1 u)
    refine Hs.enter Tryz.func20 [rm] [b5, b2, b6, 0] _ [.c (.v (.int .i64 k)), .c (.p 0 0), .c (.p 1 0), .c (.p 2 0)] H0 (by kernel_rfl) (by kernel_rfl) ?_
    refine Hs.run0 300 (fun _ => by kernel_rfl) ?_
    cases hl : lookM (k : Int) es with
    | some v =>
      obtain rfl := hes k v hl
      refine Hs.getM (r := rm) (es := es) keyW (k : Int) true (.tuple #[.int .i64 (W k), .bool true]) (by rw [hl]; rfl) (by kernel_rfl) (fun w' H => Mem.mapM (ke := kI .i64) (r := rm) (es := es) H 3 (by kernel_rfl)) ?_
      refine Hs.run0 300 (fun _ => by kernel_rfl) ?_
      refine Hs.condT (by kernel_rfl) ?_
      refine Hs.run0 300 (fun _ => by kernel_rfl) ?_
      exact Hs.ret (v := .int .i64 (W k)) Tryz.func20 (by kernel_rfl) fun w' H => ⟨es, rfl, H.only, Mem.mapM (ke := kI .i64) (r := rm) (es := es) H 3 (by kernel_rfl), hes⟩
    | none =>
      refine Hs.getM (r := rm) (es := es) keyW (k : Int) true (.tuple #[.int .i64 0, .bool false]) (by rw [hl]; rfl) (by kernel_rfl) (fun w' H => Mem.mapM (ke := kI .i64) (r := rm) (es := es) H 3 (by kernel_rfl)) ?_
      refine Hs.run0 300 (fun _ => by kernel_rfl) ?_
      refine Hs.condF (by kernel_rfl) ?_
      refine Hs.run0 300 (fun _ => by kernel_rfl) ?_
      refine Hs.idx (b := ab) (off := aoff) (len := ps.length) (c := c) (i := k) elemPr hk (by kernel_rfl) ?_
      refine Hs.run0 300 (fun _ => by kernel_rfl) ?_
      refine Hs.ldc (E' := 31) (b := ab) (off := aoff + k * 2 + 1) (.slice x.A x.ops.length x.c) (by kernel_rfl) (fun w' H => rdX_cell cPG_len (hPw H).rd hx (j := 1) rfl) (by kernel_rfl) ?_
      refine Hs.run0 300 (fun _ => by kernel_rfl) ?_
      refine Hs.loop (by kernel_rfl) ?_
      exact Hs.goto (loopAt Tryz.f20 0) [0, 1, 2, 3] [.b false 59 [.v (.map (some rm))], .b false 29 [.v (.slice (some ⟨ab, aoff, none⟩) ps.length c)], .b false 60 [.v (.func (.func 20) #[] #[.pointer (some ⟨b5, 0, none⟩), .pointer (some ⟨b2, 0, none⟩), .pointer (some ⟨b6, 0, none⟩)])], HB.mp (kI .i64) rm es] [(0, .c (.v (.int .i64 k))), (1, .c (.p 0 0)), (2, .c (.p 1 0)), (3, .c (.p 2 0)), (8, .c (.v (.int .i64 (0 : Int)))), (23, .c (.v (.slice x.A x.ops.length x.c))), (24, .c (.v (.int .i64 x.ops.length))), (25, .c (.v (.int .i64 (0 : Nat))))] (by kernel_rfl) (by decide) (by kernel_rfl) (by kernel_rfl) (fun _ => (by kernel_rfl)) (fun u => J x.ops.length 0 (by omega) (by omega) 0 es (Int.le_refl 0) (by omega) (by rw [List.drop_zero]; exact hWe) hes u)
end Go.Proofs.YtmmcamkmglpgiaaGreatDoor

namespace Go.Proofs.YtmmcamkmglpgiaaGreatDoor
open Go.RowKit Go.MapKept
set_option linter.all false
set_option maxRecDepth 100000
theorem check_len {l : List PM} (h : checkM l = 0) : 1 ≤ l.length ∧ l.length ≤ 32 := by
  unfold checkM at h
  cases hw : withinB (l.length : Int) 1 32 with
  | false => rw [hw] at h; cases h
  | true =>
    have : (1 : Int) ≤ (l.length : Int) ∧ (l.length : Int) ≤ 32 := by simpa [withinB] using hw
    omega
theorem check_wrongs {l : List PM} (h : checkM l = 0) : wrongs l.length l 0 = 0 ∧ dupM [] (l.map Prod.fst) = 0 := by
  have hl := check_len h
  unfold checkM at h
  cases hw : withinB (l.length : Int) 1 32 with
  | false => rw [hw] at h; cases h
  | true =>
    rw [hw] at h
    dsimp only at h
    by_cases h2 : wrongs l.length l 0 = 0
    · rw [if_pos h2] at h; exact ⟨h2, h⟩
    · rw [if_neg h2] at h; exact absurd h h2
theorem wrongs_all {q : Int} : ∀ {l : List PM} {i : Nat}, wrongs q l i = 0 → ∀ (k : Nat) (m : PM), l[k]? = some m → wrongM m ((i + k : Nat) : Int) q = 0
  | [], i, _, k, m, hk => by simp at hk
  | a :: l, i, h, 0, m, hk => by
    simp at hk; subst hk
    rw [wrongs_cons] at h
    by_cases h2 : wrongM a i q = 0
    · exact h2
    · rw [if_neg h2] at h; exact absurd h h2
  | a :: l, i, h, k + 1, m, hk => by
    rw [wrongs_cons] at h
    by_cases h2 : wrongM a i q = 0
    · rw [if_pos h2] at h
      have := wrongs_all h k m (by simpa using hk)
      rwa [show i + 1 + k = i + (k + 1) by omega] at this
    · rw [if_neg h2] at h; exact absurd h h2
theorem wrongM_ok {m : PM} {p q : Int} (h : wrongM m p q = 0) : nmB m.1 = true ∧ m.2.length ≤ 64 ∧ ∀ o ∈ m.2, rightB o p q = true := by
  unfold wrongM at h
  cases h1 : nmB m.1 with
  | false => rw [h1] at h; cases h
  | true =>
    rw [h1] at h
    dsimp only at h
    by_cases h2 : (64 : Int) < m.2.length
    · rw [if_pos h2] at h; cases h
    · rw [if_neg h2] at h
      cases h3 : badOps m.2 p q with
      | true => rw [h3] at h; cases h
      | false =>
        refine ⟨rfl, by omega, fun o ho => ?_⟩
        unfold badOps at h3
        have := List.any_eq_false.1 h3 o ho
        simpa using this
theorem check_prog {l : List PM} (h : checkM l = 0) {k : Nat} {m : PM} (hk : l[k]? = some m) : nmB m.1 = true ∧ m.2.length ≤ 64 ∧ ∀ o ∈ m.2, rightB o k l.length = true := by
  have := wrongs_all (check_wrongs h).1 k m hk
  rw [Nat.zero_add] at this
  exact wrongM_ok this
theorem right_later {o : OP9} {p q : Int} (h : rightB o p q = true) (hk : o.k = 5 ∨ o.k = 6) : laterB p q o.a = true := by
  unfold rightB restB at h
  simp only [Bool.and_eq_true] at h
  have h2 := h.2.2.2.2
  rcases hk with e | e
  · rw [e] at h2; exact h2
  · rw [e] at h2; exact h2
def workF (l : List PM) : Nat → Nat → Int
  | 0, _ => 0
  | d + 1, k => match l[k]? with
    | none => 0
    | some m => opsW (fun a => workF l d a.toNat) m.2 0
theorem opsW_congr {g g' : Int → Int} : ∀ (ops : List OP9) (n : Int), (∀ o ∈ ops, (o.k = 5 ∨ o.k = 6) → g o.a = g' o.a) → opsW g ops n = opsW g' ops n
  | [], n, _ => rfl
  | o :: l, n, h => by
    have e : stepW g o n = stepW g' o n := by
      unfold stepW
      by_cases h5 : o.k = 5 ∨ o.k = 6
      · rw [h o (by simp) h5]
      · simp only [if_neg h5]
    rw [opsW_cons, opsW_cons, e, opsW_congr l (stepW g' o n) (fun o ho => h o (by simp [ho]))]
theorem opsW_bd {g : Int → Int} (hg : ∀ a, 0 ≤ g a) : ∀ (ops : List OP9) (n : Int), 0 ≤ n → n ≤ 1073741824 → 0 ≤ opsW g ops n ∧ opsW g ops n ≤ 1073741824
  | [], n, h0, h1 => ⟨h0, h1⟩
  | o :: l, n, h0, h1 => by
    have h2 := stepW_bd (g := g) (o := o) h0 (hg o.a)
    rw [opsW_cons]
    split
    · exact h2
    · exact opsW_bd hg l _ h2.1 h2.2
theorem workF_bd (l : List PM) : ∀ (d k : Nat), 0 ≤ workF l d k ∧ workF l d k ≤ 1073741824
  | 0, k => ⟨Int.le_refl _, (by decide : (0 : Int) ≤ 1073741824)⟩
  | d + 1, k => by
    unfold workF
    split
    · exact ⟨Int.le_refl _, by decide⟩
    · exact opsW_bd (fun a => (workF_bd l d a.toNat).1) _ _ (Int.le_refl _) (by decide)
def Fwd (l : List PM) : Prop := ∀ (k : Nat) (m : PM) (o : OP9), l[k]? = some m → o ∈ m.2 → (o.k = 5 ∨ o.k = 6) → (k : Int) < o.a ∧ o.a < l.length
theorem workF_fuel {l : List PM} (hf : Fwd l) : ∀ (d1 d2 k : Nat), l.length - k ≤ d1 → l.length - k ≤ d2 → k < l.length → workF l d1 k = workF l d2 k
  | 0, d2, k, h1, h2, h3 => by omega
  | d1 + 1, 0, k, h1, h2, h3 => by omega
  | d1 + 1, d2 + 1, k, h1, h2, h3 => by
    unfold workF
    cases hk : l[k]? with
    | none => rfl
    | some m =>
      dsimp only
      refine opsW_congr _ _ fun o ho h5 => ?_
      have := hf k m o hk ho h5
      exact workF_fuel hf d1 d2 o.a.toNat (by omega) (by omega) (by omega)
def workW (l : List PM) (k : Nat) : Int := workF l (l.length - k) k
theorem workW_ok {l : List PM} (hf : Fwd l) : WorkOk l (workW l) := by
  refine ⟨fun k m hk => ?_, fun k => workF_bd l _ k, hf⟩
  have hkl := (List.getElem?_eq_some_iff.1 hk).1
  obtain ⟨d, hd⟩ : ∃ d, l.length - k = d + 1 := ⟨l.length - k - 1, by omega⟩
  show workF l (l.length - k) k = _
  rw [hd]
  unfold workF
  rw [hk]
  dsimp only
  refine opsW_congr _ _ fun o ho h5 => ?_
  have := hf k m o hk ho h5
  exact workF_fuel hf d _ o.a.toNat (by omega) (Nat.le_refl _) (by omega)
theorem check_fwd {l : List PM} (h : checkM l = 0) : Fwd l := fun k m o hk ho h5 => by
  have := right_later ((check_prog h hk).2.2 o ho) h5
  have : (k : Int) < o.a ∧ o.a < (l.length : Int) := by simpa [laterB] using this
  exact this
/-- How many operations a run of a program makes at most. -/
def workM (l : List PM) (i : Int) : Int := if checkM l = 0 ∧ 0 ≤ i ∧ i < l.length then workW l i.toNat else 0
set_option maxHeartbeats 1000000 in
theorem work_any19 (ps : List PG) (A : Option Addr) (c : Nat) (i : Int) (w : World) (h : Pgs w A c ps) : Calls Tryz.prog 11 #[.slice A ps.length c, .int .i64 i] w fun e w' => e = .returned (.int .i64 (workM (ps.map PG.m) i)) ∧ Only [] w w' := by
  refine Hs.enter Tryz.func11 [] [] [] [.c (.v (.slice A ps.length c)), .c (.v (.int .i64 i))] (Mem.start0 w) (by kernel_rfl) (by kernel_rfl) ?_
  refine Hs.run1 300 (fun _ => by kernel_rfl) fun b2 => ?_
  refine Hs.callV (v := .int .i64 (checkM (ps.map PG.m))) (fun w' H => check_any ps A c w' (h.only H.only)) (by kernel_rfl) ?_
  refine Hs.run0 300 (fun _ => by kernel_rfl) ?_
  refine Hs.bool 10 (!decide (checkM (ps.map PG.m) = 0)) (by kernel_rfl) (fun h1 => ?_) (fun h1 => ?_)
  · have h1 : ¬ checkM (ps.map PG.m) = 0 := by simpa using h1
    refine Hs.rung0 [3, 7] 300 (fun _ => by kernel_rfl) ?_
    refine Hs.condT (by kernel_rfl) ?_
    refine Hs.run0 300 (fun _ => by kernel_rfl) ?_
    exact Hs.ret (v := .int .i64 0) Tryz.func11 (by kernel_rfl) fun w' H => ⟨by unfold workM; rw [if_neg (fun h => h1 h.1)], H.only⟩
  · have h1 : checkM (ps.map PG.m) = 0 := by simpa using h1
    refine Hs.rung0 [3] 300 (fun _ => by kernel_rfl) ?_
    refine Hs.bool 14 (decide (i < 0)) (by kernel_rfl) (fun h2 => ?_) (fun h2 => ?_)
    · have h2 := of_decide_eq_true h2
      refine Hs.rung0 [3, 7] 300 (fun _ => by kernel_rfl) ?_
      refine Hs.condT (by kernel_rfl) ?_
      refine Hs.run0 300 (fun _ => by kernel_rfl) ?_
      exact Hs.ret (v := .int .i64 0) Tryz.func11 (by kernel_rfl) fun w' H => ⟨by unfold workM; rw [if_neg (fun h => by omega)], H.only⟩
    · have h2 := of_decide_eq_false h2
      refine Hs.rung0 [3, 7] 300 (fun _ => by kernel_rfl) ?_
      refine Hs.cond (decide ((ps.length : Int) ≤ i)) (by kernel_rfl) (fun h3 => ?_) (fun h3 => ?_)
      · have h3 := of_decide_eq_true h3
        refine Hs.run0 300 (fun _ => by kernel_rfl) ?_
        exact Hs.ret (v := .int .i64 0) Tryz.func11 (by kernel_rfl) fun w' H => ⟨by unfold workM; rw [if_neg (fun h => by rw [List.length_map] at h; omega)], H.only⟩
      · have h3 := of_decide_eq_false h3
        obtain ⟨i, rfl⟩ : ∃ j : Nat, i = j := ⟨i.toNat, by omega⟩
        have hl := check_len h1
        rw [List.length_map] at hl
        have hops : ∀ x ∈ ps, x.ops.length ≤ 1000 := fun x hx => by
          obtain ⟨k, hk⟩ := List.mem_iff_getElem?.1 hx
          have := (check_prog h1 (k := k) (m := x.m) (by rw [List.getElem?_map, hk]; rfl)).2.1
          have : x.ops.length ≤ 64 := this
          omega
        have eW : workM (ps.map PG.m) i = workW (ps.map PG.m) i := by
          unfold workM
          rw [if_pos ⟨h1, by omega, by rw [List.length_map]; omega⟩, Int.toNat_natCast]
        rw [eW]
        have hC : ∀ rm b5 b6 w', Mem w [] ([] ++ [b2] ++ [rm] ++ [b5, b6]) [.b true 29 [.v (.slice A ps.length c)], HB.mp (kI .i64) rm [], .b true 59 [.v (.map (some rm))], .b true 60 [.v (.func (.func 20) #[] #[.pointer (some ⟨b5, 0, none⟩), .pointer (some ⟨b2, 0, none⟩), .pointer (some ⟨b6, 0, none⟩)])]] w' → Calls Tryz.prog 20 #[.int .i64 (i : Int), .pointer (some ⟨b5, 0, none⟩), .pointer (some ⟨b2, 0, none⟩), .pointer (some ⟨b6, 0, none⟩)] w' fun e w2 => ∃ es', e = .returned (.int .i64 (workW (ps.map PG.m) i)) ∧ Only [rm] w' w2 ∧ MapM (kI .i64) w2 rm es' ∧ EsOk (workW (ps.map PG.m)) es' := fun rm b5 b6 w' H => by
          have hnd : [b2, rm, b5, b6].Nodup := (Mem.bks H rfl).1
          have hnd2 : [b5, b2, b6, rm].Nodup := by
            simp only [List.nodup_cons, List.mem_cons, List.not_mem_nil, or_false, not_or, not_false_eq_true, List.nodup_nil, and_true] at hnd ⊢
            obtain ⟨⟨q1, q2, q3⟩, ⟨q4, q5⟩, q6⟩ := hnd
            exact ⟨⟨Ne.symm q2, q6, Ne.symm q4⟩, ⟨q3, q1⟩, Ne.symm q5⟩
          exact work1_any ps A c (workW (ps.map PG.m)) (workW_ok (check_fwd h1)) (by omega) hops b5 b2 b6 rm hnd2 ps.length i (by omega) (by omega) w' [] (H.at 2 rfl) (H.at 0 rfl) (H.at 3 rfl) (h.only H.only) (Mem.mapM (ke := kI .i64) (r := rm) (es := []) H 1 rfl) (fun j v hj => by cases hj)
        refine Hs.run0 300 (fun _ => by kernel_rfl) ?_
        refine Hs.mkM (T := 59) (kI .i64) (by kernel_rfl) (by kernel_rfl) fun rm => ?_
        refine Hs.run2 300 (fun _ => by kernel_rfl) fun b5 b6 => ?_
        refine Hs.callMp 1 (X := List (Int × Value)) (r := rm) (es := []) (fun es' => es') (fun _ => .int .i64 (workW (ps.map PG.m) i)) (EsOk (workW (ps.map PG.m))) (by kernel_rfl) (fun w' H => hC rm b5 b6 w' (Eq.mp (by kernel_rfl) H)) (by kernel_rfl) (by kernel_rfl) fun es2 _ => ?_
        refine Hs.run0 300 (fun _ => by kernel_rfl) ?_
        exact Hs.ret (v := .int .i64 (workW (ps.map PG.m) i)) Tryz.func11 (by kernel_rfl) fun w' H => ⟨rfl, H.only⟩
end Go.Proofs.YtmmcamkmglpgiaaGreatDoor

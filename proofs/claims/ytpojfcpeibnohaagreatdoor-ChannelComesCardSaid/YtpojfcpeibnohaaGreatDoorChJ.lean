/- Layer 25: how a program's end is told; a step; no condition · Layer 25: a step; a channel to and fro; the document's example; no condition. -/
import Derived.Test.YtpojfcpeibnohaaGreatDoorChH
import Derived.Test.YtpojfcpeibnohaaGreatDoorReqH
namespace Go.Proofs.YtpojfcpeibnohaaGreatDoor
set_option linter.all false
set_option maxRecDepth 100000
open Go.RowKit

def RQ.sc (m : RQ) : List SC := [.v (.int .i64 m.kind), .v (.string m.text), .v (.string m.value), .v (.string m.lang), .v (.int .u32 m.cols), .v (.int .u32 m.rows), .v (.int .u32 m.width), .v (.int .u32 m.height), .v (.slice m.mA m.modes.length m.mc), .v (.bool m.on), .v (.int .u32 m.code)]
def tellC (c : CH) (r : RQ) : CH × OM × Int :=
  if r.kind ≠ 9 ∧ r.kind ≠ 10 then (c, om0, 2)
  else if c.told = true ∨ c.sClose = true then (c, om0, 9)
  else if (encR r).1 ≠ 0 then (c, om0, (encR r).1)
  else ({ c with told := true }, ⟨98, c.rem, 0, 0, encName r, (encR r).2⟩, 0)
theorem chTell_any (c : CH) (r : RQ) (w : World) (hr : r.ok w) (hs : r.text.size ≤ 140737488355328) (hv : r.value.size ≤ 140737488355328) (hl : r.lang.size ≤ 140737488355328) : Calls Tryz.prog 21 #[c.val, r.val] w (StepO w (tellC c r)) := by
  refine Hs.enter Tryz.func21 [] [] [] [.g c.sc, .g r.sc] (Mem.start0 w) (by kernel_rfl) (by kernel_rfl) ?_
  refine Hs.run4 300 (fun _ => by kernel_rfl) fun b0 b1 b2 b3 => ?_
  refine Hs.bool 15 (r.kind != 9) (by kernel_rfl) (fun k1 => ?_) (fun k1 => ?_)
  · have k1 : r.kind ≠ 9 := by simpa using k1
    refine Hs.rung0 [3] 300 (fun _ => by kernel_rfl) ?_
    refine Hs.cond (r.kind != 10) (by kernel_rfl) (fun k2 => ?_) (fun k2 => ?_)
    · have k2 : r.kind ≠ 10 := by simpa using k2
      refine Hs.run0 300 (fun _ => by kernel_rfl) ?_
      exact Hs.ret (v := .tuple #[c.val, omV om0 none 0, .int .i64 2]) Tryz.func21 (by kernel_rfl) fun w' H => by rw [show tellC c r = _ from if_pos ⟨k1, k2⟩]; exact ⟨H.only, none, 0, rfl, Bs.none _ _⟩
    · have k2 : r.kind = 10 := by simpa using k2
      refine Hs.run0 300 (fun _ => by kernel_rfl) ?_
      refine Hs.bool 25 c.told (by kernel_rfl) (fun h1 => ?_) (fun h1 => ?_)
      · refine Hs.rung0 [2] 300 (fun _ => by kernel_rfl) ?_
        refine Hs.cond true (by kernel_rfl) (fun _ => ?_) (fun h => by cases h)
        refine Hs.run0 300 (fun _ => by kernel_rfl) ?_
        exact Hs.ret (v := .tuple #[c.val, omV om0 none 0, .int .i64 9]) Tryz.func21 (by kernel_rfl) fun w' H => by rw [show tellC c r = _ from (if_neg (by omega)).trans (if_pos (.inl h1))]; exact ⟨H.only, none, 0, rfl, Bs.none _ _⟩
      refine Hs.rung0 [2] 300 (fun _ => by kernel_rfl) ?_
      refine Hs.cond c.sClose (by kernel_rfl) (fun h2 => ?_) (fun h2 => ?_)
      · refine Hs.run0 300 (fun _ => by kernel_rfl) ?_
        exact Hs.ret (v := .tuple #[c.val, omV om0 none 0, .int .i64 9]) Tryz.func21 (by kernel_rfl) fun w' H => by rw [show tellC c r = _ from (if_neg (by omega)).trans (if_pos (.inr h2))]; exact ⟨H.only, none, 0, rfl, Bs.none _ _⟩
      refine Hs.run0 300 (fun _ => by kernel_rfl) ?_
      refine Hs.callQ (X := Option Addr × Nat) (fun x => aoB (encR r).2 x.1) (fun x => .tuple #[.string (encName r), .slice x.1 (encR r).2.length x.2, .int .i64 (encR r).1]) (fun x w' => Bs w' w.heap.size x.1 (encR r).2 x.2) (fun x => bs_st) (fun w' H => (rencode_any r w' (hr.only H.only) hs hv hl).mono (by
        rintro e w2 ⟨O, v, rfl, hO⟩
        obtain ⟨A, cap, rfl, hB⟩ := ownB_bs hO O.size
        exact ⟨(A, cap), rfl, O, hB.mono H.only.size, bs_new hB⟩)) (by kernel_rfl) (by kernel_rfl) fun x => ?_
      refine Hs.run0 300 (fun _ => by kernel_rfl) ?_
      refine Hs.cond ((encR r).1 != 0) (by kernel_rfl) (fun h3 => ?_) (fun h3 => ?_)
      · refine Hs.run0 300 (fun _ => by kernel_rfl) ?_
        exact Hs.ret (v := .tuple #[c.val, omV om0 none 0, .int .i64 (encR r).1]) Tryz.func21 (by kernel_rfl) fun w' H => by rw [show tellC c r = _ from (if_neg (by omega)).trans ((if_neg (by simp [h1, h2])).trans (if_pos (by simpa using h3)))]; exact ⟨H.only, none, 0, rfl, Bs.none _ _⟩
      refine Hs.run0 300 (fun _ => by kernel_rfl) ?_
      refine Hs.callV (fun w _ => chMsg_any { c with told := true } 98 w) (by kernel_rfl) ?_
      refine Hs.run1 300 (fun _ => by kernel_rfl) fun b0 => ?_
      refine Hs.any [0, 5] (by kernel_rfl) ?_
      refine Hs.run0 300 (fun _ => by kernel_rfl) ?_
      refine Hs.ret (v := .tuple #[CH.val { c with told := true }, omV ⟨98, c.rem, 0, 0, encName r, (encR r).2⟩ x.1 x.2, .int .i64 0]) Tryz.func21 (by kernel_rfl) fun w' H => ?_
      rw [show tellC c r = _ from (if_neg (by omega)).trans ((if_neg (by simp [h1, h2])).trans (if_neg (by simpa using h3)))]
      exact ⟨H.only, x.1, x.2, rfl, H.atQ 4 (wr := true) (A := aoB (encR r).2 x.1) (Q := fun w' => Bs w' w.heap.size x.1 (encR r).2 x.2) (st := bs_st) (by kernel_rfl)⟩
  · have k1 : r.kind = 9 := by simpa using k1
    refine Hs.rung0 [3] 300 (fun _ => by kernel_rfl) ?_
    refine Hs.cond false (by kernel_rfl) (fun h => by cases h) (fun _ => ?_)
    refine Hs.run0 300 (fun _ => by kernel_rfl) ?_
    refine Hs.bool 25 c.told (by kernel_rfl) (fun h1 => ?_) (fun h1 => ?_)
    · refine Hs.rung0 [2] 300 (fun _ => by kernel_rfl) ?_
      refine Hs.cond true (by kernel_rfl) (fun _ => ?_) (fun h => by cases h)
      refine Hs.run0 300 (fun _ => by kernel_rfl) ?_
      exact Hs.ret (v := .tuple #[c.val, omV om0 none 0, .int .i64 9]) Tryz.func21 (by kernel_rfl) fun w' H => by rw [show tellC c r = _ from (if_neg (by omega)).trans (if_pos (.inl h1))]; exact ⟨H.only, none, 0, rfl, Bs.none _ _⟩
    refine Hs.rung0 [2] 300 (fun _ => by kernel_rfl) ?_
    refine Hs.cond c.sClose (by kernel_rfl) (fun h2 => ?_) (fun h2 => ?_)
    · refine Hs.run0 300 (fun _ => by kernel_rfl) ?_
      exact Hs.ret (v := .tuple #[c.val, omV om0 none 0, .int .i64 9]) Tryz.func21 (by kernel_rfl) fun w' H => by rw [show tellC c r = _ from (if_neg (by omega)).trans (if_pos (.inr h2))]; exact ⟨H.only, none, 0, rfl, Bs.none _ _⟩
    refine Hs.run0 300 (fun _ => by kernel_rfl) ?_
    refine Hs.callQ (X := Option Addr × Nat) (fun x => aoB (encR r).2 x.1) (fun x => .tuple #[.string (encName r), .slice x.1 (encR r).2.length x.2, .int .i64 (encR r).1]) (fun x w' => Bs w' w.heap.size x.1 (encR r).2 x.2) (fun x => bs_st) (fun w' H => (rencode_any r w' (hr.only H.only) hs hv hl).mono (by
      rintro e w2 ⟨O, v, rfl, hO⟩
      obtain ⟨A, cap, rfl, hB⟩ := ownB_bs hO O.size
      exact ⟨(A, cap), rfl, O, hB.mono H.only.size, bs_new hB⟩)) (by kernel_rfl) (by kernel_rfl) fun x => ?_
    refine Hs.run0 300 (fun _ => by kernel_rfl) ?_
    refine Hs.cond ((encR r).1 != 0) (by kernel_rfl) (fun h3 => ?_) (fun h3 => ?_)
    · refine Hs.run0 300 (fun _ => by kernel_rfl) ?_
      exact Hs.ret (v := .tuple #[c.val, omV om0 none 0, .int .i64 (encR r).1]) Tryz.func21 (by kernel_rfl) fun w' H => by rw [show tellC c r = _ from (if_neg (by omega)).trans ((if_neg (by simp [h1, h2])).trans (if_pos (by simpa using h3)))]; exact ⟨H.only, none, 0, rfl, Bs.none _ _⟩
    refine Hs.run0 300 (fun _ => by kernel_rfl) ?_
    refine Hs.callV (fun w _ => chMsg_any { c with told := true } 98 w) (by kernel_rfl) ?_
    refine Hs.run1 300 (fun _ => by kernel_rfl) fun b0 => ?_
    refine Hs.any [0, 5] (by kernel_rfl) ?_
    refine Hs.run0 300 (fun _ => by kernel_rfl) ?_
    refine Hs.ret (v := .tuple #[CH.val { c with told := true }, omV ⟨98, c.rem, 0, 0, encName r, (encR r).2⟩ x.1 x.2, .int .i64 0]) Tryz.func21 (by kernel_rfl) fun w' H => ?_
    rw [show tellC c r = _ from (if_neg (by omega)).trans ((if_neg (by simp [h1, h2])).trans (if_neg (by simpa using h3)))]
    exact ⟨H.only, x.1, x.2, rfl, H.atQ 4 (wr := true) (A := aoB (encR r).2 x.1) (Q := fun w' => Bs w' w.heap.size x.1 (encR r).2 x.2) (st := bs_st) (by kernel_rfl)⟩
end Go.Proofs.YtpojfcpeibnohaaGreatDoor

namespace Go.Proofs.YtpojfcpeibnohaaGreatDoor
set_option linter.all false
set_option maxRecDepth 100000
open Go.RowKit

/-- A step. -/
structure OPD where
  kind : Int
  n : Int
  m : MD
  r : RQ
  bA : Option Addr
  bc : Nat
  b : List Int
  on : Bool
def OPD.sc (o : OPD) : List SC := .v (.int .i64 o.kind) :: .v (.int .i64 o.n) :: (o.m.sc ++ (o.r.sc ++ [.v (.slice o.bA o.b.length o.bc), .v (.bool o.on)]))
def MD.cells (m : MD) : List Value := [.int .i64 m.kind, .int .u32 m.chan, .int .u32 m.sender, .int .u32 m.window, .int .u32 m.packet, .int .u32 m.code, .string m.name, .string m.lang, .bool m.want, .slice m.dA m.data.length m.dc]
def OPD.cells (o : OPD) : List Value := .int .i64 o.kind :: .int .i64 o.n :: (o.m.cells ++ (o.r.cells ++ [.slice o.bA o.b.length o.bc, .bool o.on]))
def OPD.val (o : OPD) : Value := .agg o.cells.toArray
structure OPD.ok (w : World) (o : OPD) : Prop where
  n : -9223372036854775808 ≤ o.n ∧ o.n ≤ 9223372036854775807
  m : o.m.ok w
  r : o.r.ok w
  b : RdG (.int .u8) w o.bA o.b
  bl : o.b.length ≤ o.bc
  bm : o.bc ≤ maxLen
  bytes : ∀ x ∈ o.b, 0 ≤ x ∧ x < 256
theorem MD.ok.only {w w' : World} {m : MD} (h : m.ok w) (hb : Only [] w w') : m.ok w' := { h with data := h.data.only hb }
theorem OPD.ok.only {w w' : World} {o : OPD} (h : o.ok w) (hb : Only [] w w') : o.ok w' := { h with m := h.m.only hb, r := h.r.only hb, b := h.b.only hb }
def doC (c : CH) (o : OPD) : CH × OM × Int :=
  if o.kind = 1 then ((recvC c o.m.kind o.m.window o.m.want o.m.data.length).1, om0, (recvC c o.m.kind o.m.window o.m.want o.m.data.length).2)
  else if o.kind = 2 then dataC c (IntKind.u32.wrap o.n) o.b
  else if o.kind = 3 then replyC c o.on
  else if o.kind = 4 then grantC c o.n
  else if o.kind = 5 then tellC c o.r
  else if o.kind = 6 then eofC c
  else if o.kind = 7 then closeC c
  else (c, om0, 0)
/-- Bounds that memory keeps. -/
def OPD.small (o : OPD) : Prop := o.r.text.size ≤ 140737488355328 ∧ o.r.value.size ≤ 140737488355328 ∧ o.r.lang.size ≤ 140737488355328
theorem stepO_q {P : Program} {F : FuncId} {args : Array Value} {w w' : World} {r : CH × OM × Int} (hw : w.heap.size ≤ w'.heap.size) (h : Calls P F args w' (StepO w' r)) : Calls P F args w' fun e w2 => ∃ x : Option Addr × Nat, e = .returned (.tuple #[r.1.val, omV r.2.1 x.1 x.2, .int .i64 r.2.2]) ∧ Only [] w' w2 ∧ Bs w2 w.heap.size x.1 r.2.1.data x.2 ∧ ∀ a, aoB r.2.1.data x.1 = some a → w'.heap.size ≤ a.block ∧ a.block < w2.heap.size :=
  h.mono (by
    rintro e w2 ⟨O, A, cap, rfl, hB⟩
    exact ⟨(A, cap), rfl, O, hB.mono hw, bs_new hB⟩)
theorem StepO.none {w w' : World} {r : CH × OM × Int} (O : Only [] w w') (hd : r.2.1.data = []) : StepO w r (.returned (.tuple #[r.1.val, omV r.2.1 none 0, .int .i64 r.2.2])) w' :=
  ⟨O, Option.none, 0, rfl, by rw [hd]; exact Bs.none _ _⟩
theorem grantC_data (c : CH) (n : Int) : (grantC c n).2.1.data = [] := by unfold grantC; split <;> rfl
theorem grantC_code (c : CH) (n : Int) : (grantC c n).2.2 = 0 ∨ (grantC c n).2.2 = 1 := by unfold grantC; split; exact .inr rfl; exact .inl rfl
set_option maxHeartbeats 1000000 in
theorem chDo_any (c : CH) (o : OPD) (w : World) (hc : c.ok) (ho : o.ok w) (hsm : o.small) : Calls Tryz.prog 8 #[c.val, o.val] w (StepO w (doC c o)) := by
  refine Hs.enter Tryz.func8 [] [] [] [.g c.sc, .g o.sc] (Mem.start0 w) (by kernel_rfl) (by kernel_rfl) ?_
  refine Hs.run5 300 (fun _ => by kernel_rfl) fun b0 b1 b2 b3 b4 => ?_
  refine Hs.cond (o.kind == 1) (by kernel_rfl) (fun hk => ?_) (fun hk => ?_)
  · have hk : o.kind = 1 := by simpa using hk
    refine Hs.run0 300 (fun _ => by kernel_rfl) ?_
    refine Hs.callV (v := .tuple #[(recvC c o.m.kind o.m.window o.m.want o.m.data.length).1.val, .int .i64 (recvC c o.m.kind o.m.window o.m.want o.m.data.length).2]) (fun w' H => chRecv_any c o.m w' hc ho.m.nums.2.2.1 (Nat.le_trans ho.m.dle ho.m.dmax)) (by kernel_rfl) ?_
    refine Hs.run0 300 (fun _ => by kernel_rfl) ?_
    refine Hs.any [0, 4] (by kernel_rfl) ?_
    refine Hs.run0 300 (fun _ => by kernel_rfl) ?_
    refine Hs.ret (v := .tuple #[(recvC c o.m.kind o.m.window o.m.want o.m.data.length).1.val, omV om0 none 0, .int .i64 (recvC c o.m.kind o.m.window o.m.want o.m.data.length).2]) Tryz.func8 (by kernel_rfl) fun w' H => ?_
    rw [show doC c o = _ from if_pos hk]
    exact StepO.none H.only rfl
  have n1 : ¬ o.kind = 1 := by simpa using hk
  clear hk
  refine Hs.run0 300 (fun _ => by kernel_rfl) ?_
  refine Hs.cond (o.kind == 2) (by kernel_rfl) (fun hk => ?_) (fun hk => ?_)
  · have hk : o.kind = 2 := by simpa using hk
    refine Hs.run0 300 (fun _ => by kernel_rfl) ?_
    refine Hs.callQ (X := Option Addr × Nat) (fun x => aoB (dataC c (IntKind.u32.wrap o.n) o.b).2.1.data x.1) (fun x => .tuple #[(dataC c (IntKind.u32.wrap o.n) o.b).1.val, omV (dataC c (IntKind.u32.wrap o.n) o.b).2.1 x.1 x.2, .int .i64 (dataC c (IntKind.u32.wrap o.n) o.b).2.2]) (fun x w' => Bs w' w.heap.size x.1 (dataC c (IntKind.u32.wrap o.n) o.b).2.1.data x.2) (fun x => bs_st) (fun w' H => stepO_q H.only.size (chData2_any c (IntKind.u32.wrap o.n) o.bA o.b o.bc w' hc (ho.b.only H.only))) (by kernel_rfl) (by kernel_rfl) fun x => ?_
    refine Hs.run0 300 (fun _ => by kernel_rfl) ?_
    refine Hs.any [0, 4] (by kernel_rfl) ?_
    refine Hs.run0 300 (fun _ => by kernel_rfl) ?_
    refine Hs.ret (v := .tuple #[(dataC c (IntKind.u32.wrap o.n) o.b).1.val, omV (dataC c (IntKind.u32.wrap o.n) o.b).2.1 x.1 x.2, .int .i64 (dataC c (IntKind.u32.wrap o.n) o.b).2.2]) Tryz.func8 (by kernel_rfl) fun w' H => ?_
    rw [show doC c o = _ from (if_neg (by omega)).trans (if_pos hk)]
    exact ⟨H.only, x.1, x.2, rfl, H.atQ 5 (wr := true) (A := aoB (dataC c (IntKind.u32.wrap o.n) o.b).2.1.data x.1) (Q := fun w' => Bs w' w.heap.size x.1 (dataC c (IntKind.u32.wrap o.n) o.b).2.1.data x.2) (st := bs_st) (by kernel_rfl)⟩
  have n2 : ¬ o.kind = 2 := by simpa using hk
  clear hk
  refine Hs.run0 300 (fun _ => by kernel_rfl) ?_
  refine Hs.cond (o.kind == 3) (by kernel_rfl) (fun hk => ?_) (fun hk => ?_)
  · have hk : o.kind = 3 := by simpa using hk
    refine Hs.run0 300 (fun _ => by kernel_rfl) ?_
    refine Hs.callQ (X := Option Addr × Nat) (fun x => aoB (replyC c o.on).2.1.data x.1) (fun x => .tuple #[(replyC c o.on).1.val, omV (replyC c o.on).2.1 x.1 x.2, .int .i64 (replyC c o.on).2.2]) (fun x w' => Bs w' w.heap.size x.1 (replyC c o.on).2.1.data x.2) (fun x => bs_st) (fun w' H => stepO_q H.only.size (chReply_any c o.on w')) (by kernel_rfl) (by kernel_rfl) fun x => ?_
    refine Hs.run0 300 (fun _ => by kernel_rfl) ?_
    refine Hs.any [0, 4] (by kernel_rfl) ?_
    refine Hs.run0 300 (fun _ => by kernel_rfl) ?_
    refine Hs.ret (v := .tuple #[(replyC c o.on).1.val, omV (replyC c o.on).2.1 x.1 x.2, .int .i64 (replyC c o.on).2.2]) Tryz.func8 (by kernel_rfl) fun w' H => ?_
    rw [show doC c o = _ from (if_neg (by omega)).trans ((if_neg (by omega)).trans (if_pos hk))]
    exact ⟨H.only, x.1, x.2, rfl, H.atQ 5 (wr := true) (A := aoB (replyC c o.on).2.1.data x.1) (Q := fun w' => Bs w' w.heap.size x.1 (replyC c o.on).2.1.data x.2) (st := bs_st) (by kernel_rfl)⟩
  have n3 : ¬ o.kind = 3 := by simpa using hk
  clear hk
  refine Hs.run0 300 (fun _ => by kernel_rfl) ?_
  refine Hs.cond (o.kind == 4) (by kernel_rfl) (fun hk => ?_) (fun hk => ?_)
  · have hk : o.kind = 4 := by simpa using hk
    refine Hs.run0 300 (fun _ => by kernel_rfl) ?_
    refine Hs.callV (v := .tuple #[(grantC c o.n).1.val, omV (grantC c o.n).2.1 none 0, .bool (decide ((grantC c o.n).2.2 = 0))]) (fun w' H => chGrant_any c o.n w' hc ho.n) (by kernel_rfl) ?_
    refine Hs.run0 300 (fun _ => by kernel_rfl) ?_
    refine Hs.cond (!decide ((grantC c o.n).2.2 = 0)) (by kernel_rfl) (fun h2 => ?_) (fun h2 => ?_)
    · have h2 : (grantC c o.n).2.2 = 1 := (grantC_code c o.n).resolve_left (by simpa using h2)
      refine Hs.run0 300 (fun _ => by kernel_rfl) ?_
      refine Hs.any [0, 4] (by kernel_rfl) ?_
      refine Hs.run0 300 (fun _ => by kernel_rfl) ?_
      refine Hs.ret (v := .tuple #[(grantC c o.n).1.val, omV (grantC c o.n).2.1 none 0, .int .i64 1]) Tryz.func8 (by kernel_rfl) fun w' H => ?_
      rw [show doC c o = _ from (if_neg (by omega)).trans ((if_neg (by omega)).trans ((if_neg (by omega)).trans (if_pos hk)))]
      have := StepO.none (r := grantC c o.n) H.only (grantC_data c o.n)
      rw [h2] at this
      exact this
    · have h2 : (grantC c o.n).2.2 = 0 := by simpa using h2
      refine Hs.run0 300 (fun _ => by kernel_rfl) ?_
      refine Hs.any [0, 4] (by kernel_rfl) ?_
      refine Hs.run0 300 (fun _ => by kernel_rfl) ?_
      refine Hs.ret (v := .tuple #[(grantC c o.n).1.val, omV (grantC c o.n).2.1 none 0, .int .i64 0]) Tryz.func8 (by kernel_rfl) fun w' H => ?_
      rw [show doC c o = _ from (if_neg (by omega)).trans ((if_neg (by omega)).trans ((if_neg (by omega)).trans (if_pos hk)))]
      have := StepO.none (r := grantC c o.n) H.only (grantC_data c o.n)
      rw [h2] at this
      exact this
  have n4 : ¬ o.kind = 4 := by simpa using hk
  clear hk
  refine Hs.run0 300 (fun _ => by kernel_rfl) ?_
  refine Hs.cond (o.kind == 5) (by kernel_rfl) (fun hk => ?_) (fun hk => ?_)
  · have hk : o.kind = 5 := by simpa using hk
    refine Hs.run0 300 (fun _ => by kernel_rfl) ?_
    refine Hs.callQ (X := Option Addr × Nat) (fun x => aoB (tellC c o.r).2.1.data x.1) (fun x => .tuple #[(tellC c o.r).1.val, omV (tellC c o.r).2.1 x.1 x.2, .int .i64 (tellC c o.r).2.2]) (fun x w' => Bs w' w.heap.size x.1 (tellC c o.r).2.1.data x.2) (fun x => bs_st) (fun w' H => stepO_q H.only.size (chTell_any c o.r w' (ho.r.only H.only) hsm.1 hsm.2.1 hsm.2.2)) (by kernel_rfl) (by kernel_rfl) fun x => ?_
    refine Hs.run0 300 (fun _ => by kernel_rfl) ?_
    refine Hs.any [0, 4] (by kernel_rfl) ?_
    refine Hs.run0 300 (fun _ => by kernel_rfl) ?_
    refine Hs.ret (v := .tuple #[(tellC c o.r).1.val, omV (tellC c o.r).2.1 x.1 x.2, .int .i64 (tellC c o.r).2.2]) Tryz.func8 (by kernel_rfl) fun w' H => ?_
    rw [show doC c o = _ from (if_neg (by omega)).trans ((if_neg (by omega)).trans ((if_neg (by omega)).trans ((if_neg (by omega)).trans (if_pos hk))))]
    exact ⟨H.only, x.1, x.2, rfl, H.atQ 5 (wr := true) (A := aoB (tellC c o.r).2.1.data x.1) (Q := fun w' => Bs w' w.heap.size x.1 (tellC c o.r).2.1.data x.2) (st := bs_st) (by kernel_rfl)⟩
  have n5 : ¬ o.kind = 5 := by simpa using hk
  clear hk
  refine Hs.run0 300 (fun _ => by kernel_rfl) ?_
  refine Hs.cond (o.kind == 6) (by kernel_rfl) (fun hk => ?_) (fun hk => ?_)
  · have hk : o.kind = 6 := by simpa using hk
    refine Hs.run0 300 (fun _ => by kernel_rfl) ?_
    refine Hs.callQ (X := Option Addr × Nat) (fun x => aoB (eofC c).2.1.data x.1) (fun x => .tuple #[(eofC c).1.val, omV (eofC c).2.1 x.1 x.2, .int .i64 (eofC c).2.2]) (fun x w' => Bs w' w.heap.size x.1 (eofC c).2.1.data x.2) (fun x => bs_st) (fun w' H => stepO_q H.only.size (chSendEof_any c w')) (by kernel_rfl) (by kernel_rfl) fun x => ?_
    refine Hs.run0 300 (fun _ => by kernel_rfl) ?_
    refine Hs.any [0, 4] (by kernel_rfl) ?_
    refine Hs.run0 300 (fun _ => by kernel_rfl) ?_
    refine Hs.ret (v := .tuple #[(eofC c).1.val, omV (eofC c).2.1 x.1 x.2, .int .i64 (eofC c).2.2]) Tryz.func8 (by kernel_rfl) fun w' H => ?_
    rw [show doC c o = _ from (if_neg (by omega)).trans ((if_neg (by omega)).trans ((if_neg (by omega)).trans ((if_neg (by omega)).trans ((if_neg (by omega)).trans (if_pos hk)))))]
    exact ⟨H.only, x.1, x.2, rfl, H.atQ 5 (wr := true) (A := aoB (eofC c).2.1.data x.1) (Q := fun w' => Bs w' w.heap.size x.1 (eofC c).2.1.data x.2) (st := bs_st) (by kernel_rfl)⟩
  have n6 : ¬ o.kind = 6 := by simpa using hk
  clear hk
  refine Hs.run0 300 (fun _ => by kernel_rfl) ?_
  refine Hs.cond (o.kind == 7) (by kernel_rfl) (fun hk => ?_) (fun hk => ?_)
  · have hk : o.kind = 7 := by simpa using hk
    refine Hs.run0 300 (fun _ => by kernel_rfl) ?_
    refine Hs.callQ (X := Option Addr × Nat) (fun x => aoB (closeC c).2.1.data x.1) (fun x => .tuple #[(closeC c).1.val, omV (closeC c).2.1 x.1 x.2, .int .i64 (closeC c).2.2]) (fun x w' => Bs w' w.heap.size x.1 (closeC c).2.1.data x.2) (fun x => bs_st) (fun w' H => stepO_q H.only.size (chSendClose_any c w')) (by kernel_rfl) (by kernel_rfl) fun x => ?_
    refine Hs.run0 300 (fun _ => by kernel_rfl) ?_
    refine Hs.any [0, 4] (by kernel_rfl) ?_
    refine Hs.run0 300 (fun _ => by kernel_rfl) ?_
    refine Hs.ret (v := .tuple #[(closeC c).1.val, omV (closeC c).2.1 x.1 x.2, .int .i64 (closeC c).2.2]) Tryz.func8 (by kernel_rfl) fun w' H => ?_
    rw [show doC c o = _ from (if_neg (by omega)).trans ((if_neg (by omega)).trans ((if_neg (by omega)).trans ((if_neg (by omega)).trans ((if_neg (by omega)).trans ((if_neg (by omega)).trans (if_pos hk))))))]
    exact ⟨H.only, x.1, x.2, rfl, H.atQ 5 (wr := true) (A := aoB (closeC c).2.1.data x.1) (Q := fun w' => Bs w' w.heap.size x.1 (closeC c).2.1.data x.2) (st := bs_st) (by kernel_rfl)⟩
  have n7 : ¬ o.kind = 7 := by simpa using hk
  clear hk
  refine Hs.run0 300 (fun _ => by kernel_rfl) ?_
  refine Hs.any [0, 4] (by kernel_rfl) ?_
  refine Hs.run0 300 (fun _ => by kernel_rfl) ?_
  refine Hs.ret (v := .tuple #[c.val, omV om0 none 0, .int .i64 0]) Tryz.func8 (by kernel_rfl) fun w' H => ?_
  rw [show doC c o = (c, om0, 0) from (if_neg (by omega)).trans ((if_neg (by omega)).trans ((if_neg (by omega)).trans ((if_neg (by omega)).trans ((if_neg (by omega)).trans ((if_neg (by omega)).trans (if_neg (by omega)))))))]
  exact StepO.none H.only rfl
theorem chTo_any (c : CH) (w : World) : Calls Tryz.prog 10 #[c.val] w fun e w' => e = .returned c.val ∧ Only [] w w' := by
  refine Hs.enter Tryz.func10 [] [] [] [.g c.sc] (Mem.start0 w) (by kernel_rfl) (by kernel_rfl) ?_
  refine Hs.run2 300 (fun _ => by kernel_rfl) fun b0 b1 => ?_
  exact Hs.ret (v := c.val) Tryz.func10 (by kernel_rfl) fun w' H => ⟨rfl, H.only⟩
theorem chFrom_any (c : CH) (w : World) : Calls Tryz.prog 9 #[c.val] w fun e w' => e = .returned c.val ∧ Only [] w w' := by
  refine Hs.enter Tryz.func9 [] [] [] [.g c.sc] (Mem.start0 w) (by kernel_rfl) (by kernel_rfl) ?_
  refine Hs.run2 300 (fun _ => by kernel_rfl) fun b0 b1 => ?_
  exact Hs.ret (v := c.val) Tryz.func9 (by kernel_rfl) fun w' H => ⟨rfl, H.only⟩
end Go.Proofs.YtpojfcpeibnohaaGreatDoor

/- Layer 25: the document's example; no condition. -/
import Derived.Test.YtpojfcpeibnohaaGreatDoorChJ
namespace Go.Proofs.YtpojfcpeibnohaaGreatDoor
set_option linter.all false
set_option maxRecDepth 100000
open Go.RowKit

theorem rd_blk {w : World} {b T : Nat} {l : List Int} (h : Blk w b T (l.map (.int .u8))) : Rd w (some ⟨b, 0, none⟩) l := fun _ =>
  ⟨b, 0, rfl, h.lt, fun i v hi => by rw [h.cell]; simp [hi]⟩
theorem rd_st {A : Option Addr} {l : List Int} (w w' : World) (h1 : ∀ a, A = some a → w'.heap[a.block]? = w.heap[a.block]?) (h2 : w.heap.size ≤ w'.heap.size) (h : Rd w A l) : Rd w' A l := fun h0 => by
  obtain ⟨b, off, rfl, hlt, hc⟩ := h h0
  exact ⟨b, off, rfl, by omega, fun i v hi => (World.cell?_of_block (w := w) (show w'.heap[b]? = w.heap[b]? from h1 _ rfl)).trans (hc i v hi)⟩
/-- []byte of a literal: the block is marked, and reads as it did. -/
theorem run_mark {P : Program} {T E : TypeId} {w : World} {b n : Nat} {l : List Int} (hT : P.underlying T = some (.slice E)) (hE : P.underlying E = some (.int .u8)) (hB : Blk w b E (l.map (.int .u8))) : ∃ w', (convert T T (.slice (some ⟨b, 0, none⟩) n n)).run P w = .ok (.slice (some ⟨b, 0, none⟩) n n) w' ∧ Only [b] w w' ∧ Rd w' (some ⟨b, 0, none⟩) l ∧ b < w'.heap.size := by
  have hlt := hB.lt
  have hs : w.shape? b = some (E, (l.map (Value.int .u8)).length) := by
    unfold World.shape?
    rw [show w.heap[b]? = _ from hB]
    simp
  refine ⟨w.freeze ⟨b, (l.map (Value.int .u8)).length, none⟩ 1, ?_, ?_, ?_, ?_⟩
  · simp [convert, run_underlying hT, run_underlying hE, markStringish, hs]
  · refine ⟨rfl, rfl, rfl, by simp [World.freeze], fun k hk hn => ?_⟩
    simp only [List.mem_singleton] at hn
    simp [World.freeze, Array.getElem?_modify, Ne.symm hn]
  · intro _
    refine ⟨b, 0, rfl, by simpa [World.freeze] using hlt, fun i v hi => ?_⟩
    have h0 : w.heap[b]? = some (.cells (l.map (Value.int .u8)).toArray E (0, 0)) := hB
    simp [World.freeze, World.cell?, Array.getElem?_modify, h0, hi]
  · simpa [World.freeze] using hlt
section
variable {P : Program} {f : FuncId} {R : Ending → World → Prop} {n : Nat} {w0 : World} {L : List Nat} {β : List Nat} {m : SM}
theorem Hs.mark (k : Nat) (T E : TypeId) (l : List Int) (nl : Nat) (hT : P.underlying T = some (.slice E)) (hE : P.underlying E = some (.int .u8)) (hs : semOf n β m = some (valS (convert T T (.slice (some ⟨nm β k, 0, none⟩) nl nl)))) (hk : m.hp[k]? = some (.b true E (l.map fun x => .v (.int .u8 x)))) (hrd : (rdOf m).contains k = false)
    (h : Hs P f R n w0 L β (m.put (dstOf m) (.c (.v (.slice (some ⟨nm β k, 0, none⟩) nl nl))) (m.hp.set k (.q true (some ⟨nm β k, 0, none⟩) (fun w => Rd w (some ⟨nm β k, 0, none⟩) l) rd_st)))) : Hs P f R n w0 L β m := by
  have hkl := (List.getElem?_eq_some_iff.1 hk).1
  refine Hs.opW hs fun w H W => ?_
  have hB : Blk w (nm β k) E (l.map (.int .u8)) := by
    have := H.at k hk
    have e : dens β (l.map fun x => SC.v (.int .u8 x)) = l.map (.int .u8) := by simp [dens, SC.den, Function.comp_def]
    rw [e] at this; exact this
  obtain ⟨w', h1, h2, h3, h4⟩ := run_mark (n := nl) hT hE hB
  refine ⟨[], .c (.v (.slice (some ⟨nm β k, 0, none⟩) nl nl)), _, w', h1, ?_, ?_, fun i hi b hb => ?_, by rw [List.append_nil]; exact h⟩
  · rw [List.append_nil]
    refine H.swap k hk h2 (fun x hx => by simp only [List.mem_singleton] at hx; subst hx; rfl) rfl ?_ (fun x hx => .inl hx)
    exact ⟨h3, fun a ha => (by injection ha with ha; subst ha; exact h4)⟩
  · simp only [SV.wf, SC.wf, Bool.true_and, Bool.and_eq_true, Nat.ble_eq, List.length_set]
    refine ⟨Nat.le_refl _, List.all_eq_true.2 fun x hx => ?_⟩
    rcases List.mem_or_eq_of_mem_set hx with hx | rfl
    · exact List.all_eq_true.1 (SM.wf_hp W) x hx
    · rfl
  · rw [List.getElem?_set, if_neg (fun e => by
      subst e
      simp at hrd
      exact hrd hi)]
    exact hb
end
def al0 : CH := ⟨0, 0, 5, 3, 0, 0, false, false, false, false, 0, false⟩
def al1 : CH := { al0 with left := 2 }
def al2 : CH := { al0 with left := 0 }
def al3 : CH := { al2 with sEof := true }
theorem al0_ok : al0.ok := by constructor <;> first | decide | (unfold U32; decide)
theorem al1_ok : al1.ok := by constructor <;> first | decide | (unfold U32; decide)
theorem al2_ok : al2.ok := by constructor <;> first | decide | (unfold U32; decide)
theorem al3_ok : al3.ok := by constructor <;> first | decide | (unfold U32; decide)
theorem alive25_any (w : World) : Calls Tryz.prog 6 #[] w fun e w' => e = .returned (.bool true) ∧ Only [] w w' := by
  refine Hs.enter Tryz.func6 [] [] [] [] (Mem.start0 w) (by kernel_rfl) (by kernel_rfl) ?_
  refine Hs.run2 300 (fun _ => by kernel_rfl) fun b0 b1 => ?_
  refine Hs.mark 1 33 5 [97, 98, 99, 100] 4 Tryz.underlying33 Tryz.underlying5 (by kernel_rfl) (by kernel_rfl) (by kernel_rfl) ?_
  refine Hs.callQ (X := Option Addr × Nat) (fun x => aoB (dataC al0 0 [97, 98, 99, 100]).2.1.data x.1) (fun x => .tuple #[(dataC al0 0 [97, 98, 99, 100]).1.val, omV (dataC al0 0 [97, 98, 99, 100]).2.1 x.1 x.2, .int .i64 (dataC al0 0 [97, 98, 99, 100]).2.2]) (fun x w' => Bs w' w.heap.size x.1 (dataC al0 0 [97, 98, 99, 100]).2.1.data x.2) (fun x => bs_st) (fun w' H => stepO_q H.only.size (chData2_any al0 0 (some ⟨b1, 0, none⟩) [97, 98, 99, 100] 4 w' al0_ok (H.atQ 1 (wr := true) (A := some ⟨b1, 0, none⟩) (Q := fun w => Rd w (some ⟨b1, 0, none⟩) [97, 98, 99, 100]) (st := rd_st) (by kernel_rfl)))) (by kernel_rfl) (by kernel_rfl) fun x1 => ?_
  refine Hs.run3 300 (fun _ => by kernel_rfl) fun b2 b3 b4 => ?_
  refine Hs.mark 5 33 5 [97, 98, 99] 3 Tryz.underlying33 Tryz.underlying5 (by kernel_rfl) (by kernel_rfl) (by kernel_rfl) ?_
  refine Hs.callQ (X := Option Addr × Nat) (fun x => aoB (dataC al0 0 [97, 98, 99]).2.1.data x.1) (fun x => .tuple #[(dataC al0 0 [97, 98, 99]).1.val, omV (dataC al0 0 [97, 98, 99]).2.1 x.1 x.2, .int .i64 (dataC al0 0 [97, 98, 99]).2.2]) (fun x w' => Bs w' w.heap.size x.1 (dataC al0 0 [97, 98, 99]).2.1.data x.2) (fun x => bs_st) (fun w' H => stepO_q H.only.size (chData2_any al0 0 (some ⟨b4, 0, none⟩) [97, 98, 99] 3 w' al0_ok (H.atQ 5 (wr := true) (A := some ⟨b4, 0, none⟩) (Q := fun w => Rd w (some ⟨b4, 0, none⟩) [97, 98, 99]) (st := rd_st) (by kernel_rfl)))) (by kernel_rfl) (by kernel_rfl) fun x2 => ?_
  refine Hs.run2 300 (fun _ => by kernel_rfl) fun b5 b6 => ?_
  refine Hs.mark 8 33 5 [100, 101] 2 Tryz.underlying33 Tryz.underlying5 (by kernel_rfl) (by kernel_rfl) (by kernel_rfl) ?_
  refine Hs.callQ (X := Option Addr × Nat) (fun x => aoB (dataC al1 1 [100, 101]).2.1.data x.1) (fun x => .tuple #[(dataC al1 1 [100, 101]).1.val, omV (dataC al1 1 [100, 101]).2.1 x.1 x.2, .int .i64 (dataC al1 1 [100, 101]).2.2]) (fun x w' => Bs w' w.heap.size x.1 (dataC al1 1 [100, 101]).2.1.data x.2) (fun x => bs_st) (fun w' H => stepO_q H.only.size (chData2_any al1 1 (some ⟨b6, 0, none⟩) [100, 101] 2 w' al1_ok (H.atQ 8 (wr := true) (A := some ⟨b6, 0, none⟩) (Q := fun w => Rd w (some ⟨b6, 0, none⟩) [100, 101]) (st := rd_st) (by kernel_rfl)))) (by kernel_rfl) (by kernel_rfl) fun x3 => ?_
  refine Hs.run1 300 (fun _ => by kernel_rfl) fun b7 => ?_
  refine Hs.callQ (X := Option Addr × Nat) (fun x => aoB (eofC al2).2.1.data x.1) (fun x => .tuple #[(eofC al2).1.val, omV (eofC al2).2.1 x.1 x.2, .int .i64 (eofC al2).2.2]) (fun x w' => Bs w' w.heap.size x.1 (eofC al2).2.1.data x.2) (fun x => bs_st) (fun w' H => stepO_q H.only.size (chSendEof_any al2 w')) (by kernel_rfl) (by kernel_rfl) fun x4 => ?_
  refine Hs.run1 300 (fun _ => by kernel_rfl) fun b8 => ?_
  refine Hs.callQ (X := Option Addr × Nat) (fun x => aoB (dataC al3 0 []).2.1.data x.1) (fun x => .tuple #[(dataC al3 0 []).1.val, omV (dataC al3 0 []).2.1 x.1 x.2, .int .i64 (dataC al3 0 []).2.2]) (fun x w' => Bs w' w.heap.size x.1 (dataC al3 0 []).2.1.data x.2) (fun x => bs_st) (fun w' H => stepO_q H.only.size (chData2_any al3 0 none [] 0 w' al3_ok (fun h => absurd h (Nat.lt_irrefl _)))) (by kernel_rfl) (by kernel_rfl) fun x5 => ?_
  refine Hs.rung2 [2, 6, 11, 15, 19] 300 (fun _ => by kernel_rfl) fun b9 b10 => ?_
  exact Hs.ret (v := .bool true) Tryz.func6 (by kernel_rfl) fun w' H => ⟨rfl, H.only⟩
end Go.Proofs.YtpojfcpeibnohaaGreatDoor

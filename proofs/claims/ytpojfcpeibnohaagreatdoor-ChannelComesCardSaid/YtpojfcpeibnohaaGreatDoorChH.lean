/- Layer 25: what is sent; no condition · Layer 25: data that goes out, what lets more come; no condition. -/
import Derived.Test.YtpojfcpeibnohaaGreatDoorChF
import Derived.Test.YtpojfcpeibnohaaGreatDoorEngF
import Derived.Test.YtpojfcpeibnohaaGreatDoorOctG
namespace Go.Proofs.YtpojfcpeibnohaaGreatDoor
set_option linter.all false
set_option maxRecDepth 100000
open Go.RowKit

/-- What is sent. -/
structure OM where
  kind : Int
  chan : Int
  window : Int
  code : Int
  name : ByteArray
  data : List Int
def om0 : OM := ⟨0, 0, 0, 0, ⟨#[]⟩, []⟩
def omK (c : CH) (k : Int) : OM := ⟨k, c.rem, 0, 0, ⟨#[]⟩, []⟩
def omV (o : OM) (A : Option Addr) (cap : Nat) : Value := .agg #[.int .i64 o.kind, .int .u32 o.chan, .int .u32 0, .int .u32 o.window, .int .u32 0, .int .u32 o.code, .string o.name, .string ⟨#[]⟩, .bool false, .slice A o.data.length cap]
def roomC (c : CH) (n : Int) : Int := if c.shut then 0 else fT c.left c.pack n
def dataC (c : CH) (code : Int) (b : List Int) : CH × OM × Int :=
  if c.shut then (c, om0, 9)
  else if sE c.left c.pack b.length ≠ 0 then (c, om0, sE c.left c.pack b.length)
  else ({ c with left := sL c.left c.pack b.length }, ⟨if code ≠ 0 then 95 else 94, c.rem, 0, code, ⟨#[]⟩, b⟩, 0)
def replyC (c : CH) (ok : Bool) : CH × OM × Int :=
  if c.owed ≤ 0 ∨ c.sClose = true then (c, om0, 9) else ({ c with owed := IntKind.i64.wrap (c.owed - 1) }, omK c (if ok then 99 else 100), 0)
def grantC (c : CH) (n : Int) : CH × OM × Int :=
  if fR c.inl c.lim n = 0 ∨ c.gEof = true ∨ c.sClose = true ∨ c.gClose = true then (c, om0, 1)
  else ({ c with inl := fL c.inl c.lim n }, ⟨93, c.rem, fR c.inl c.lim n, 0, ⟨#[]⟩, []⟩, 0)
def eofC (c : CH) : CH × OM × Int := if c.sEof = true ∨ c.sClose = true then (c, om0, 9) else ({ c with sEof := true }, omK c 96, 0)
def closeC (c : CH) : CH × OM × Int := if c.sClose = true ∨ 0 < c.owed then (c, om0, 9) else ({ c with sClose := true }, omK c 97, 0)
/-- What a step answers. -/
def StepO (w : World) (r : CH × OM × Int) : Ending → World → Prop := fun e w' => Only [] w w' ∧ ∃ A cap, e = .returned (.tuple #[r.1.val, omV r.2.1 A cap, .int .i64 r.2.2]) ∧ Bs w' w.heap.size A r.2.1.data cap
theorem Bs.none (w : World) (B : Nat) : Bs w B none [] 0 := ⟨fun h => absurd h (Nat.lt_irrefl _), Nat.le_refl _, Nat.zero_le _, fun a h => (by cases h), fun a h => (by cases h)⟩
theorem Bs.stable {B : Nat} {A : Option Addr} {l : List Int} {c : Nat} {w w' : World} (h1 : ∀ a, A = some a → w'.heap[a.block]? = w.heap[a.block]?) (h2 : w.heap.size ≤ w'.heap.size) (h : Bs w B A l c) : Bs w' B A l c := by
  refine ⟨fun h0 => ?_, h.le, h.max, h.new, fun a ha i hi => ?_⟩
  · obtain ⟨b, off, rfl, hlt, hc⟩ := h.rd h0
    exact ⟨b, off, rfl, by omega, fun i v hi => (World.cell?_of_block (w := w) (show w'.heap[b]? = w.heap[b]? from h1 _ rfl)).trans (hc i v hi)⟩
  · have := h.soft a ha i hi
    unfold World.frozen? at this ⊢
    have e : (a.add i).block = a.block := by unfold Addr.add; split <;> rfl
    rw [e] at this ⊢
    rw [h1 a ha]
    exact this
theorem Bs.mono {w : World} {B B' : Nat} {A : Option Addr} {l : List Int} {c : Nat} (h : Bs w B A l c) (hb : B' ≤ B) : Bs w B' A l c := ⟨h.rd, h.le, h.max, fun a ha => Nat.le_trans hb (h.new a ha), h.soft⟩
theorem chShut_any (c : CH) (w : World) : Calls Tryz.prog 23 #[c.val] w fun e w' => e = .returned (.bool c.shut) ∧ Only [] w w' := by
  refine Hs.enter Tryz.func23 [] [] [] [.g c.sc] (Mem.start0 w) (by kernel_rfl) (by kernel_rfl) ?_
  refine Hs.run1 300 (fun _ => by kernel_rfl) fun b0 => ?_
  have fin : ∀ b : Bool, c.shut = b → c.shut = b := fun _ h => h
  refine Hs.bool 5 c.sEof (by kernel_rfl) (fun h1 => ?_) (fun h1 => ?_)
  · refine Hs.rung0 [2] 300 (fun _ => by kernel_rfl) ?_
    refine Hs.bool 9 true (by kernel_rfl) (fun _ => ?_) (fun h => by cases h)
    refine Hs.rung0 [2, 6] 300 (fun _ => by kernel_rfl) ?_
    exact Hs.ret (v := .bool true) Tryz.func23 (by kernel_rfl) fun w' H => ⟨by simp [CH.shut, h1], H.only⟩
  · refine Hs.rung0 [2] 300 (fun _ => by kernel_rfl) ?_
    refine Hs.bool 9 c.sClose (by kernel_rfl) (fun h2 => ?_) (fun h2 => ?_)
    · refine Hs.rung0 [2, 6] 300 (fun _ => by kernel_rfl) ?_
      exact Hs.ret (v := .bool true) Tryz.func23 (by kernel_rfl) fun w' H => ⟨by simp [CH.shut, h2], H.only⟩
    · refine Hs.rung0 [2, 6] 300 (fun _ => by kernel_rfl) ?_
      exact Hs.ret (v := .bool c.gClose) Tryz.func23 (by kernel_rfl) fun w' H => ⟨by simp [CH.shut, h1, h2], H.only⟩
theorem chMsg_any (c : CH) (k : Int) (w : World) : Calls Tryz.prog 36 #[c.val, .int .i64 k] w fun e w' => e = .returned (omV (omK c k) none 0) ∧ Only [] w w' := by
  refine Hs.enter Tryz.func36 [] [] [] [.g c.sc, .c (.v (.int .i64 k))] (Mem.start0 w) (by kernel_rfl) (by kernel_rfl) ?_
  refine Hs.run2 300 (fun _ => by kernel_rfl) fun b0 b1 => ?_
  exact Hs.ret (v := omV (omK c k) none 0) Tryz.func36 (by kernel_rfl) fun w' H => ⟨rfl, H.only⟩
theorem chRoom_any (c : CH) (k : Int) (w : World) (hc : c.ok) : Calls Tryz.prog 11 #[c.val, .int .i64 k] w fun e w' => e = .returned (.int .i64 (roomC c k)) ∧ Only [] w w' := by
  refine Hs.enter Tryz.func11 [] [] [] [.g c.sc, .c (.v (.int .i64 k))] (Mem.start0 w) (by kernel_rfl) (by kernel_rfl) ?_
  refine Hs.run1 300 (fun _ => by kernel_rfl) fun b0 => ?_
  refine Hs.callV (fun w _ => chShut_any c w) (by kernel_rfl) ?_
  refine Hs.run0 300 (fun _ => by kernel_rfl) ?_
  refine Hs.cond c.shut (by kernel_rfl) (fun h => ?_) (fun h => ?_)
  · refine Hs.run0 300 (fun _ => by kernel_rfl) ?_
    exact Hs.ret (v := .int .i64 0) Tryz.func11 (by kernel_rfl) fun w' H => ⟨by unfold roomC; rw [if_pos h], H.only⟩
  · refine Hs.run0 300 (fun _ => by kernel_rfl) ?_
    refine Hs.callV (fun w _ => (fit_any c.left c.pack k w hc.left hc.pack).mono fun e w' h => ⟨h.1, only_of_below h.2⟩) (by kernel_rfl) ?_
    refine Hs.run0 300 (fun _ => by kernel_rfl) ?_
    exact Hs.ret (v := .int .i64 (fT c.left c.pack k)) Tryz.func11 (by kernel_rfl) fun w' H => ⟨by unfold roomC; rw [if_neg (by simp [h])], H.only⟩
theorem chSendEof_any (c : CH) (w : World) : Calls Tryz.prog 16 #[c.val] w (StepO w (eofC c)) := by
  refine Hs.enter Tryz.func16 [] [] [] [.g c.sc] (Mem.start0 w) (by kernel_rfl) (by kernel_rfl) ?_
  refine Hs.run3 300 (fun _ => by kernel_rfl) fun b0 b1 b2 => ?_
  refine Hs.bool 7 c.sEof (by kernel_rfl) (fun h1 => ?_) (fun h1 => ?_)
  · refine Hs.rung0 [2] 300 (fun _ => by kernel_rfl) ?_
    refine Hs.cond true (by kernel_rfl) (fun _ => ?_) (fun h => by cases h)
    refine Hs.run0 300 (fun _ => by kernel_rfl) ?_
    exact Hs.ret (v := .tuple #[c.val, omV om0 none 0, .int .i64 9]) Tryz.func16 (by kernel_rfl) fun w' H => by rw [show eofC c = _ from if_pos (.inl h1)]; exact ⟨H.only, none, 0, rfl, Bs.none _ _⟩
  · refine Hs.rung0 [2] 300 (fun _ => by kernel_rfl) ?_
    refine Hs.cond c.sClose (by kernel_rfl) (fun h2 => ?_) (fun h2 => ?_)
    · refine Hs.run0 300 (fun _ => by kernel_rfl) ?_
      exact Hs.ret (v := .tuple #[c.val, omV om0 none 0, .int .i64 9]) Tryz.func16 (by kernel_rfl) fun w' H => by rw [show eofC c = _ from if_pos (.inr h2)]; exact ⟨H.only, none, 0, rfl, Bs.none _ _⟩
    · refine Hs.run0 300 (fun _ => by kernel_rfl) ?_
      refine Hs.any [0] (by kernel_rfl) ?_
      refine Hs.run0 300 (fun _ => by kernel_rfl) ?_
      refine Hs.callV (fun w _ => chMsg_any { c with sEof := true } 96 w) (by kernel_rfl) ?_
      refine Hs.run0 300 (fun _ => by kernel_rfl) ?_
      exact Hs.ret (v := .tuple #[CH.val { c with sEof := true }, omV (omK c 96) none 0, .int .i64 0]) Tryz.func16 (by kernel_rfl) fun w' H => by rw [show eofC c = _ from if_neg (by simp [h1, h2]; try omega)]; exact ⟨H.only, none, 0, rfl, Bs.none _ _⟩
theorem chSendClose_any (c : CH) (w : World) : Calls Tryz.prog 22 #[c.val] w (StepO w (closeC c)) := by
  refine Hs.enter Tryz.func22 [] [] [] [.g c.sc] (Mem.start0 w) (by kernel_rfl) (by kernel_rfl) ?_
  refine Hs.run3 300 (fun _ => by kernel_rfl) fun b0 b1 b2 => ?_
  refine Hs.bool 7 c.sClose (by kernel_rfl) (fun h1 => ?_) (fun h1 => ?_)
  · refine Hs.rung0 [2] 300 (fun _ => by kernel_rfl) ?_
    refine Hs.cond true (by kernel_rfl) (fun _ => ?_) (fun h => by cases h)
    refine Hs.run0 300 (fun _ => by kernel_rfl) ?_
    exact Hs.ret (v := .tuple #[c.val, omV om0 none 0, .int .i64 9]) Tryz.func22 (by kernel_rfl) fun w' H => by rw [show closeC c = _ from if_pos (.inl h1)]; exact ⟨H.only, none, 0, rfl, Bs.none _ _⟩
  · refine Hs.rung0 [2] 300 (fun _ => by kernel_rfl) ?_
    refine Hs.condP (0 < c.owed) (by kernel_rfl) (fun h2 => ?_) (fun h2 => ?_)
    · refine Hs.run0 300 (fun _ => by kernel_rfl) ?_
      exact Hs.ret (v := .tuple #[c.val, omV om0 none 0, .int .i64 9]) Tryz.func22 (by kernel_rfl) fun w' H => by rw [show closeC c = _ from if_pos (.inr h2)]; exact ⟨H.only, none, 0, rfl, Bs.none _ _⟩
    · refine Hs.run0 300 (fun _ => by kernel_rfl) ?_
      refine Hs.any [0] (by kernel_rfl) ?_
      refine Hs.run0 300 (fun _ => by kernel_rfl) ?_
      refine Hs.callV (fun w _ => chMsg_any { c with sClose := true } 97 w) (by kernel_rfl) ?_
      refine Hs.run0 300 (fun _ => by kernel_rfl) ?_
      exact Hs.ret (v := .tuple #[CH.val { c with sClose := true }, omV (omK c 97) none 0, .int .i64 0]) Tryz.func22 (by kernel_rfl) fun w' H => by rw [show closeC c = _ from if_neg (by simp [h1, h2]; try omega)]; exact ⟨H.only, none, 0, rfl, Bs.none _ _⟩
theorem chReply_any (c : CH) (ok : Bool) (w : World) : Calls Tryz.prog 19 #[c.val, .bool ok] w (StepO w (replyC c ok)) := by
  refine Hs.enter Tryz.func19 [] [] [] [.g c.sc, .c (.v (.bool ok))] (Mem.start0 w) (by kernel_rfl) (by kernel_rfl) ?_
  refine Hs.run3 300 (fun _ => by kernel_rfl) fun b0 b1 b2 => ?_
  refine Hs.bool 11 (decide (c.owed ≤ 0)) (by kernel_rfl) (fun h1 => ?_) (fun h1 => ?_)
  · refine Hs.rung0 [3] 300 (fun _ => by kernel_rfl) ?_
    refine Hs.cond true (by kernel_rfl) (fun _ => ?_) (fun h => by cases h)
    refine Hs.run0 300 (fun _ => by kernel_rfl) ?_
    exact Hs.ret (v := .tuple #[c.val, omV om0 none 0, .int .i64 9]) Tryz.func19 (by kernel_rfl) fun w' H => by rw [show replyC c ok = _ from if_pos (.inl (of_decide_eq_true h1))]; exact ⟨H.only, none, 0, rfl, Bs.none _ _⟩
  · refine Hs.rung0 [3] 300 (fun _ => by kernel_rfl) ?_
    refine Hs.cond c.sClose (by kernel_rfl) (fun h2 => ?_) (fun h2 => ?_)
    · refine Hs.run0 300 (fun _ => by kernel_rfl) ?_
      exact Hs.ret (v := .tuple #[c.val, omV om0 none 0, .int .i64 9]) Tryz.func19 (by kernel_rfl) fun w' H => by rw [show replyC c ok = _ from if_pos (.inr h2)]; exact ⟨H.only, none, 0, rfl, Bs.none _ _⟩
    · refine Hs.run0 300 (fun _ => by kernel_rfl) ?_
      refine Hs.cond ok (by kernel_rfl) (fun h3 => ?_) (fun h3 => ?_)
      · refine Hs.run0 300 (fun _ => by kernel_rfl) ?_
        refine Hs.any [0] (by kernel_rfl) ?_
        refine Hs.run0 300 (fun _ => by kernel_rfl) ?_
        refine Hs.callV (fun w _ => chMsg_any { c with owed := IntKind.i64.wrap (c.owed - 1) } 99 w) (by kernel_rfl) ?_
        refine Hs.run0 300 (fun _ => by kernel_rfl) ?_
        exact Hs.ret (v := .tuple #[CH.val { c with owed := IntKind.i64.wrap (c.owed - 1) }, omV (omK c 99) none 0, .int .i64 0]) Tryz.func19 (by kernel_rfl) fun w' H => by rw [show replyC c ok = _ from if_neg (by have := of_decide_eq_false h1; simp [h2]; omega), h3]; exact ⟨H.only, none, 0, rfl, Bs.none _ _⟩
      · refine Hs.run0 300 (fun _ => by kernel_rfl) ?_
        refine Hs.any [0] (by kernel_rfl) ?_
        refine Hs.run0 300 (fun _ => by kernel_rfl) ?_
        refine Hs.callV (fun w _ => chMsg_any { c with owed := IntKind.i64.wrap (c.owed - 1) } 100 w) (by kernel_rfl) ?_
        refine Hs.run0 300 (fun _ => by kernel_rfl) ?_
        exact Hs.ret (v := .tuple #[CH.val { c with owed := IntKind.i64.wrap (c.owed - 1) }, omV (omK c 100) none 0, .int .i64 0]) Tryz.func19 (by kernel_rfl) fun w' H => by rw [show replyC c ok = _ from if_neg (by have := of_decide_eq_false h1; simp [h2]; omega), h3]; exact ⟨H.only, none, 0, rfl, Bs.none _ _⟩
end Go.Proofs.YtpojfcpeibnohaaGreatDoor

namespace Go.Proofs.YtpojfcpeibnohaaGreatDoor
set_option linter.all false
set_option maxRecDepth 100000
open Go.RowKit

/-- Bytes of a call's making, held by a fact. -/
def aoB (l : List Int) (A : Option Addr) : Option Addr := if l.length = 0 then none else A
theorem bs_st {B : Nat} {A : Option Addr} {l : List Int} {c : Nat} (w w' : World) (h1 : ∀ a, aoB l A = some a → w'.heap[a.block]? = w.heap[a.block]?) (h2 : w.heap.size ≤ w'.heap.size) (h : Bs w B A l c) : Bs w' B A l c := by
  by_cases h0 : l.length = 0
  · exact ⟨fun h3 => by omega, h.le, h.max, h.new, fun a _ i hi => by omega⟩
  · refine Bs.stable (fun a ha => h1 a ?_) h2 h
    unfold aoB
    rw [if_neg h0]; exact ha
theorem bs_new {w w' : World} {A : Option Addr} {l : List Int} {c : Nat} (h : Bs w' w.heap.size A l c) : ∀ a, aoB l A = some a → w.heap.size ≤ a.block ∧ a.block < w'.heap.size := by
  intro a ha
  unfold aoB at ha
  split at ha
  · cases ha
  · rename_i h0
    refine ⟨h.new a ha, ?_⟩
    obtain ⟨b, off, e, hlt, _⟩ := h.rd (by omega)
    rw [ha] at e; injection e with e; subst e; exact hlt
theorem ownB_bs {w : World} {base : Nat} {v : Value} {l : List Int} (h : OwnB w base v l) (hb : base ≤ w.heap.size) : ∃ A cap, v = .slice A l.length cap ∧ Bs w base A l cap := by
  have hs := h
  rcases h with ⟨h1, ⟨rfl, hn⟩ | ⟨g, cap, cur, rfl, hg, hh, hc, hm, hz, ht⟩⟩
  · exact ⟨none, 0, by rw [hn], ⟨fun h3 => by omega, by omega, by simp [maxLen], fun a ha => (by cases ha), fun a ha => (by cases ha)⟩⟩
  · refine ⟨_, cap, rfl, ⟨?_, hc, hm, fun a ha => (by injection ha with ha; subst ha; exact hg), hs.soft⟩⟩
    obtain ⟨A', c', e, hr, _⟩ := hs.rd
    injection e with e1 e2 e3
    subst e1
    exact hr
theorem chData2_any (c : CH) (code : Int) (bA : Option Addr) (b : List Int) (bc : Nat) (w : World) (hc : c.ok) (hr : Rd w bA b) : Calls Tryz.prog 15 #[c.val, .int .u32 code, .slice bA b.length bc] w (StepO w (dataC c code b)) := by
  refine Hs.enter Tryz.func15 [] [] [] [.g c.sc, .c (.v (.int .u32 code)), .c (.v (.slice bA b.length bc))] (Mem.start0 w) (by kernel_rfl) (by kernel_rfl) ?_
  refine Hs.run3 300 (fun _ => by kernel_rfl) fun b0 b1 b2 => ?_
  refine Hs.callV (fun w _ => chShut_any c w) (by kernel_rfl) ?_
  refine Hs.run0 300 (fun _ => by kernel_rfl) ?_
  refine Hs.cond c.shut (by kernel_rfl) (fun h => ?_) (fun h => ?_)
  · refine Hs.run0 300 (fun _ => by kernel_rfl) ?_
    exact Hs.ret (v := .tuple #[c.val, omV om0 none 0, .int .i64 9]) Tryz.func15 (by kernel_rfl) fun w' H => by rw [show dataC c code b = _ from if_pos h]; exact ⟨H.only, none, 0, rfl, Bs.none _ _⟩
  refine Hs.run0 300 (fun _ => by kernel_rfl) ?_
  refine Hs.callV (fun w _ => (sent_any c.left c.pack b.length w hc.left hc.pack).mono fun e w' h => ⟨h.1, only_of_below h.2⟩) (by kernel_rfl) ?_
  refine Hs.run1 300 (fun _ => by kernel_rfl) fun b0 => ?_
  refine Hs.cond (sE c.left c.pack b.length != 0) (by kernel_rfl) (fun h2 => ?_) (fun h2 => ?_)
  · refine Hs.run0 300 (fun _ => by kernel_rfl) ?_
    exact Hs.ret (v := .tuple #[c.val, omV om0 none 0, .int .i64 (sE c.left c.pack b.length)]) Tryz.func15 (by kernel_rfl) fun w' H => by rw [show dataC c code b = _ from (if_neg (by simp [h])).trans (if_pos (by simpa using h2))]; exact ⟨H.only, none, 0, rfl, Bs.none _ _⟩
  have hb : b.length ≤ 140737488355000 := by
    have h2 : sE c.left c.pack b.length = 0 := by simpa using h2
    unfold sE at h2
    split at h2
    · rename_i h3
      have := once_rng c.left c.pack hc.left.1 hc.pack.1
      omega
    · cases h2
  refine Hs.run0 300 (fun _ => by kernel_rfl) ?_
  refine Hs.callV (fun w _ => chMsg_any { c with left := sL c.left c.pack b.length } 94 w) (by kernel_rfl) ?_
  refine Hs.run1 300 (fun _ => by kernel_rfl) fun b0 => ?_
  refine Hs.cond (code != 0) (by kernel_rfl) (fun h3 => ?_) (fun h3 => ?_)
  · refine Hs.run0 300 (fun _ => by kernel_rfl) ?_
    refine Hs.callV (fun w _ => chMsg_any { c with left := sL c.left c.pack b.length } 95 w) (by kernel_rfl) ?_
    have hd : dataC c code b = ({ c with left := sL c.left c.pack b.length }, ⟨95, c.rem, 0, code, ⟨#[]⟩, b⟩, 0) := by
      refine (if_neg (by simp [h])).trans ((if_neg (by simpa using h2)).trans ?_)
      rw [if_pos (by simpa using h3)]
    refine Hs.run0 300 (fun _ => by kernel_rfl) ?_
    refine Hs.callQ (X := Option Addr × Nat) (fun x => aoB b x.1) (fun x => .slice x.1 b.length x.2) (fun x w' => Bs w' w.heap.size x.1 b x.2) (fun x => bs_st) (fun w' H => (clone_any w' bA b bc (hr.only H.only) hb).mono (by
      rintro e w2 ⟨O, A', c', rfl, hB⟩
      exact ⟨(A', c'), rfl, O, hB.mono H.only.size, bs_new hB⟩)) (by kernel_rfl) (by kernel_rfl) fun x => ?_
    refine Hs.run0 300 (fun _ => by kernel_rfl) ?_
    refine Hs.any [0, 4] (by kernel_rfl) ?_
    refine Hs.run0 300 (fun _ => by kernel_rfl) ?_
    refine Hs.ret (v := .tuple #[CH.val { c with left := sL c.left c.pack b.length }, omV ⟨95, c.rem, 0, code, ⟨#[]⟩, b⟩ x.1 x.2, .int .i64 0]) Tryz.func15 (by kernel_rfl) fun w' H => ?_
    rw [hd]
    exact ⟨H.only, x.1, x.2, rfl, H.atQ 5 (wr := true) (A := aoB b x.1) (Q := fun w' => Bs w' w.heap.size x.1 b x.2) (st := bs_st) (by kernel_rfl)⟩
  · have hd : dataC c code b = ({ c with left := sL c.left c.pack b.length }, ⟨94, c.rem, 0, code, ⟨#[]⟩, b⟩, 0) := by
      refine (if_neg (by simp [h])).trans ((if_neg (by simpa using h2)).trans ?_)
      rw [if_neg (by simpa using h3)]
    refine Hs.run0 300 (fun _ => by kernel_rfl) ?_
    refine Hs.callQ (X := Option Addr × Nat) (fun x => aoB b x.1) (fun x => .slice x.1 b.length x.2) (fun x w' => Bs w' w.heap.size x.1 b x.2) (fun x => bs_st) (fun w' H => (clone_any w' bA b bc (hr.only H.only) hb).mono (by
      rintro e w2 ⟨O, A', c', rfl, hB⟩
      exact ⟨(A', c'), rfl, O, hB.mono H.only.size, bs_new hB⟩)) (by kernel_rfl) (by kernel_rfl) fun x => ?_
    refine Hs.run0 300 (fun _ => by kernel_rfl) ?_
    refine Hs.any [0, 4] (by kernel_rfl) ?_
    refine Hs.run0 300 (fun _ => by kernel_rfl) ?_
    refine Hs.ret (v := .tuple #[CH.val { c with left := sL c.left c.pack b.length }, omV ⟨94, c.rem, 0, code, ⟨#[]⟩, b⟩ x.1 x.2, .int .i64 0]) Tryz.func15 (by kernel_rfl) fun w' H => ?_
    rw [hd]
    exact ⟨H.only, x.1, x.2, rfl, H.atQ 5 (wr := true) (A := aoB b x.1) (Q := fun w' => Bs w' w.heap.size x.1 b x.2) (st := bs_st) (by kernel_rfl)⟩
theorem chGrant_any (c : CH) (k : Int) (w : World) (hc : c.ok) (hk : -9223372036854775808 ≤ k ∧ k ≤ 9223372036854775807) : Calls Tryz.prog 20 #[c.val, .int .i64 k] w fun e w' => e = .returned (.tuple #[(grantC c k).1.val, omV (grantC c k).2.1 none 0, .bool (decide ((grantC c k).2.2 = 0))]) ∧ Only [] w w' := by
  refine Hs.enter Tryz.func20 [] [] [] [.g c.sc, .c (.v (.int .i64 k))] (Mem.start0 w) (by kernel_rfl) (by kernel_rfl) ?_
  refine Hs.run3 300 (fun _ => by kernel_rfl) fun b0 b1 b2 => ?_
  refine Hs.callV (fun w _ => (refill_any c.inl c.lim k w hc.inl hc.lim hk).mono fun e w' h => ⟨h.1, only_of_below h.2⟩) (by kernel_rfl) ?_
  refine Hs.run1 300 (fun _ => by kernel_rfl) fun b0 => ?_
  refine Hs.bool 19 (fR c.inl c.lim k == 0) (by kernel_rfl) (fun h1 => ?_) (fun h1 => ?_)
  · refine Hs.rung0 [2] 300 (fun _ => by kernel_rfl) ?_
    refine Hs.bool 23 true (by kernel_rfl) (fun _ => ?_) (fun h => by cases h)
    refine Hs.rung0 [2, 6] 300 (fun _ => by kernel_rfl) ?_
    refine Hs.bool 27 true (by kernel_rfl) (fun _ => ?_) (fun h => by cases h)
    refine Hs.rung0 [2, 6, 10] 300 (fun _ => by kernel_rfl) ?_
    refine Hs.cond true (by kernel_rfl) (fun _ => ?_) (fun h => by cases h)
    refine Hs.run0 300 (fun _ => by kernel_rfl) ?_
    exact Hs.ret (v := .tuple #[c.val, omV om0 none 0, .bool false]) Tryz.func20 (by kernel_rfl) fun w' H => by rw [show grantC c k = _ from if_pos (.inl (by simpa using h1))]; exact ⟨rfl, H.only⟩
  refine Hs.rung0 [2] 300 (fun _ => by kernel_rfl) ?_
  refine Hs.bool 23 c.gEof (by kernel_rfl) (fun h2 => ?_) (fun h2 => ?_)
  · refine Hs.rung0 [2, 6] 300 (fun _ => by kernel_rfl) ?_
    refine Hs.bool 27 true (by kernel_rfl) (fun _ => ?_) (fun h => by cases h)
    refine Hs.rung0 [2, 6, 10] 300 (fun _ => by kernel_rfl) ?_
    refine Hs.cond true (by kernel_rfl) (fun _ => ?_) (fun h => by cases h)
    refine Hs.run0 300 (fun _ => by kernel_rfl) ?_
    exact Hs.ret (v := .tuple #[c.val, omV om0 none 0, .bool false]) Tryz.func20 (by kernel_rfl) fun w' H => by rw [show grantC c k = _ from if_pos (.inr (.inl h2))]; exact ⟨rfl, H.only⟩
  refine Hs.rung0 [2, 6] 300 (fun _ => by kernel_rfl) ?_
  refine Hs.bool 27 c.sClose (by kernel_rfl) (fun h3 => ?_) (fun h3 => ?_)
  · refine Hs.rung0 [2, 6, 10] 300 (fun _ => by kernel_rfl) ?_
    refine Hs.cond true (by kernel_rfl) (fun _ => ?_) (fun h => by cases h)
    refine Hs.run0 300 (fun _ => by kernel_rfl) ?_
    exact Hs.ret (v := .tuple #[c.val, omV om0 none 0, .bool false]) Tryz.func20 (by kernel_rfl) fun w' H => by rw [show grantC c k = _ from if_pos (.inr (.inr (.inl h3)))]; exact ⟨rfl, H.only⟩
  refine Hs.rung0 [2, 6, 10] 300 (fun _ => by kernel_rfl) ?_
  refine Hs.cond c.gClose (by kernel_rfl) (fun h4 => ?_) (fun h4 => ?_)
  · refine Hs.run0 300 (fun _ => by kernel_rfl) ?_
    exact Hs.ret (v := .tuple #[c.val, omV om0 none 0, .bool false]) Tryz.func20 (by kernel_rfl) fun w' H => by rw [show grantC c k = _ from if_pos (.inr (.inr (.inr h4)))]; exact ⟨rfl, H.only⟩
  refine Hs.run0 300 (fun _ => by kernel_rfl) ?_
  refine Hs.callV (fun w _ => chMsg_any { c with inl := fL c.inl c.lim k } 93 w) (by kernel_rfl) ?_
  refine Hs.run1 300 (fun _ => by kernel_rfl) fun b0 => ?_
  refine Hs.any [0, 4] (by kernel_rfl) ?_
  refine Hs.run0 300 (fun _ => by kernel_rfl) ?_
  exact Hs.ret (v := .tuple #[CH.val { c with inl := fL c.inl c.lim k }, omV ⟨93, c.rem, fR c.inl c.lim k, 0, ⟨#[]⟩, []⟩ none 0, .bool true]) Tryz.func20 (by kernel_rfl) fun w' H => by rw [show grantC c k = _ from if_neg (by simp [h2, h3, h4]; simpa using h1)]; exact ⟨rfl, H.only⟩
end Go.Proofs.YtpojfcpeibnohaaGreatDoor

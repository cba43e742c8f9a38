/- Layer 27: just names that are known do anything; the law's walk; for all sessions and texts; global 0 holds a number · Layer 27: what can come of any request; without conditions · Layer 27: a session is started once at most; the law's walk; for all requests and programs; global 0 holds a number · Arguments opened, down to their cells: structs in structs, texts, flags, slices of structs. Over any program; no condition · The frame of a law: if the call returns true and leaves all memory that was there as it was, then the law's row holds; the walk is told the reach; no condition. A slice within a struct, opened · Arguments opened with what each of their slices weighs: structs in structs, arrays, slices in slices. Over any program; no condition · Layer 27: arguments opened: settings, sessions, variables; no condition · Layers 19, 27: arguments opened: requests, variables, programs; no condition · The frame of a law whose row lists tables: if the call returns true and leaves all memory that was there as it was, then the law's row holds; the walk is told the reach and the world's shape; no condition. -/
import Derived.Test.YtdplnedpbkpgpaaGreatDoorSwD
import Derived.Test.YtdplnedpbkpgpaaGreatDoorKit
import Derived.Deep.Fields
import Derived.Deep.Slices
import Derived.Test.YtdplnedpbkpgpaaGreatDoorFrame
import Derived.SizedLaws
import Derived.Deep.Strs
import Derived.Test.YtdplnedpbkpgpaaGreatDoorApX
import Derived.Test.YtdplnedpbkpgpaaGreatDoorSwA
import Derived.OpenShut
import Derived.HandedShaped
import Derived.Shelf.Vars
import Derived.Lay
import Derived.LaidLaws
import Derived.SevenTiedAt
namespace Go.Proofs.YtdplnedpbkpgpaaGreatDoor
set_option linter.all false
set_option maxRecDepth 100000
open Go.RowKit
theorem rencode_g {m : RQ} (w : World) (hm : m.ok w) (hs : m.text.size ≤ 140737488355328) (hv : m.value.size ≤ 140737488355328) (hl : m.lang.size ≤ 140737488355328) {E : Int} {l : List Int} {nm : ByteArray} (e1 : encR m = (E, l)) (e2 : encName m = nm) : Calls Tryz.prog 20 #[m.val] w fun e w' => ∃ A cap, e = .returned (.tuple #[.string nm, .slice A l.length cap, .int .i64 E]) ∧ Only [] w w' ∧ OwnX cu8 5 1 w' w.heap.size (.slice A l.length cap) l := by
  refine (rencode_any m w hm hs hv hl).mono fun e w' h => ?_
  obtain ⟨O, v, he, hO⟩ := h
  rw [e1, e2] at he
  rw [e1] at hO
  have hX : OwnX cu8 5 1 w' w.heap.size v l := by
    unfold OwnX
    rw [flat8]
    exact hO
  obtain ⟨A, cap, e3, _⟩ := hX.form
  subst e3
  exact ⟨A, cap, he, O, hX⟩
def sig8 (tx : ByteArray) : RQ := { zeroR with kind := 8, text := tx }
theorem sig8_ok {tx : ByteArray} (h : tx.size ≤ 10000) (w : World) : (sig8 tx).ok w :=
  { zeroR_ok w with text := Nat.le_trans h (by decide), nums := by simp [sig8, zeroR, U32, RNums] }
theorem sig8_dec {tx nm : ByteArray} {l : List Int} {x : RQ} {E : Int} (e1 : encR (sig8 tx) = (0, l)) (e2 : encName (sig8 tx) = nm) (h : DecR nm l x E) : E = 0 ∧ x.kind = 8 ∧ x.text = tx ∧ l.length ≤ 33792 := by
  have := rback_law (m := sig8 tx) (x := x) (E := E) (by simp [sig8, zeroR, U32, RNums]) (by rw [e1]) (by rw [e1, e2]; exact h)
  obtain ⟨e, hs, hl⟩ := this
  rw [e1] at hl
  exact ⟨e, hs.kind.symm.trans rfl, hs.text.symm.trans rfl, hl⟩
def sigT (s : SS) (tx : ByteArray) : AC := if s.st then (if numB tx then (if wireS (numS tx) then ⟨true, 3, 0, numS tx, 0, 0, 0, 0⟩ else noA) else noA) else noA
theorem sig8_ask {s : SS} {tx : ByteArray} {x : RQ} {ps : List PR} (hk : x.kind = 8) (ht : x.text = tx) : askM s x 0 ps = (s, sigT s tx) := by
  unfold askM
  rw [if_neg (by simp), hk]
  show sigM s x = _
  unfold sigM sigT
  rw [ht]
  repeat' split
  all_goals rfl
/-- A session that is asked what is known to be made of it. -/
theorem askS {s : SS} {z : SS × AC} {nam : ByteArray} {l : List Int} {ps : List PR} {n : Nat} (hn : ps.length = n) (hdec : ∀ x E, DecR nam l x E → E = 0 ∧ askM s x 0 ps = z) (A : Option Addr) (cap : Nat) (B : Option Addr) (c : Nat) (pA : Option Addr) (pc : Nat) (w : World) (i0 : Int) (h00 : w.cell? ⟨0, 0, none⟩ = some (.int .i64 i0)) (hs : RdX cVar w A s.env) (hse : s.env.length ≤ 1000000) (hB : RdX cu8 w B l) (hl : ∀ x ∈ l, 0 ≤ x ∧ x < 256) (hln : l.length ≤ 140737488355000) (hc1 : l.length ≤ c) (hc2 : c ≤ maxLen) (hp : RdX cPr w pA ps) (hpl : ps.length ≤ maxLen) (hal : ∀ a, B = some a → a.block < w.heap.size) :
    Calls Tryz.prog 11 #[s.val A cap, .string nam, .slice B l.length c, .slice pA n pc] w fun e w' => ∃ A cap, e = .returned (.tuple #[z.1.val A cap, z.2.val]) ∧ Only [] w w' ∧ OwnX cVar 59 2 w' w.heap.size (.slice A z.1.env.length cap) z.1.env := by
  subst hn
  refine (ask_any27 s A cap nam B c l pA pc ps w i0 h00 hs hse (rdX_rd hB) hl hln hc1 hc2 hal hp hpl).mono fun e w' h => ?_
  obtain ⟨O, m, E, A', cap', hD, he, hO⟩ := h
  obtain ⟨rfl, hm⟩ := hdec m E hD
  rw [hm] at he hO
  exact ⟨A', cap', he, O, hO⟩
theorem ownX_lt {w w0 : World} {L β : List Nat} {hp : List HB} {E size : Nat} (H : Mem w0 L β hp w) (k : Nat) {A : Option Addr} {cap n : Nat} {vs : List Value} (hk : hp[k]? = some (.s A cap n E size vs)) : ∀ a, A = some a → a.block < w.heap.size := fun a ha => by
  subst ha
  exact HB.lies_lt (H.lies k _ hk) rfl
theorem parts_inb27 {w : World} {m : RQ} (ok : m.ok w) (k : Nat) (h1 : 1 ≤ k) (h2 : k ≤ 10) : InB ((partsR m k).flatMap bytesP) := by
  have hT : ∀ s, InB (pT s).text := fun s => u8i_range _
  have hN : InB ([] : List Int) := fun x hx => by simp at hx
  have hp : ∀ p ∈ partsR m k, InB p.text := by
    rcases k10 h1 h2 with rfl | rfl | rfl | rfl | rfl | rfl | rfl | rfl | rfl | rfl <;> intro p hp <;> simp only [partsR, List.mem_cons, List.not_mem_nil, or_false] at hp
    · rcases hp with rfl | rfl | rfl | rfl | rfl | rfl
      · exact hT _
      · exact hN
      · exact hN
      · exact hN
      · exact hN
      · exact ok.bytes
    · rcases hp with rfl | rfl
      · exact hT _
      · exact hT _
    · subst hp; exact hT _
    · subst hp; exact hT _
    · rcases hp with rfl | rfl | rfl | rfl <;> exact hN
    · subst hp; exact hN
    · subst hp; exact hT _
    · subst hp; exact hN
    · rcases hp with rfl | rfl | rfl | rfl
      · exact hT _
      · exact hN
      · exact hT _
      · exact hT _
  intro x hx
  obtain ⟨p, hpm, hxp⟩ := List.mem_flatMap.1 hx
  exact bytesP_range (hp p hpm) x hxp
theorem encR_inb {w : World} {m : RQ} (ok : m.ok w) (hz : (encR m).1 = 0) : InB (encR m).2 := by
  obtain ⟨k, h1, h2, hk, ha, ho, he, hnm⟩ := encR_ok hz
  rw [he]
  exact parts_inb27 ok k h1 h2
theorem encR_len (m : RQ) : (encR m).2.length ≤ 33792 := by
  unfold encR
  split
  · split
    · simp
    · exact writeP_len
  · simp
set_option maxHeartbeats 8000000 in
theorem signals_walk27 (s : SS) (A : Option Addr) (cap : Nat) (tx : ByteArray) (w : World) (i0 : Int) (h00 : w.cell? ⟨0, 0, none⟩ = some (.int .i64 i0)) (hr : RdX cVar w A s.env) : Calls Tryz.prog 6 #[s.val A cap, .string tx] w fun e w' => e = .returned (.bool true) ∧ Only [] w w' := by
  obtain ⟨E, l, hE⟩ : ∃ E l, encR (sig8 tx) = (E, l) := ⟨_, _, rfl⟩
  obtain ⟨nam, hnam⟩ : ∃ nam, encName (sig8 tx) = nam := ⟨_, rfl⟩
  refine Hs.enter Tryz.func6 [] [] [] [.g (s.sc A cap), .c (.v (.string tx))] (Mem.start0 w) (by kernel_rfl) (by kernel_rfl) ?_
  refine Hs.run1 300 (fun _ => by kernel_rfl) fun b0 => ?_
  refine Hs.callV (fun w' H => alive27_any w' i0 (cell_step H.only h00)) (by kernel_rfl) ?_
  refine Hs.run0 300 (fun _ => by kernel_rfl) ?_
  refine Hs.condF (by kernel_rfl) ?_
  refine Hs.run0 300 (fun _ => by kernel_rfl) ?_
  refine Hs.bool 19 (decide ((s.env.length : Int) > 100)) (by kernel_rfl) (fun h1 => ?_) (fun h1 => ?_)
  · refine Hs.rung0 [4] 300 (fun _ => by kernel_rfl) ?_
    refine Hs.condT (by kernel_rfl) ?_
    refine Hs.run0 300 (fun _ => by kernel_rfl) ?_
    exact Hs.ret (v := .bool true) Tryz.func6 (by kernel_rfl) fun w' H => ⟨rfl, H.only⟩
  replace h1 : s.env.length ≤ 100 := by simp at h1; omega
  refine Hs.rung0 [4] 300 (fun _ => by kernel_rfl) ?_
  refine Hs.condP ((tx.size : Int) > 10000) (by kernel_rfl) (fun h2 => ?_) (fun h2 => ?_)
  · refine Hs.run0 300 (fun _ => by kernel_rfl) ?_
    exact Hs.ret (v := .bool true) Tryz.func6 (by kernel_rfl) fun w' H => ⟨rfl, H.only⟩
  replace h2 : tx.size ≤ 10000 := by omega
  refine Hs.run0 300 (fun _ => by kernel_rfl) ?_
  refine Hs.callS (cf := cu8) (E := 5) (size := 1) (fun A cap => .tuple #[.string nam, .slice A l.length cap, .int .i64 E]) l l.length rfl (fun w' H => rencode_g w' (sig8_ok h2 w') (Nat.le_trans h2 (by decide)) (Nat.zero_le _) (Nat.zero_le _) hE hnam) (by kernel_rfl) (by kernel_rfl) fun B1 c1 h3 h4 => ?_
  refine Hs.run0 300 (fun _ => by kernel_rfl) ?_
  refine Hs.cond (E != 0) (by kernel_rfl) (fun h5 => ?_) (fun h5 => ?_)
  · refine Hs.run0 300 (fun _ => by kernel_rfl) ?_
    exact Hs.ret (v := .bool true) Tryz.func6 (by kernel_rfl) fun w' H => ⟨rfl, H.only⟩
  obtain rfl : E = 0 := by simpa using h5
  have hdec : ∀ x E, DecR nam l x E → E = 0 ∧ askM s x 0 [] = (s, sigT s tx) := fun x E h => by
    obtain ⟨h1, h2, h3, _⟩ := sig8_dec hE hnam h
    exact ⟨h1, sig8_ask h2 h3⟩
  have hll := encR_len (sig8 tx)
  have hrng : InB (encR (sig8 tx)).2 := encR_inb (sig8_ok h2 w) (by rw [hE])
  rw [hE] at hll hrng
  replace hll : l.length ≤ 33792 := hll
  replace hrng : ∀ x ∈ l, 0 ≤ x ∧ x < 256 := hrng
  generalize hz : sigT s tx = z at hdec
  refine Hs.run0 300 (fun _ => by kernel_rfl) ?_
  refine Hs.callS (cf := cVar) (E := 59) (size := 2) (fun A cap => s.val A cap) s.env s.env.length rfl (fun w' H => to27_any27 s A cap w' (hr.only H.only) (by omega)) (by kernel_rfl) (by kernel_rfl) fun A2 c2 h6 h7 => ?_
  refine Hs.run1 300 (fun _ => by kernel_rfl) fun b3 => ?_
  refine Hs.callS (cf := cVar) (E := 59) (size := 2) (fun A cap => .tuple #[s.val A cap, z.val]) s.env s.env.length rfl (fun w' H => askS (ps := []) (z := (s, z)) rfl hdec A2 c2 B1 c1 none 0 w' i0 (cell_step H.only h00) (H.rdX 2 rfl (by kernel_rfl : _ = some (HB.s A2 c2 s.env.length 59 2 (s.env.flatMap cVar)))) (by omega) (H.rdX 1 rfl (by kernel_rfl : _ = some (HB.s B1 c1 l.length 5 1 (l.flatMap cu8)))) hrng (by omega) h3 h4 rdX_nil (by decide) (ownX_lt H 1 (by kernel_rfl : _ = some (HB.s B1 c1 l.length 5 1 (l.flatMap cu8))))) (by kernel_rfl) (by kernel_rfl) fun A3 c3 h8 h9 => ?_
  refine Hs.run2 300 (fun _ => by kernel_rfl) fun b5 b6 => ?_
  refine Hs.any [3, 5] (by kernel_rfl) ?_
  refine Hs.run0 300 (fun _ => by kernel_rfl) ?_
  refine Hs.callS (cf := cVar) (E := 76) (size := 2) (fun A cap => s.val A cap) s.env s.env.length rfl (fun w' H => from27_any27 s A2 c2 w' (H.rdX 2 rfl (by kernel_rfl : _ = some (HB.s A2 c2 s.env.length 59 2 (s.env.flatMap cVar)))) (by omega)) (by kernel_rfl) (by kernel_rfl) fun A4 c4 _ _ => ?_
  refine Hs.run0 300 (fun _ => by kernel_rfl) ?_
  refine Hs.callS (cf := cVar) (E := 76) (size := 2) (fun A cap => s.val A cap) s.env s.env.length rfl (fun w' H => from27_any27 s A3 c3 w' (H.rdX 4 rfl (by kernel_rfl : _ = some (HB.s A3 c3 s.env.length 59 2 (s.env.flatMap cVar)))) (by omega)) (by kernel_rfl) (by kernel_rfl) fun A5 c5 _ _ => ?_
  refine Hs.run0 300 (fun _ => by kernel_rfl) ?_
  refine Hs.callV (fun w' H => rsame_any27 s A4 A5 c4 c5 w' (H.rdX 7 rfl (by kernel_rfl : _ = some (HB.s A4 c4 s.env.length 76 2 (s.env.flatMap cVar)))) (H.rdX 8 rfl (by kernel_rfl : _ = some (HB.s A5 c5 s.env.length 76 2 (s.env.flatMap cVar)))) (by omega)) (by kernel_rfl) ?_
  refine Hs.run0 300 (fun _ => by kernel_rfl) ?_
  refine Hs.condF (by kernel_rfl) ?_
  refine Hs.run0 300 (fun _ => by kernel_rfl) ?_
  refine Hs.callV (fun w' H => number_any18 tx w') (by kernel_rfl) ?_
  refine Hs.run0 300 (fun _ => by kernel_rfl) ?_
  refine Hs.bool 55 s.st (by kernel_rfl) (fun h8 => ?_) (fun h8 => ?_)
  · refine Hs.rung0 [2] 300 (fun _ => by kernel_rfl) ?_
    refine Hs.bool 58 (numB tx) (by kernel_rfl) (fun h9 => ?_) (fun h9 => ?_)
    · refine Hs.rung0 [2, 5] 300 (fun _ => by kernel_rfl) ?_
      refine Hs.callV (fun w' H => wire_any18 (numS tx) w') (by kernel_rfl) ?_
      refine Hs.rung0 [2, 5] 300 (fun _ => by kernel_rfl) ?_
      refine Hs.cond (wireS (numS tx)) (by kernel_rfl) (fun h10 => ?_) (fun h10 => ?_)
      · obtain rfl : z = ⟨true, 3, 0, numS tx, 0, 0, 0, 0⟩ := by rw [← hz]; unfold sigT; rw [if_pos h8, if_pos h9, if_pos h10]
        refine Hs.rung0 [2, 7] 300 (fun _ => by kernel_rfl) ?_
        exact Hs.ret (v := .bool (numS tx == numS tx)) Tryz.func6 (by kernel_rfl) fun w' H => ⟨by simp, H.only⟩
      · obtain rfl : z = noA := by rw [← hz]; unfold sigT; rw [if_pos h8, if_pos h9, if_neg (by rw [h10]; decide)]
        refine Hs.run0 5 (fun _ => by kernel_rfl) ?_
        refine Hs.same (op := .eql) (T := 44) #[.bool false, .int .i64 0, .int .i64 0, .int .i64 0, .int .u32 0, .int .u32 0, .int .u32 0, .int .u32 0] true (by kernel_rfl) (.inl ⟨rfl, rfl⟩) (by kernel_rfl) ?_
        refine Hs.run0 300 (fun _ => by kernel_rfl) ?_
        exact Hs.ret (v := .bool true) Tryz.func6 (by kernel_rfl) fun w' H => ⟨rfl, H.only⟩
    · refine Hs.rung0 [2, 5] 300 (fun _ => by kernel_rfl) ?_
      refine Hs.condF (by kernel_rfl) ?_
      obtain rfl : z = noA := by rw [← hz]; unfold sigT; rw [if_pos h8, if_neg (by rw [h9]; decide)]
      refine Hs.run0 5 (fun _ => by kernel_rfl) ?_
      refine Hs.same (op := .eql) (T := 44) #[.bool false, .int .i64 0, .int .i64 0, .int .i64 0, .int .u32 0, .int .u32 0, .int .u32 0, .int .u32 0] true (by kernel_rfl) (.inl ⟨rfl, rfl⟩) (by kernel_rfl) ?_
      refine Hs.run0 300 (fun _ => by kernel_rfl) ?_
      exact Hs.ret (v := .bool true) Tryz.func6 (by kernel_rfl) fun w' H => ⟨rfl, H.only⟩
  · refine Hs.rung0 [2, 5] 300 (fun _ => by kernel_rfl) ?_
    refine Hs.condF (by kernel_rfl) ?_
    obtain rfl : z = noA := by rw [← hz]; unfold sigT; rw [if_neg (by rw [h8]; decide)]
    refine Hs.run0 5 (fun _ => by kernel_rfl) ?_
    refine Hs.same (op := .eql) (T := 44) #[.bool false, .int .i64 0, .int .i64 0, .int .i64 0, .int .u32 0, .int .u32 0, .int .u32 0, .int .u32 0] true (by kernel_rfl) (.inl ⟨rfl, rfl⟩) (by kernel_rfl) ?_
    refine Hs.run0 300 (fun _ => by kernel_rfl) ?_
    exact Hs.ret (v := .bool true) Tryz.func6 (by kernel_rfl) fun w' H => ⟨rfl, H.only⟩
end Go.Proofs.YtdplnedpbkpgpaaGreatDoor

namespace Go.Proofs.YtdplnedpbkpgpaaGreatDoor
set_option linter.all false
set_option maxRecDepth 100000
open Go.RowKit
def OnceC (n : Nat) (s : SS) (z : SS × AC) : Prop :=
  z = (s, noA) ∨
  (s.pty = false ∧ s.st = false ∧ ∃ (tm : ByteArray) (c0 c1 c2 c3 : Int) (t : TM), rightB t = true ∧ z = ({ s with pty := true, term := tm, c0 := c0, c1 := c1, c2 := c2, c3 := c3, t := t }, okA)) ∨
  (s.st = false ∧ ∃ env' : List VR, (env'.length = s.env.length ∨ env'.length ≤ 16) ∧ z = ({ s with env := env' }, okA)) ∨
  (s.st = false ∧ ∃ k : Int, 0 ≤ k ∧ k < n ∧ z = ({ s with st := true }, ⟨true, 1, k, 0, 0, 0, 0, 0⟩)) ∨
  (s.pty = true ∧ s.st = true ∧ ∃ c0 c1 c2 c3 : Int, z = ({ s with c0 := c0, c1 := c1, c2 := c2, c3 := c3 }, ⟨true, 2, 0, 0, c0, c1, c2, c3⟩)) ∨
  (s.pty = true ∧ s.st = false ∧ ∃ c0 c1 c2 c3 : Int, z = ({ s with c0 := c0, c1 := c1, c2 := c2, c3 := c3 }, okA)) ∨
  (s.st = true ∧ ∃ k : Int, z = (s, ⟨true, 3, 0, k, 0, 0, 0, 0⟩))
theorem findN_rng {nm : ByteArray} {ps : List PR} (h : findB nm ps = true) : 0 ≤ findN nm ps ∧ findN nm ps < ps.length := by
  unfold findB at h
  have h1 : findI nm ps ≥ 0 := by simpa using h
  unfold findN
  rw [if_neg (by omega)]
  have := idxS_lt nm (names ps) 0 (Int.le_refl _)
  unfold findI at h1 ⊢
  unfold names at this h1 ⊢
  rw [List.length_map] at this
  omega
theorem start_once (s : SS) (nm : ByteArray) (ps : List PR) : OnceC ps.length s (startS s nm ps) := by
  unfold startS
  split
  · exact .inl rfl
  · rename_i h1
    split
    · rename_i h2
      exact .inr (.inr (.inr (.inl ⟨by simpa using h1, _, (findN_rng h2).1, (findN_rng h2).2, rfl⟩)))
    · exact .inl rfl
theorem once_any (s : SS) (m : RQ) (E : Int) (ps : List PR) : OnceC ps.length s (askM s m E ps) := by
  unfold askM
  split
  · exact .inl rfl
  unfold kindM
  split
  · unfold ptyM
    split
    · exact .inl rfl
    · split
      · exact .inl rfl
      · split
        · exact .inl rfl
        · split
          · rename_i h1 h2 _ h4
            exact .inr (.inl ⟨by simpa using h1, by simpa using h2, _, _, _, _, _, _, h4, rfl⟩)
          · exact .inl rfl
  · unfold envM
    split
    · exact .inl rfl
    · rename_i h1
      split
      · exact .inr (.inr (.inl ⟨by simpa using h1, _, .inl (by rw [List.length_set]), rfl⟩))
      · split
        · exact .inl rfl
        · rename_i h3
          exact .inr (.inr (.inl ⟨by simpa using h1, _, .inr (by rw [List.length_append, List.length_singleton]; omega), rfl⟩))
  · exact start_once s _ ps
  · exact start_once s _ ps
  · exact start_once s _ ps
  · unfold sizeM
    split
    · rename_i h1
      split
      · rename_i h2
        exact .inr (.inr (.inr (.inr (.inl ⟨h1, h2, _, _, _, _, rfl⟩))))
      · rename_i h2
        exact .inr (.inr (.inr (.inr (.inr (.inl ⟨h1, by simpa using h2, _, _, _, _, rfl⟩)))))
    · exact .inl rfl
  · unfold sigM
    split
    · rename_i h1
      split
      · split
        · exact .inr (.inr (.inr (.inr (.inr (.inr ⟨h1, _, rfl⟩)))))
        · exact .inl rfl
      · exact .inl rfl
    · exact .inl rfl
  · exact .inl rfl
theorem ask_once (s : SS) (A : Option Addr) (cap : Nat) (q : AQ) (ps : List PG) (n : Nat) (hn : ps.length = n) (pA : Option Addr) (pc : Nat) (w : World) (i0 : Int) (h00 : w.cell? ⟨0, 0, none⟩ = some (.int .i64 i0)) (hs : RdX cVar w A s.env) (hse : s.env.length ≤ 1000000) (hq : AqOk w q) (hp : RdX cPG w pA ps) (hpl : ps.length ≤ maxLen) :
    Calls Tryz.prog 11 #[s.val A cap, .string q.n, .slice q.A q.b.length q.c, .slice pA n pc] w fun e w' => ∃ (z : SS × AC) (A' : Option Addr) (cap' : Nat), e = .returned (.tuple #[z.1.val A' cap', z.2.val]) ∧ Only [] w w' ∧ OwnX cVar 59 2 w' w.heap.size (.slice A' z.1.env.length cap') z.1.env ∧ OnceC n s z := by
  subst hn
  have hr := rdX_pr hp
  have := ask_anyP27 s A cap q.n q.A q.c q.b pA pc (ps.map PG.pr) w i0 h00 hs hse (rdX_rd hq.rd) hq.rng hq.few hq.le hq.max (fun a ha h0 => by
    obtain ⟨b, off, e, hlt, _⟩ := hq.rd h0
    rw [ha] at e
    injection e with e
    rw [e]; exact hlt) hr (by rw [List.length_map]; exact hpl)
  rw [List.length_map] at this
  refine this.mono fun e w' h => ?_
  obtain ⟨O, m, E, A', cap', hD, he, hO⟩ := h
  have h1 := once_any s m E (ps.map PG.pr)
  rw [List.length_map] at h1
  exact ⟨_, A', cap', he, O, hO, h1⟩
end Go.Proofs.YtdplnedpbkpgpaaGreatDoor

namespace Go.Proofs.YtdplnedpbkpgpaaGreatDoor
set_option linter.all false
set_option maxRecDepth 100000
open Go.RowKit
set_option maxHeartbeats 64000000 in
theorem once_walk27 (l : List AQ) (A : Option Addr) (c : Nat) (ps : List PG) (B : Option Addr) (cb : Nat) (w : World) (i0 : Int) (h00 : w.cell? ⟨0, 0, none⟩ = some (.int .i64 i0)) (hl : Aqs w A c l) (hp : Pgs w B cb ps) (hf : PgFew ps) : Calls Tryz.prog 5 #[.slice A l.length c, .slice B ps.length cb] w fun e w' => e = .returned (.bool true) ∧ Only [] w w' := by
  have hlen : l.length ≤ maxLen := Nat.le_trans hl.le hl.max
  have J : ∀ (z : PX) (w1 : World) (L1 : List Nat), z.2.2.length = ps.length → Nx w w1 L1 (fun w => PgsP ps z w ∧ True) → ∀ (d i : Nat), l.length - i = d → i ≤ l.length → ∀ (s : SS) (A4 : Option Addr) (c4 : Nat), s.env.length ≤ 16 → ∀ (b0 : Nat) (u : Nat → Value), Hs Tryz.prog 5 (fun e w' => e = .returned (.bool true) ∧ Only [] w w') (Tryz.f5).ntmps w1 L1 [b0, 0] ⟨.no, loopAt Tryz.f5 0, pins [(5, .c (.p 0 0)), (6, .c (.v (.slice z.1 ps.length z.2.1))), (7, .c (.v (.int .i64 (if s.st then 1 else 0)))), (8, .c (.v (.int .i64 (if s.pty then 1 else 0)))), (21, .c (.v (.slice A l.length c))), (22, .c (.v (.int .i64 l.length))), (23, .c (.v (.int .i64 i)))] (.vals u), [.b true 41 (s.sc A4 c4), .s A4 c4 s.env.length 59 2 (s.env.flatMap cVar)]⟩ := by
    intro z w1 L1 hz N1 d
    induction d with
    | zero =>
      intro i hd hi s A4 c4 hs b0 u
      obtain rfl : i = l.length := by omega
      obtain ⟨pty, term, q0, q1, q2, q3, t, env, st⟩ := s
      refine Hs.run0 300 (fun _ => by kernel_rfl) ?_
      refine Hs.condP ((l.length : Int) < (l.length : Int)) (by kernel_rfl) (fun h => by omega) (fun _ => ?_)
      cases pty <;> cases st
      all_goals
        refine Hs.rung0 [2] 300 (fun _ => by kernel_rfl) ?_
        exact Hs.ret (v := .bool true) Tryz.func5 (by kernel_rfl) fun w' H => ⟨rfl, N1.only H⟩
    | succ d ih =>
      intro i hd hi s A4 c4 hs b0 u
      have hil : i < l.length := by omega
      obtain ⟨x, hx⟩ : ∃ x, l[i]? = some x := ⟨_, List.getElem?_eq_getElem hil⟩
      have hxm : x ∈ l := List.mem_of_getElem? hx
      obtain ⟨ab, aoff, hA, _, _⟩ := hl.rd (by omega)
      have hih := fun s A4 c4 hs b0 u => ih (i + 1) (by omega) (by omega) s A4 c4 hs b0 u
      clear ih
      have hrd := hl.rd
      rw [hA] at hih hrd ⊢
      obtain ⟨pty, term, q0, q1, q2, q3, t, env, st⟩ := s
      replace hs : env.length ≤ 16 := hs
      have henv : env.length ≤ 1000000 := by omega
      refine Hs.run0 300 (fun _ => by kernel_rfl) ?_
      refine Hs.condP ((i : Int) < (l.length : Int)) (by kernel_rfl) (fun _ => ?_) (fun h => by omega)
      refine Hs.run0 300 (fun _ => by kernel_rfl) ?_
      refine Hs.idx (b := ab) (off := aoff) (len := l.length) (c := c) (i := i) elemAQ hil (by kernel_rfl) ?_
      refine Hs.ldx (cf := cAQ) (size := 2) (E := 34) (b := ab) (off := aoff) (i := i) (l := l) (x := x) cAQ_len (.g x.sc) (by kernel_rfl) (fun w' H => hrd.only (N1.only H)) hx (by kernel_rfl) (by kernel_rfl) rfl (by kernel_rfl) ?_
      refine Hs.run1 300 (fun _ => by kernel_rfl) fun b2 => ?_
      refine Hs.callSX (X := SS × AC) (cf := cVar) (E := 59) (size := 2) (fun y A cap => .tuple #[y.1.val A cap, y.2.val]) (fun y => y.1.env) (fun y => y.1.env.length) (OnceC ps.length ⟨pty, term, q0, q1, q2, q3, t, env, st⟩) (fun _ _ => rfl) (fun w' H => ask_once ⟨pty, term, q0, q1, q2, q3, t, env, st⟩ A4 c4 x z.2.2 ps.length hz z.1 z.2.1 w' i0 (cell_step (N1.only H) h00) (H.rdX 1 rfl (by kernel_rfl : _ = some (HB.s A4 c4 env.length 59 2 (env.flatMap cVar)))) henv ((hl.all x hxm).only (N1.only H)) (N1.now H).1.1.rd (Nat.le_trans (N1.now H).1.1.le (N1.now H).1.1.max)) (by kernel_rfl) (by kernel_rfl) fun y hy A5 c5 h5 h6 => ?_
      refine Hs.run2 300 (fun _ => by kernel_rfl) fun b4 b5 => ?_
      rcases hy with rfl | ⟨h1, h2, tm, e0, e1, e2, e3, t2, ht, rfl⟩ | ⟨h1, env2, he, rfl⟩ | ⟨h1, k, hk1, hk2, rfl⟩ | ⟨h1, h2, e0, e1, e2, e3, rfl⟩ | ⟨h1, h2, e0, e1, e2, e3, rfl⟩ | ⟨h1, k, rfl⟩
      · cases pty <;> cases st
        · refine Hs.any [0, 4, 5] (by kernel_rfl) ?_
          refine Hs.rung0 [3] 300 (fun _ => by kernel_rfl) ?_
          refine Hs.callS (cf := cVar) (E := 76) (size := 2) (fun A cap => SS.val ⟨false, term, q0, q1, q2, q3, t, env, false⟩ A cap) env env.length rfl (fun w' H => from27_any27 ⟨false, term, q0, q1, q2, q3, t, env, false⟩ A4 c4 w' (H.rdX 1 rfl (by kernel_rfl : _ = some (HB.s A4 c4 env.length 59 2 (env.flatMap cVar)))) henv) (by kernel_rfl) (by kernel_rfl) fun A7 c7 _ _ => ?_
          refine Hs.rung0 [3] 300 (fun _ => by kernel_rfl) ?_
          refine Hs.callS (cf := cVar) (E := 76) (size := 2) (fun A cap => SS.val ⟨false, term, q0, q1, q2, q3, t, env, false⟩ A cap) env env.length rfl (fun w' H => from27_any27 ⟨false, term, q0, q1, q2, q3, t, env, false⟩ A5 c5 w' (H.rdX 3 rfl (by kernel_rfl : _ = some (HB.s A5 c5 env.length 59 2 (env.flatMap cVar)))) henv) (by kernel_rfl) (by kernel_rfl) fun A8 c8 _ _ => ?_
          refine Hs.rung0 [3] 300 (fun _ => by kernel_rfl) ?_
          refine Hs.callV (fun w' H => rsame_any27 ⟨false, term, q0, q1, q2, q3, t, env, false⟩ A7 A8 c7 c8 w' (H.rdX 6 rfl (by kernel_rfl : _ = some (HB.s A7 c7 env.length 76 2 (env.flatMap cVar)))) (H.rdX 7 rfl (by kernel_rfl : _ = some (HB.s A8 c8 env.length 76 2 (env.flatMap cVar)))) henv) (by kernel_rfl) ?_
          refine Hs.rung0 [3, 10] 4 (fun _ => by kernel_rfl) ?_
          refine Hs.sel1 13 (by kernel_rfl) ?_
          refine Hs.rung0 [10] 1 (fun _ => by kernel_rfl) ?_
          refine Hs.same (op := .neq) (T := 44) #[.bool false, .int .i64 0, .int .i64 0, .int .i64 0, .int .u32 0, .int .u32 0, .int .u32 0, .int .u32 0] false (by kernel_rfl) (.inr ⟨rfl, rfl⟩) (by kernel_rfl) ?_
          refine Hs.rung0 [3, 10] 300 (fun _ => by kernel_rfl) ?_
          refine Hs.condF (by kernel_rfl) ?_
          refine Hs.run0 300 (fun _ => by kernel_rfl) ?_
          refine Hs.condF (by kernel_rfl) ?_
          refine Hs.rung0 [2] 300 (fun _ => by kernel_rfl) ?_
          refine Hs.condF (by kernel_rfl) ?_
          refine Hs.rung0 [2, 8, 15, 21, 24, 30] 300 (fun _ => by kernel_rfl) ?_
          refine Hs.bool 130 (decide ((env.length : Int) > 16)) (by kernel_rfl) (fun h => by simp at h; omega) (fun _ => ?_)
          refine Hs.rung0 [2, 8, 15, 21, 24, 30, 36, 39] 300 (fun _ => by kernel_rfl) ?_
          refine Hs.condF (by kernel_rfl) ?_
          refine Hs.rung0 [3, 8] 300 (fun _ => by kernel_rfl) ?_
          refine Hs.condF (by kernel_rfl) ?_
          refine Hs.run0 300 (fun _ => by kernel_rfl) ?_
          refine Hs.slot 23 (.c (.v (.int .i64 (i + 1 : Nat)))) rfl ((by kernel_rfl : _ = Value.int .i64 (IntKind.i64.wrap ((i : Int) + 1))).trans (wrap_nextJ hlen)) ?_
          refine Hs.loop (by kernel_rfl) ?_
          exact Hs.goto (loopAt Tryz.f5 0) [0, 3] [.b true 41 (SS.sc ⟨false, term, q0, q1, q2, q3, t, env, false⟩ A5 c5), .s A5 c5 env.length 59 2 (env.flatMap cVar)] [(5, .c (.p 0 0)), (6, .c (.v (.slice z.1 ps.length z.2.1))), (7, .c (.v (.int .i64 (if false then 1 else 0)))), (8, .c (.v (.int .i64 (if false then 1 else 0)))), (21, .c (.v (.slice (some ⟨ab, aoff, none⟩) l.length c))), (22, .c (.v (.int .i64 l.length))), (23, .c (.v (.int .i64 (i + 1 : Nat))))] (by kernel_rfl) (by decide) (by kernel_rfl) (by kernel_rfl) (fun _ => (by kernel_rfl)) (fun u => hih ⟨false, term, q0, q1, q2, q3, t, env, false⟩ A5 c5 (show env.length ≤ 16 by omega) b0 u)
        · refine Hs.any [0, 4, 5] (by kernel_rfl) ?_
          refine Hs.rung0 [3] 300 (fun _ => by kernel_rfl) ?_
          refine Hs.callS (cf := cVar) (E := 76) (size := 2) (fun A cap => SS.val ⟨false, term, q0, q1, q2, q3, t, env, true⟩ A cap) env env.length rfl (fun w' H => from27_any27 ⟨false, term, q0, q1, q2, q3, t, env, true⟩ A4 c4 w' (H.rdX 1 rfl (by kernel_rfl : _ = some (HB.s A4 c4 env.length 59 2 (env.flatMap cVar)))) henv) (by kernel_rfl) (by kernel_rfl) fun A7 c7 _ _ => ?_
          refine Hs.rung0 [3] 300 (fun _ => by kernel_rfl) ?_
          refine Hs.callS (cf := cVar) (E := 76) (size := 2) (fun A cap => SS.val ⟨false, term, q0, q1, q2, q3, t, env, true⟩ A cap) env env.length rfl (fun w' H => from27_any27 ⟨false, term, q0, q1, q2, q3, t, env, true⟩ A5 c5 w' (H.rdX 3 rfl (by kernel_rfl : _ = some (HB.s A5 c5 env.length 59 2 (env.flatMap cVar)))) henv) (by kernel_rfl) (by kernel_rfl) fun A8 c8 _ _ => ?_
          refine Hs.rung0 [3] 300 (fun _ => by kernel_rfl) ?_
          refine Hs.callV (fun w' H => rsame_any27 ⟨false, term, q0, q1, q2, q3, t, env, true⟩ A7 A8 c7 c8 w' (H.rdX 6 rfl (by kernel_rfl : _ = some (HB.s A7 c7 env.length 76 2 (env.flatMap cVar)))) (H.rdX 7 rfl (by kernel_rfl : _ = some (HB.s A8 c8 env.length 76 2 (env.flatMap cVar)))) henv) (by kernel_rfl) ?_
          refine Hs.rung0 [3, 10] 4 (fun _ => by kernel_rfl) ?_
          refine Hs.sel1 13 (by kernel_rfl) ?_
          refine Hs.rung0 [10] 1 (fun _ => by kernel_rfl) ?_
          refine Hs.same (op := .neq) (T := 44) #[.bool false, .int .i64 0, .int .i64 0, .int .i64 0, .int .u32 0, .int .u32 0, .int .u32 0, .int .u32 0] false (by kernel_rfl) (.inr ⟨rfl, rfl⟩) (by kernel_rfl) ?_
          refine Hs.rung0 [3, 10] 300 (fun _ => by kernel_rfl) ?_
          refine Hs.condF (by kernel_rfl) ?_
          refine Hs.run0 300 (fun _ => by kernel_rfl) ?_
          refine Hs.condF (by kernel_rfl) ?_
          refine Hs.rung0 [2] 300 (fun _ => by kernel_rfl) ?_
          refine Hs.condF (by kernel_rfl) ?_
          refine Hs.rung0 [2, 8, 15, 21, 24, 30] 300 (fun _ => by kernel_rfl) ?_
          refine Hs.bool 130 (decide ((env.length : Int) > 16)) (by kernel_rfl) (fun h => by simp at h; omega) (fun _ => ?_)
          refine Hs.rung0 [2, 8, 15, 21, 24, 30, 36, 39] 300 (fun _ => by kernel_rfl) ?_
          refine Hs.cond ((env.length : Int) != (env.length : Int)) (by kernel_rfl) (fun h => by simp at h) (fun _ => ?_)
          refine Hs.rung0 [3, 8] 300 (fun _ => by kernel_rfl) ?_
          refine Hs.condF (by kernel_rfl) ?_
          refine Hs.run0 300 (fun _ => by kernel_rfl) ?_
          refine Hs.slot 23 (.c (.v (.int .i64 (i + 1 : Nat)))) rfl ((by kernel_rfl : _ = Value.int .i64 (IntKind.i64.wrap ((i : Int) + 1))).trans (wrap_nextJ hlen)) ?_
          refine Hs.loop (by kernel_rfl) ?_
          exact Hs.goto (loopAt Tryz.f5 0) [0, 3] [.b true 41 (SS.sc ⟨false, term, q0, q1, q2, q3, t, env, true⟩ A5 c5), .s A5 c5 env.length 59 2 (env.flatMap cVar)] [(5, .c (.p 0 0)), (6, .c (.v (.slice z.1 ps.length z.2.1))), (7, .c (.v (.int .i64 (if true then 1 else 0)))), (8, .c (.v (.int .i64 (if false then 1 else 0)))), (21, .c (.v (.slice (some ⟨ab, aoff, none⟩) l.length c))), (22, .c (.v (.int .i64 l.length))), (23, .c (.v (.int .i64 (i + 1 : Nat))))] (by kernel_rfl) (by decide) (by kernel_rfl) (by kernel_rfl) (fun _ => (by kernel_rfl)) (fun u => hih ⟨false, term, q0, q1, q2, q3, t, env, true⟩ A5 c5 (show env.length ≤ 16 by omega) b0 u)
        · refine Hs.any [0, 4, 5] (by kernel_rfl) ?_
          refine Hs.rung0 [3] 300 (fun _ => by kernel_rfl) ?_
          refine Hs.callS (cf := cVar) (E := 76) (size := 2) (fun A cap => SS.val ⟨true, term, q0, q1, q2, q3, t, env, false⟩ A cap) env env.length rfl (fun w' H => from27_any27 ⟨true, term, q0, q1, q2, q3, t, env, false⟩ A4 c4 w' (H.rdX 1 rfl (by kernel_rfl : _ = some (HB.s A4 c4 env.length 59 2 (env.flatMap cVar)))) henv) (by kernel_rfl) (by kernel_rfl) fun A7 c7 _ _ => ?_
          refine Hs.rung0 [3] 300 (fun _ => by kernel_rfl) ?_
          refine Hs.callS (cf := cVar) (E := 76) (size := 2) (fun A cap => SS.val ⟨true, term, q0, q1, q2, q3, t, env, false⟩ A cap) env env.length rfl (fun w' H => from27_any27 ⟨true, term, q0, q1, q2, q3, t, env, false⟩ A5 c5 w' (H.rdX 3 rfl (by kernel_rfl : _ = some (HB.s A5 c5 env.length 59 2 (env.flatMap cVar)))) henv) (by kernel_rfl) (by kernel_rfl) fun A8 c8 _ _ => ?_
          refine Hs.rung0 [3] 300 (fun _ => by kernel_rfl) ?_
          refine Hs.callV (fun w' H => rsame_any27 ⟨true, term, q0, q1, q2, q3, t, env, false⟩ A7 A8 c7 c8 w' (H.rdX 6 rfl (by kernel_rfl : _ = some (HB.s A7 c7 env.length 76 2 (env.flatMap cVar)))) (H.rdX 7 rfl (by kernel_rfl : _ = some (HB.s A8 c8 env.length 76 2 (env.flatMap cVar)))) henv) (by kernel_rfl) ?_
          refine Hs.rung0 [3, 10] 4 (fun _ => by kernel_rfl) ?_
          refine Hs.sel1 13 (by kernel_rfl) ?_
          refine Hs.rung0 [10] 1 (fun _ => by kernel_rfl) ?_
          refine Hs.same (op := .neq) (T := 44) #[.bool false, .int .i64 0, .int .i64 0, .int .i64 0, .int .u32 0, .int .u32 0, .int .u32 0, .int .u32 0] false (by kernel_rfl) (.inr ⟨rfl, rfl⟩) (by kernel_rfl) ?_
          refine Hs.rung0 [3, 10] 300 (fun _ => by kernel_rfl) ?_
          refine Hs.condF (by kernel_rfl) ?_
          refine Hs.run0 300 (fun _ => by kernel_rfl) ?_
          refine Hs.condF (by kernel_rfl) ?_
          refine Hs.rung0 [2] 300 (fun _ => by kernel_rfl) ?_
          refine Hs.condF (by kernel_rfl) ?_
          refine Hs.rung0 [2] 16 (fun _ => by kernel_rfl) ?_
          refine Hs.sameA (op := .neq) (T := 28) (TM.cells t).toArray false (by kernel_rfl) (.inr ⟨rfl, rfl⟩) (by kernel_rfl) ?_
          refine Hs.rung0 [2, 8] 300 (fun _ => by kernel_rfl) ?_
          refine Hs.bool 109 (!(term.toList == term.toList)) (by kernel_rfl) (fun h => by simp at h) (fun _ => ?_)
          refine Hs.rung0 [2, 8, 15, 21, 24, 30] 300 (fun _ => by kernel_rfl) ?_
          refine Hs.bool 130 (decide ((env.length : Int) > 16)) (by kernel_rfl) (fun h => by simp at h; omega) (fun _ => ?_)
          refine Hs.rung0 [2, 8, 15, 21, 24, 30, 36, 39] 300 (fun _ => by kernel_rfl) ?_
          refine Hs.condF (by kernel_rfl) ?_
          refine Hs.rung0 [3, 8] 300 (fun _ => by kernel_rfl) ?_
          refine Hs.condF (by kernel_rfl) ?_
          refine Hs.run0 300 (fun _ => by kernel_rfl) ?_
          refine Hs.slot 23 (.c (.v (.int .i64 (i + 1 : Nat)))) rfl ((by kernel_rfl : _ = Value.int .i64 (IntKind.i64.wrap ((i : Int) + 1))).trans (wrap_nextJ hlen)) ?_
          refine Hs.loop (by kernel_rfl) ?_
          exact Hs.goto (loopAt Tryz.f5 0) [0, 3] [.b true 41 (SS.sc ⟨true, term, q0, q1, q2, q3, t, env, false⟩ A5 c5), .s A5 c5 env.length 59 2 (env.flatMap cVar)] [(5, .c (.p 0 0)), (6, .c (.v (.slice z.1 ps.length z.2.1))), (7, .c (.v (.int .i64 (if false then 1 else 0)))), (8, .c (.v (.int .i64 (if true then 1 else 0)))), (21, .c (.v (.slice (some ⟨ab, aoff, none⟩) l.length c))), (22, .c (.v (.int .i64 l.length))), (23, .c (.v (.int .i64 (i + 1 : Nat))))] (by kernel_rfl) (by decide) (by kernel_rfl) (by kernel_rfl) (fun _ => (by kernel_rfl)) (fun u => hih ⟨true, term, q0, q1, q2, q3, t, env, false⟩ A5 c5 (show env.length ≤ 16 by omega) b0 u)
        · refine Hs.any [0, 4, 5] (by kernel_rfl) ?_
          refine Hs.rung0 [3] 300 (fun _ => by kernel_rfl) ?_
          refine Hs.callS (cf := cVar) (E := 76) (size := 2) (fun A cap => SS.val ⟨true, term, q0, q1, q2, q3, t, env, true⟩ A cap) env env.length rfl (fun w' H => from27_any27 ⟨true, term, q0, q1, q2, q3, t, env, true⟩ A4 c4 w' (H.rdX 1 rfl (by kernel_rfl : _ = some (HB.s A4 c4 env.length 59 2 (env.flatMap cVar)))) henv) (by kernel_rfl) (by kernel_rfl) fun A7 c7 _ _ => ?_
          refine Hs.rung0 [3] 300 (fun _ => by kernel_rfl) ?_
          refine Hs.callS (cf := cVar) (E := 76) (size := 2) (fun A cap => SS.val ⟨true, term, q0, q1, q2, q3, t, env, true⟩ A cap) env env.length rfl (fun w' H => from27_any27 ⟨true, term, q0, q1, q2, q3, t, env, true⟩ A5 c5 w' (H.rdX 3 rfl (by kernel_rfl : _ = some (HB.s A5 c5 env.length 59 2 (env.flatMap cVar)))) henv) (by kernel_rfl) (by kernel_rfl) fun A8 c8 _ _ => ?_
          refine Hs.rung0 [3] 300 (fun _ => by kernel_rfl) ?_
          refine Hs.callV (fun w' H => rsame_any27 ⟨true, term, q0, q1, q2, q3, t, env, true⟩ A7 A8 c7 c8 w' (H.rdX 6 rfl (by kernel_rfl : _ = some (HB.s A7 c7 env.length 76 2 (env.flatMap cVar)))) (H.rdX 7 rfl (by kernel_rfl : _ = some (HB.s A8 c8 env.length 76 2 (env.flatMap cVar)))) henv) (by kernel_rfl) ?_
          refine Hs.rung0 [3, 10] 4 (fun _ => by kernel_rfl) ?_
          refine Hs.sel1 13 (by kernel_rfl) ?_
          refine Hs.rung0 [10] 1 (fun _ => by kernel_rfl) ?_
          refine Hs.same (op := .neq) (T := 44) #[.bool false, .int .i64 0, .int .i64 0, .int .i64 0, .int .u32 0, .int .u32 0, .int .u32 0, .int .u32 0] false (by kernel_rfl) (.inr ⟨rfl, rfl⟩) (by kernel_rfl) ?_
          refine Hs.rung0 [3, 10] 300 (fun _ => by kernel_rfl) ?_
          refine Hs.condF (by kernel_rfl) ?_
          refine Hs.run0 300 (fun _ => by kernel_rfl) ?_
          refine Hs.condF (by kernel_rfl) ?_
          refine Hs.rung0 [2] 300 (fun _ => by kernel_rfl) ?_
          refine Hs.condF (by kernel_rfl) ?_
          refine Hs.rung0 [2] 16 (fun _ => by kernel_rfl) ?_
          refine Hs.sameA (op := .neq) (T := 28) (TM.cells t).toArray false (by kernel_rfl) (.inr ⟨rfl, rfl⟩) (by kernel_rfl) ?_
          refine Hs.rung0 [2, 8] 300 (fun _ => by kernel_rfl) ?_
          refine Hs.bool 109 (!(term.toList == term.toList)) (by kernel_rfl) (fun h => by simp at h) (fun _ => ?_)
          refine Hs.rung0 [2, 8, 15, 21, 24, 30] 300 (fun _ => by kernel_rfl) ?_
          refine Hs.bool 130 (decide ((env.length : Int) > 16)) (by kernel_rfl) (fun h => by simp at h; omega) (fun _ => ?_)
          refine Hs.rung0 [2, 8, 15, 21, 24, 30, 36, 39] 300 (fun _ => by kernel_rfl) ?_
          refine Hs.cond ((env.length : Int) != (env.length : Int)) (by kernel_rfl) (fun h => by simp at h) (fun _ => ?_)
          refine Hs.rung0 [3, 8] 300 (fun _ => by kernel_rfl) ?_
          refine Hs.condF (by kernel_rfl) ?_
          refine Hs.run0 300 (fun _ => by kernel_rfl) ?_
          refine Hs.slot 23 (.c (.v (.int .i64 (i + 1 : Nat)))) rfl ((by kernel_rfl : _ = Value.int .i64 (IntKind.i64.wrap ((i : Int) + 1))).trans (wrap_nextJ hlen)) ?_
          refine Hs.loop (by kernel_rfl) ?_
          exact Hs.goto (loopAt Tryz.f5 0) [0, 3] [.b true 41 (SS.sc ⟨true, term, q0, q1, q2, q3, t, env, true⟩ A5 c5), .s A5 c5 env.length 59 2 (env.flatMap cVar)] [(5, .c (.p 0 0)), (6, .c (.v (.slice z.1 ps.length z.2.1))), (7, .c (.v (.int .i64 (if true then 1 else 0)))), (8, .c (.v (.int .i64 (if true then 1 else 0)))), (21, .c (.v (.slice (some ⟨ab, aoff, none⟩) l.length c))), (22, .c (.v (.int .i64 l.length))), (23, .c (.v (.int .i64 (i + 1 : Nat))))] (by kernel_rfl) (by decide) (by kernel_rfl) (by kernel_rfl) (fun _ => (by kernel_rfl)) (fun u => hih ⟨true, term, q0, q1, q2, q3, t, env, true⟩ A5 c5 (show env.length ≤ 16 by omega) b0 u)
      · replace h1 : pty = false := h1
        replace h2 : st = false := h2
        subst h1 h2
        refine Hs.any [0, 4, 5] (by kernel_rfl) ?_
        refine Hs.rung0 [3, 10] 300 (fun _ => by kernel_rfl) ?_
        refine Hs.condF (by kernel_rfl) ?_
        refine Hs.run0 300 (fun _ => by kernel_rfl) ?_
        refine Hs.condF (by kernel_rfl) ?_
        refine Hs.rung0 [2] 300 (fun _ => by kernel_rfl) ?_
        refine Hs.condT (by kernel_rfl) ?_
        refine Hs.rung0 [2] 300 (fun _ => by kernel_rfl) ?_
        refine Hs.callV (v := .bool true) (fun w' H => (right_any t2 w').mono fun e w1 h => ⟨h.1.trans (by rw [ht]), only_of_below h.2⟩) (by kernel_rfl) ?_
        refine Hs.rung0 [2] 300 (fun _ => by kernel_rfl) ?_
        refine Hs.condF (by kernel_rfl) ?_
        refine Hs.rung0 [2, 8, 15, 21, 24, 30] 300 (fun _ => by kernel_rfl) ?_
        refine Hs.bool 130 (decide ((env.length : Int) > 16)) (by kernel_rfl) (fun h => by simp at h; omega) (fun _ => ?_)
        refine Hs.rung0 [2, 8, 15, 21, 24, 30, 36, 39] 300 (fun _ => by kernel_rfl) ?_
        refine Hs.condF (by kernel_rfl) ?_
        refine Hs.rung0 [3, 8] 300 (fun _ => by kernel_rfl) ?_
        refine Hs.condF (by kernel_rfl) ?_
        refine Hs.run0 300 (fun _ => by kernel_rfl) ?_
        refine Hs.slot 23 (.c (.v (.int .i64 (i + 1 : Nat)))) rfl ((by kernel_rfl : _ = Value.int .i64 (IntKind.i64.wrap ((i : Int) + 1))).trans (wrap_nextJ hlen)) ?_
        refine Hs.loop (by kernel_rfl) ?_
        exact Hs.goto (loopAt Tryz.f5 0) [0, 3] [.b true 41 (SS.sc ⟨true, tm, e0, e1, e2, e3, t2, env, false⟩ A5 c5), .s A5 c5 env.length 59 2 (env.flatMap cVar)] [(5, .c (.p 0 0)), (6, .c (.v (.slice z.1 ps.length z.2.1))), (7, .c (.v (.int .i64 (if false then 1 else 0)))), (8, .c (.v (.int .i64 (if true then 1 else 0)))), (21, .c (.v (.slice (some ⟨ab, aoff, none⟩) l.length c))), (22, .c (.v (.int .i64 l.length))), (23, .c (.v (.int .i64 (i + 1 : Nat))))] (by kernel_rfl) (by decide) (by kernel_rfl) (by kernel_rfl) (fun _ => (by kernel_rfl)) (fun u => hih ⟨true, tm, e0, e1, e2, e3, t2, env, false⟩ A5 c5 (show env.length ≤ 16 by omega) b0 u)
      · replace h1 : st = false := h1
        subst h1
        replace he : env2.length = env.length ∨ env2.length ≤ 16 := he
        cases pty
        · refine Hs.any [0, 4, 5] (by kernel_rfl) ?_
          refine Hs.rung0 [3, 10] 300 (fun _ => by kernel_rfl) ?_
          refine Hs.condF (by kernel_rfl) ?_
          refine Hs.run0 300 (fun _ => by kernel_rfl) ?_
          refine Hs.condF (by kernel_rfl) ?_
          refine Hs.rung0 [2] 300 (fun _ => by kernel_rfl) ?_
          refine Hs.condF (by kernel_rfl) ?_
          refine Hs.rung0 [2, 8, 15, 21, 24, 30] 300 (fun _ => by kernel_rfl) ?_
          refine Hs.bool 130 (decide ((env2.length : Int) > 16)) (by kernel_rfl) (fun h => by simp at h; omega) (fun _ => ?_)
          refine Hs.rung0 [2, 8, 15, 21, 24, 30, 36, 39] 300 (fun _ => by kernel_rfl) ?_
          refine Hs.condF (by kernel_rfl) ?_
          refine Hs.rung0 [3, 8] 300 (fun _ => by kernel_rfl) ?_
          refine Hs.condF (by kernel_rfl) ?_
          refine Hs.run0 300 (fun _ => by kernel_rfl) ?_
          refine Hs.slot 23 (.c (.v (.int .i64 (i + 1 : Nat)))) rfl ((by kernel_rfl : _ = Value.int .i64 (IntKind.i64.wrap ((i : Int) + 1))).trans (wrap_nextJ hlen)) ?_
          refine Hs.loop (by kernel_rfl) ?_
          exact Hs.goto (loopAt Tryz.f5 0) [0, 3] [.b true 41 (SS.sc ⟨false, term, q0, q1, q2, q3, t, env2, false⟩ A5 c5), .s A5 c5 env2.length 59 2 (env2.flatMap cVar)] [(5, .c (.p 0 0)), (6, .c (.v (.slice z.1 ps.length z.2.1))), (7, .c (.v (.int .i64 (if false then 1 else 0)))), (8, .c (.v (.int .i64 (if false then 1 else 0)))), (21, .c (.v (.slice (some ⟨ab, aoff, none⟩) l.length c))), (22, .c (.v (.int .i64 l.length))), (23, .c (.v (.int .i64 (i + 1 : Nat))))] (by kernel_rfl) (by decide) (by kernel_rfl) (by kernel_rfl) (fun _ => (by kernel_rfl)) (fun u => hih ⟨false, term, q0, q1, q2, q3, t, env2, false⟩ A5 c5 (show env2.length ≤ 16 by omega) b0 u)
        · refine Hs.any [0, 4, 5] (by kernel_rfl) ?_
          refine Hs.rung0 [3, 10] 300 (fun _ => by kernel_rfl) ?_
          refine Hs.condF (by kernel_rfl) ?_
          refine Hs.run0 300 (fun _ => by kernel_rfl) ?_
          refine Hs.condF (by kernel_rfl) ?_
          refine Hs.rung0 [2] 300 (fun _ => by kernel_rfl) ?_
          refine Hs.condF (by kernel_rfl) ?_
          refine Hs.rung0 [2] 16 (fun _ => by kernel_rfl) ?_
          refine Hs.sameA (op := .neq) (T := 28) (TM.cells t).toArray false (by kernel_rfl) (.inr ⟨rfl, rfl⟩) (by kernel_rfl) ?_
          refine Hs.rung0 [2, 8] 300 (fun _ => by kernel_rfl) ?_
          refine Hs.bool 109 (!(term.toList == term.toList)) (by kernel_rfl) (fun h => by simp at h) (fun _ => ?_)
          refine Hs.rung0 [2, 8, 15, 21, 24, 30] 300 (fun _ => by kernel_rfl) ?_
          refine Hs.bool 130 (decide ((env2.length : Int) > 16)) (by kernel_rfl) (fun h => by simp at h; omega) (fun _ => ?_)
          refine Hs.rung0 [2, 8, 15, 21, 24, 30, 36, 39] 300 (fun _ => by kernel_rfl) ?_
          refine Hs.condF (by kernel_rfl) ?_
          refine Hs.rung0 [3, 8] 300 (fun _ => by kernel_rfl) ?_
          refine Hs.condF (by kernel_rfl) ?_
          refine Hs.run0 300 (fun _ => by kernel_rfl) ?_
          refine Hs.slot 23 (.c (.v (.int .i64 (i + 1 : Nat)))) rfl ((by kernel_rfl : _ = Value.int .i64 (IntKind.i64.wrap ((i : Int) + 1))).trans (wrap_nextJ hlen)) ?_
          refine Hs.loop (by kernel_rfl) ?_
          exact Hs.goto (loopAt Tryz.f5 0) [0, 3] [.b true 41 (SS.sc ⟨true, term, q0, q1, q2, q3, t, env2, false⟩ A5 c5), .s A5 c5 env2.length 59 2 (env2.flatMap cVar)] [(5, .c (.p 0 0)), (6, .c (.v (.slice z.1 ps.length z.2.1))), (7, .c (.v (.int .i64 (if false then 1 else 0)))), (8, .c (.v (.int .i64 (if true then 1 else 0)))), (21, .c (.v (.slice (some ⟨ab, aoff, none⟩) l.length c))), (22, .c (.v (.int .i64 l.length))), (23, .c (.v (.int .i64 (i + 1 : Nat))))] (by kernel_rfl) (by decide) (by kernel_rfl) (by kernel_rfl) (fun _ => (by kernel_rfl)) (fun u => hih ⟨true, term, q0, q1, q2, q3, t, env2, false⟩ A5 c5 (show env2.length ≤ 16 by omega) b0 u)
      · replace h1 : st = false := h1
        subst h1
        cases pty
        · refine Hs.any [0, 4, 5] (by kernel_rfl) ?_
          refine Hs.rung0 [3, 10] 300 (fun _ => by kernel_rfl) ?_
          refine Hs.condF (by kernel_rfl) ?_
          refine Hs.run0 300 (fun _ => by kernel_rfl) ?_
          refine Hs.condT (by kernel_rfl) ?_
          refine Hs.run0 300 (fun _ => by kernel_rfl) ?_
          refine Hs.bool 61 (decide (k < 0)) (by kernel_rfl) (fun h => by simp at h; omega) (fun _ => ?_)
          refine Hs.rung0 [3] 300 (fun _ => by kernel_rfl) ?_
          refine Hs.bool 68 (decide (k ≥ (ps.length : Int))) (by kernel_rfl) (fun h => by simp at h; omega) (fun _ => ?_)
          refine Hs.rung0 [3, 10, 15] 300 (fun _ => by kernel_rfl) ?_
          refine Hs.condF (by kernel_rfl) ?_
          refine Hs.rung0 [2] 300 (fun _ => by kernel_rfl) ?_
          refine Hs.condF (by kernel_rfl) ?_
          refine Hs.rung0 [2, 8, 15, 21, 24, 30] 300 (fun _ => by kernel_rfl) ?_
          refine Hs.bool 130 (decide ((env.length : Int) > 16)) (by kernel_rfl) (fun h => by simp at h; omega) (fun _ => ?_)
          refine Hs.rung0 [2, 8, 15, 21, 24, 30, 36, 39] 300 (fun _ => by kernel_rfl) ?_
          refine Hs.condF (by kernel_rfl) ?_
          refine Hs.rung0 [3, 8] 300 (fun _ => by kernel_rfl) ?_
          refine Hs.condF (by kernel_rfl) ?_
          refine Hs.run0 300 (fun _ => by kernel_rfl) ?_
          refine Hs.slot 23 (.c (.v (.int .i64 (i + 1 : Nat)))) rfl ((by kernel_rfl : _ = Value.int .i64 (IntKind.i64.wrap ((i : Int) + 1))).trans (wrap_nextJ hlen)) ?_
          refine Hs.loop (by kernel_rfl) ?_
          exact Hs.goto (loopAt Tryz.f5 0) [0, 3] [.b true 41 (SS.sc ⟨false, term, q0, q1, q2, q3, t, env, true⟩ A5 c5), .s A5 c5 env.length 59 2 (env.flatMap cVar)] [(5, .c (.p 0 0)), (6, .c (.v (.slice z.1 ps.length z.2.1))), (7, .c (.v (.int .i64 (if true then 1 else 0)))), (8, .c (.v (.int .i64 (if false then 1 else 0)))), (21, .c (.v (.slice (some ⟨ab, aoff, none⟩) l.length c))), (22, .c (.v (.int .i64 l.length))), (23, .c (.v (.int .i64 (i + 1 : Nat))))] (by kernel_rfl) (by decide) (by kernel_rfl) (by kernel_rfl) (fun _ => (by kernel_rfl)) (fun u => hih ⟨false, term, q0, q1, q2, q3, t, env, true⟩ A5 c5 (show env.length ≤ 16 by omega) b0 u)
        · refine Hs.any [0, 4, 5] (by kernel_rfl) ?_
          refine Hs.rung0 [3, 10] 300 (fun _ => by kernel_rfl) ?_
          refine Hs.condF (by kernel_rfl) ?_
          refine Hs.run0 300 (fun _ => by kernel_rfl) ?_
          refine Hs.condT (by kernel_rfl) ?_
          refine Hs.run0 300 (fun _ => by kernel_rfl) ?_
          refine Hs.bool 61 (decide (k < 0)) (by kernel_rfl) (fun h => by simp at h; omega) (fun _ => ?_)
          refine Hs.rung0 [3] 300 (fun _ => by kernel_rfl) ?_
          refine Hs.bool 68 (decide (k ≥ (ps.length : Int))) (by kernel_rfl) (fun h => by simp at h; omega) (fun _ => ?_)
          refine Hs.rung0 [3, 10, 15] 300 (fun _ => by kernel_rfl) ?_
          refine Hs.condF (by kernel_rfl) ?_
          refine Hs.rung0 [2] 300 (fun _ => by kernel_rfl) ?_
          refine Hs.condF (by kernel_rfl) ?_
          refine Hs.rung0 [2] 16 (fun _ => by kernel_rfl) ?_
          refine Hs.sameA (op := .neq) (T := 28) (TM.cells t).toArray false (by kernel_rfl) (.inr ⟨rfl, rfl⟩) (by kernel_rfl) ?_
          refine Hs.rung0 [2, 8] 300 (fun _ => by kernel_rfl) ?_
          refine Hs.bool 109 (!(term.toList == term.toList)) (by kernel_rfl) (fun h => by simp at h) (fun _ => ?_)
          refine Hs.rung0 [2, 8, 15, 21, 24, 30] 300 (fun _ => by kernel_rfl) ?_
          refine Hs.bool 130 (decide ((env.length : Int) > 16)) (by kernel_rfl) (fun h => by simp at h; omega) (fun _ => ?_)
          refine Hs.rung0 [2, 8, 15, 21, 24, 30, 36, 39] 300 (fun _ => by kernel_rfl) ?_
          refine Hs.condF (by kernel_rfl) ?_
          refine Hs.rung0 [3, 8] 300 (fun _ => by kernel_rfl) ?_
          refine Hs.condF (by kernel_rfl) ?_
          refine Hs.run0 300 (fun _ => by kernel_rfl) ?_
          refine Hs.slot 23 (.c (.v (.int .i64 (i + 1 : Nat)))) rfl ((by kernel_rfl : _ = Value.int .i64 (IntKind.i64.wrap ((i : Int) + 1))).trans (wrap_nextJ hlen)) ?_
          refine Hs.loop (by kernel_rfl) ?_
          exact Hs.goto (loopAt Tryz.f5 0) [0, 3] [.b true 41 (SS.sc ⟨true, term, q0, q1, q2, q3, t, env, true⟩ A5 c5), .s A5 c5 env.length 59 2 (env.flatMap cVar)] [(5, .c (.p 0 0)), (6, .c (.v (.slice z.1 ps.length z.2.1))), (7, .c (.v (.int .i64 (if true then 1 else 0)))), (8, .c (.v (.int .i64 (if true then 1 else 0)))), (21, .c (.v (.slice (some ⟨ab, aoff, none⟩) l.length c))), (22, .c (.v (.int .i64 l.length))), (23, .c (.v (.int .i64 (i + 1 : Nat))))] (by kernel_rfl) (by decide) (by kernel_rfl) (by kernel_rfl) (fun _ => (by kernel_rfl)) (fun u => hih ⟨true, term, q0, q1, q2, q3, t, env, true⟩ A5 c5 (show env.length ≤ 16 by omega) b0 u)
      · replace h1 : pty = true := h1
        replace h2 : st = true := h2
        subst h1 h2
        refine Hs.any [0, 4, 5] (by kernel_rfl) ?_
        refine Hs.rung0 [3, 10] 300 (fun _ => by kernel_rfl) ?_
        refine Hs.condF (by kernel_rfl) ?_
        refine Hs.run0 300 (fun _ => by kernel_rfl) ?_
        refine Hs.condF (by kernel_rfl) ?_
        refine Hs.rung0 [2] 300 (fun _ => by kernel_rfl) ?_
        refine Hs.condF (by kernel_rfl) ?_
        refine Hs.rung0 [2] 16 (fun _ => by kernel_rfl) ?_
        refine Hs.sameA (op := .neq) (T := 28) (TM.cells t).toArray false (by kernel_rfl) (.inr ⟨rfl, rfl⟩) (by kernel_rfl) ?_
        refine Hs.rung0 [2, 8] 300 (fun _ => by kernel_rfl) ?_
        refine Hs.bool 109 (!(term.toList == term.toList)) (by kernel_rfl) (fun h => by simp at h) (fun _ => ?_)
        refine Hs.rung0 [2, 8, 15, 21, 24, 30] 300 (fun _ => by kernel_rfl) ?_
        refine Hs.bool 130 (decide ((env.length : Int) > 16)) (by kernel_rfl) (fun h => by simp at h; omega) (fun _ => ?_)
        refine Hs.rung0 [2, 8, 15, 21, 24, 30, 36, 39] 300 (fun _ => by kernel_rfl) ?_
        refine Hs.cond ((env.length : Int) != (env.length : Int)) (by kernel_rfl) (fun h => by simp at h) (fun _ => ?_)
        refine Hs.rung0 [3, 8] 300 (fun _ => by kernel_rfl) ?_
        refine Hs.condF (by kernel_rfl) ?_
        refine Hs.run0 300 (fun _ => by kernel_rfl) ?_
        refine Hs.slot 23 (.c (.v (.int .i64 (i + 1 : Nat)))) rfl ((by kernel_rfl : _ = Value.int .i64 (IntKind.i64.wrap ((i : Int) + 1))).trans (wrap_nextJ hlen)) ?_
        refine Hs.loop (by kernel_rfl) ?_
        exact Hs.goto (loopAt Tryz.f5 0) [0, 3] [.b true 41 (SS.sc ⟨true, term, e0, e1, e2, e3, t, env, true⟩ A5 c5), .s A5 c5 env.length 59 2 (env.flatMap cVar)] [(5, .c (.p 0 0)), (6, .c (.v (.slice z.1 ps.length z.2.1))), (7, .c (.v (.int .i64 (if true then 1 else 0)))), (8, .c (.v (.int .i64 (if true then 1 else 0)))), (21, .c (.v (.slice (some ⟨ab, aoff, none⟩) l.length c))), (22, .c (.v (.int .i64 l.length))), (23, .c (.v (.int .i64 (i + 1 : Nat))))] (by kernel_rfl) (by decide) (by kernel_rfl) (by kernel_rfl) (fun _ => (by kernel_rfl)) (fun u => hih ⟨true, term, e0, e1, e2, e3, t, env, true⟩ A5 c5 (show env.length ≤ 16 by omega) b0 u)
      · replace h1 : pty = true := h1
        replace h2 : st = false := h2
        subst h1 h2
        refine Hs.any [0, 4, 5] (by kernel_rfl) ?_
        refine Hs.rung0 [3, 10] 300 (fun _ => by kernel_rfl) ?_
        refine Hs.condF (by kernel_rfl) ?_
        refine Hs.run0 300 (fun _ => by kernel_rfl) ?_
        refine Hs.condF (by kernel_rfl) ?_
        refine Hs.rung0 [2] 300 (fun _ => by kernel_rfl) ?_
        refine Hs.condF (by kernel_rfl) ?_
        refine Hs.rung0 [2] 16 (fun _ => by kernel_rfl) ?_
        refine Hs.sameA (op := .neq) (T := 28) (TM.cells t).toArray false (by kernel_rfl) (.inr ⟨rfl, rfl⟩) (by kernel_rfl) ?_
        refine Hs.rung0 [2, 8] 300 (fun _ => by kernel_rfl) ?_
        refine Hs.bool 109 (!(term.toList == term.toList)) (by kernel_rfl) (fun h => by simp at h) (fun _ => ?_)
        refine Hs.rung0 [2, 8, 15, 21, 24, 30] 300 (fun _ => by kernel_rfl) ?_
        refine Hs.bool 130 (decide ((env.length : Int) > 16)) (by kernel_rfl) (fun h => by simp at h; omega) (fun _ => ?_)
        refine Hs.rung0 [2, 8, 15, 21, 24, 30, 36, 39] 300 (fun _ => by kernel_rfl) ?_
        refine Hs.condF (by kernel_rfl) ?_
        refine Hs.rung0 [3, 8] 300 (fun _ => by kernel_rfl) ?_
        refine Hs.condF (by kernel_rfl) ?_
        refine Hs.run0 300 (fun _ => by kernel_rfl) ?_
        refine Hs.slot 23 (.c (.v (.int .i64 (i + 1 : Nat)))) rfl ((by kernel_rfl : _ = Value.int .i64 (IntKind.i64.wrap ((i : Int) + 1))).trans (wrap_nextJ hlen)) ?_
        refine Hs.loop (by kernel_rfl) ?_
        exact Hs.goto (loopAt Tryz.f5 0) [0, 3] [.b true 41 (SS.sc ⟨true, term, e0, e1, e2, e3, t, env, false⟩ A5 c5), .s A5 c5 env.length 59 2 (env.flatMap cVar)] [(5, .c (.p 0 0)), (6, .c (.v (.slice z.1 ps.length z.2.1))), (7, .c (.v (.int .i64 (if false then 1 else 0)))), (8, .c (.v (.int .i64 (if true then 1 else 0)))), (21, .c (.v (.slice (some ⟨ab, aoff, none⟩) l.length c))), (22, .c (.v (.int .i64 l.length))), (23, .c (.v (.int .i64 (i + 1 : Nat))))] (by kernel_rfl) (by decide) (by kernel_rfl) (by kernel_rfl) (fun _ => (by kernel_rfl)) (fun u => hih ⟨true, term, e0, e1, e2, e3, t, env, false⟩ A5 c5 (show env.length ≤ 16 by omega) b0 u)
      · replace h1 : st = true := h1
        subst h1
        cases pty
        · refine Hs.any [0, 4, 5] (by kernel_rfl) ?_
          refine Hs.rung0 [3, 10] 300 (fun _ => by kernel_rfl) ?_
          refine Hs.condF (by kernel_rfl) ?_
          refine Hs.run0 300 (fun _ => by kernel_rfl) ?_
          refine Hs.condF (by kernel_rfl) ?_
          refine Hs.rung0 [2] 300 (fun _ => by kernel_rfl) ?_
          refine Hs.condF (by kernel_rfl) ?_
          refine Hs.rung0 [2, 8, 15, 21, 24, 30] 300 (fun _ => by kernel_rfl) ?_
          refine Hs.bool 130 (decide ((env.length : Int) > 16)) (by kernel_rfl) (fun h => by simp at h; omega) (fun _ => ?_)
          refine Hs.rung0 [2, 8, 15, 21, 24, 30, 36, 39] 300 (fun _ => by kernel_rfl) ?_
          refine Hs.cond ((env.length : Int) != (env.length : Int)) (by kernel_rfl) (fun h => by simp at h) (fun _ => ?_)
          refine Hs.rung0 [3, 8] 300 (fun _ => by kernel_rfl) ?_
          refine Hs.condF (by kernel_rfl) ?_
          refine Hs.run0 300 (fun _ => by kernel_rfl) ?_
          refine Hs.slot 23 (.c (.v (.int .i64 (i + 1 : Nat)))) rfl ((by kernel_rfl : _ = Value.int .i64 (IntKind.i64.wrap ((i : Int) + 1))).trans (wrap_nextJ hlen)) ?_
          refine Hs.loop (by kernel_rfl) ?_
          exact Hs.goto (loopAt Tryz.f5 0) [0, 3] [.b true 41 (SS.sc ⟨false, term, q0, q1, q2, q3, t, env, true⟩ A5 c5), .s A5 c5 env.length 59 2 (env.flatMap cVar)] [(5, .c (.p 0 0)), (6, .c (.v (.slice z.1 ps.length z.2.1))), (7, .c (.v (.int .i64 (if true then 1 else 0)))), (8, .c (.v (.int .i64 (if false then 1 else 0)))), (21, .c (.v (.slice (some ⟨ab, aoff, none⟩) l.length c))), (22, .c (.v (.int .i64 l.length))), (23, .c (.v (.int .i64 (i + 1 : Nat))))] (by kernel_rfl) (by decide) (by kernel_rfl) (by kernel_rfl) (fun _ => (by kernel_rfl)) (fun u => hih ⟨false, term, q0, q1, q2, q3, t, env, true⟩ A5 c5 (show env.length ≤ 16 by omega) b0 u)
        · refine Hs.any [0, 4, 5] (by kernel_rfl) ?_
          refine Hs.rung0 [3, 10] 300 (fun _ => by kernel_rfl) ?_
          refine Hs.condF (by kernel_rfl) ?_
          refine Hs.run0 300 (fun _ => by kernel_rfl) ?_
          refine Hs.condF (by kernel_rfl) ?_
          refine Hs.rung0 [2] 300 (fun _ => by kernel_rfl) ?_
          refine Hs.condF (by kernel_rfl) ?_
          refine Hs.rung0 [2] 16 (fun _ => by kernel_rfl) ?_
          refine Hs.sameA (op := .neq) (T := 28) (TM.cells t).toArray false (by kernel_rfl) (.inr ⟨rfl, rfl⟩) (by kernel_rfl) ?_
          refine Hs.rung0 [2, 8] 300 (fun _ => by kernel_rfl) ?_
          refine Hs.bool 109 (!(term.toList == term.toList)) (by kernel_rfl) (fun h => by simp at h) (fun _ => ?_)
          refine Hs.rung0 [2, 8, 15, 21, 24, 30] 300 (fun _ => by kernel_rfl) ?_
          refine Hs.bool 130 (decide ((env.length : Int) > 16)) (by kernel_rfl) (fun h => by simp at h; omega) (fun _ => ?_)
          refine Hs.rung0 [2, 8, 15, 21, 24, 30, 36, 39] 300 (fun _ => by kernel_rfl) ?_
          refine Hs.cond ((env.length : Int) != (env.length : Int)) (by kernel_rfl) (fun h => by simp at h) (fun _ => ?_)
          refine Hs.rung0 [3, 8] 300 (fun _ => by kernel_rfl) ?_
          refine Hs.condF (by kernel_rfl) ?_
          refine Hs.run0 300 (fun _ => by kernel_rfl) ?_
          refine Hs.slot 23 (.c (.v (.int .i64 (i + 1 : Nat)))) rfl ((by kernel_rfl : _ = Value.int .i64 (IntKind.i64.wrap ((i : Int) + 1))).trans (wrap_nextJ hlen)) ?_
          refine Hs.loop (by kernel_rfl) ?_
          exact Hs.goto (loopAt Tryz.f5 0) [0, 3] [.b true 41 (SS.sc ⟨true, term, q0, q1, q2, q3, t, env, true⟩ A5 c5), .s A5 c5 env.length 59 2 (env.flatMap cVar)] [(5, .c (.p 0 0)), (6, .c (.v (.slice z.1 ps.length z.2.1))), (7, .c (.v (.int .i64 (if true then 1 else 0)))), (8, .c (.v (.int .i64 (if true then 1 else 0)))), (21, .c (.v (.slice (some ⟨ab, aoff, none⟩) l.length c))), (22, .c (.v (.int .i64 l.length))), (23, .c (.v (.int .i64 (i + 1 : Nat))))] (by kernel_rfl) (by decide) (by kernel_rfl) (by kernel_rfl) (fun _ => (by kernel_rfl)) (fun u => hih ⟨true, term, q0, q1, q2, q3, t, env, true⟩ A5 c5 (show env.length ≤ 16 by omega) b0 u)
  refine Hs.enter Tryz.func5 [] [] [] [.c (.v (.slice A l.length c)), .c (.v (.slice B ps.length cb))] (Mem.start0 w) (by kernel_rfl) (by kernel_rfl) ?_
  refine Hs.run0 300 (fun _ => by kernel_rfl) ?_
  refine Hs.callV (fun w' H => alive27_any w' i0 (cell_step H.only h00)) (by kernel_rfl) ?_
  refine Hs.run0 300 (fun _ => by kernel_rfl) ?_
  refine Hs.condF (by kernel_rfl) ?_
  refine Hs.run0 300 (fun _ => by kernel_rfl) ?_
  refine Hs.callX (v := fun b : Bool => .bool b) (Q := fun b => b = false → Gr27 zS27 l ps) (fun w' H => great27_any zS27 none 0 l A c ps B cb w' ⟨hl.rd.only H.only, hl.le, hl.max, fun x hx => (hl.all x hx).only H.only⟩ (hp.only H.only) hf) (by kernel_rfl) fun b hb => ?_
  refine Hs.run0 300 (fun _ => by kernel_rfl) ?_
  refine Hs.cond b (by kernel_rfl) (fun h1 => ?_) (fun h1 => ?_)
  · refine Hs.run0 300 (fun _ => by kernel_rfl) ?_
    exact Hs.ret (v := .bool true) Tryz.func5 (by kernel_rfl) fun w' H => ⟨rfl, H.only⟩
  refine Hs.run1 300 (fun _ => by kernel_rfl) fun b0 => ?_
  refine Hs.callM (Nx.start w) (fun w' H => to19_any ps B cb w' (hp.only H.only) hf) (by kernel_rfl) (by kernel_rfl) fun z w1 L1 N1 => ?_
  refine Hs.fact27 (fun w' H => (N1.now H).1.len) fun hz => ?_
  refine Hs.run0 300 (fun _ => by kernel_rfl) ?_
  refine Hs.nilS 59 2 (by kernel_rfl) ?_ (by kernel_rfl)
  refine Hs.loop (by kernel_rfl) ?_
  exact Hs.goto (loopAt Tryz.f5 0) [0, 1] [.b true 41 (zS27.sc none 0), .s none 0 0 59 2 (zS27.env.flatMap cVar)] [(5, .c (.p 0 0)), (6, .c (.v (.slice z.1 ps.length z.2.1))), (7, .c (.v (.int .i64 0))), (8, .c (.v (.int .i64 0))), (21, .c (.v (.slice A l.length c))), (22, .c (.v (.int .i64 l.length))), (23, .c (.v (.int .i64 (0 : Nat))))] (by kernel_rfl) (by decide) (by kernel_rfl) (by kernel_rfl) (fun _ => (by kernel_rfl)) (fun u => J z w1 L1 hz N1 l.length 0 (by omega) (by omega) zS27 none 0 (by decide) b0 u)
end Go.Proofs.YtdplnedpbkpgpaaGreatDoor

namespace Go.Proofs.YtdplnedpbkpgpaaGreatDoor
set_option linter.all false
open Go.ChangeShapes Go.WideShapes Go.ChangeAt Go.RowKit Go.Deep

section
variable {H : Type} {enc : TypeId × Value → H} {P : Program} {w : World} {base : Nat} {spare : Nat → Bool} {held : Bool}
theorem agg_int {k : IntKind} {n : Nat} {t : TypeId} {c : Value} {y : DataW H × List MemPlace} (ht : P.underlying t = some (.int k)) (h : DataW.trod enc P w base spare held n t [c] = some y) : ∃ a, c = .int k a ∧ (Lit.int k a).wf = true := by
  obtain ⟨a, e, _, wa⟩ := DataW.trod_int ht h
  exact ⟨a, by simpa using e, wa⟩
def FieldsAt (enc : TypeId × Value → H) (P : Program) (w : World) (base : Nat) (spare : Nat → Bool) (held : Bool) (n : Nat) (fs : Array Field) (l : List Value) : Prop :=
  ∀ (j : Nat) (f : Field), fs[j]? = some f → ∃ y, DataW.trod enc P w base spare held n f.type ((l.drop f.offset).take (P.cellsOf f.type)) = some y
theorem trod_fields {n : Nat} {t : TypeId} {fs : Array Field} {l : List Value} {y : DataW H × List MemPlace} (hs : P.underlying t = some (.struct fs)) (h : DataW.trod enc P w base spare held n t l = some y) : ∃ n', FieldsAt enc P w base spare held n' fs l := by
  obtain ⟨ys, n', _, _, _, hyl, hg⟩ := DataW.trod_struct hs h
  refine ⟨n', fun j f hj => ?_⟩
  have hjl : j < fs.size := (Array.getElem?_eq_some_iff.1 hj).1
  exact ⟨ys[j]'(by omega), (hg j f hj).trans (List.getElem?_eq_getElem (by omega))⟩
theorem FieldsAt.at_ {n : Nat} {fs : Array Field} {l l' : List Value} (h : FieldsAt enc P w base spare held n fs l) (j : Nat) (T : TypeId) (off k : Nat) (f : Field) (hj : fs[j]? = some f) (hT : f.type = T) (ho : f.offset = off) (hk : P.cellsOf T = k) (hl : (l.drop off).take k = l') :
    ∃ y, DataW.trod enc P w base spare held n T l' = some y := by
  obtain ⟨y, hy⟩ := h j f hj
  rw [hT, ho, hk, hl] at hy
  exact ⟨y, hy⟩
/-- A struct that is handed in: its cells, its fields. -/
theorem open_struct {r : Reach} {b0 : Nat} {t : TypeId} {fs : Array Field} {v : Value} {d : DataW H} {p : List MemPlace} {k : Nat} (hs : P.underlying t = some (.struct fs)) (hC : P.cellsOf t = k)
    (hv : Value.okWide P w r b0 t v) (h : DataW.Trod enc P w base spare held t v d p) : ∃ (l : List Value) (n : Nat), v = .agg l.toArray ∧ l.length = k ∧ FieldsAt enc P w base spare held n fs l := by
  obtain ⟨cs, rfl, hsz⟩ := okWide_struct hs hv
  obtain ⟨l⟩ := cs
  obtain ⟨fuel, hf⟩ := h
  obtain ⟨n, hn⟩ := trod_fields hs hf
  have hcs : (Value.agg ⟨l⟩).cells.toList = l := by simp [Value.cells]
  rw [hcs] at hn
  exact ⟨l, n, rfl, by simpa using hsz.trans hC, hn⟩
theorem aggP_ints {k : IntKind} {n : Nat} {t e : TypeId} {c : Value} {y : DataW H × List MemPlace} (ht : P.underlying t = some (.slice e)) (he : P.underlying e = some (.int k)) (hc : P.cellsOf e = 1) (h : DataW.trod enc P w base spare held n t [c] = some y) :
    ∃ A len cap zs, c = .slice A len cap ∧ len ≤ cap ∧ cap ≤ maxLen ∧ Ints k w A len zs := by
  rcases Go.ChangeShapes.open_ints ht he hc h with ⟨hcs, _⟩ | ⟨a, l, c', zs, hcs, _, hl, hm, hz, _, hcell, hwz⟩
  · simp at hcs
    subst hcs
    exact ⟨none, 0, 0, [], rfl, Nat.le_refl _, Nat.zero_le _, rfl, Nat.zero_le _, by simp, by simp⟩
  · simp at hcs
    subst hcs
    have hlz : l ≤ zs.length := by split at hz <;> omega
    refine ⟨some a, l, c', zs.take l, rfl, hl, hm, by simp; omega, by omega, fun n hn => hwz n (List.mem_of_mem_take hn), fun h0 => ?_⟩
    obtain ⟨b, off, rfl, hc'⟩ := ints_at hcell (by omega)
    refine ⟨b, off, rfl, World.block_lt_of_cell? w _ (hc' 0 (by omega)), fun i hi => ?_⟩
    rw [hc' i (by omega)]
    simp [List.getD_eq_getElem?_getD, List.getElem?_take, hi]
theorem agg_strP {n : Nat} {t : TypeId} {c : Value} {y : DataW H × List MemPlace} (ht : P.underlying t = some .string) (h : DataW.trod enc P w base spare held n t [c] = some y) : ∃ s : ByteArray, c = .string s ∧ s.size ≤ maxLen := by
  obtain ⟨s, h1, _, h3⟩ := DataW.trod_string ht h
  exact ⟨s, by simpa using h1, h3⟩
theorem agg_boolP {n : Nat} {t : TypeId} {c : Value} {y : DataW H × List MemPlace} (ht : P.underlying t = some .bool) (h : DataW.trod enc P w base spare held n t [c] = some y) : ∃ b : Bool, c = .bool b := by
  obtain ⟨b, h1, _⟩ := DataW.trod_bool ht h
  exact ⟨b, by simpa using h1⟩
/-- Bytes in a field. -/
theorem agg_bytes {n : Nat} {t e : TypeId} {c : Value} {y : DataW H × List MemPlace} (ht : P.underlying t = some (.slice e)) (he : P.underlying e = some (.int .u8)) (hc : P.cellsOf e = 1) (h : DataW.trod enc P w base spare held n t [c] = some y) :
    ∃ (A : Option Addr) (cap : Nat) (zs : List Int), c = .slice A zs.length cap ∧ zs.length ≤ cap ∧ cap ≤ maxLen ∧ RdG (.int .u8) w A zs ∧ ∀ x ∈ zs, 0 ≤ x ∧ x < 256 := by
  obtain ⟨A, len, cap, zs, rfl, hlc, hcm, hz1, hz2, hz3, hz4⟩ := aggP_ints ht he hc h
  subst hz1
  refine ⟨A, cap, zs, rfl, hlc, hcm, fun h0 => ?_, fun x hx => ?_⟩
  · obtain ⟨b', off', e, hlt, hcc⟩ := hz4 (by omega)
    refine ⟨b', off', e, hlt, fun j v hj => ?_⟩
    have hj' : j < zs.length := (List.getElem?_eq_some_iff.1 hj).1
    rw [hcc j (by omega), List.getD_eq_getElem?_getD, hj]
    rfl
  · have := hz3 x hx
    have := wf_u8 this
    omega

theorem list_of {α : Type} {p : Nat → α → Prop} : ∀ n, (∀ i, i < n → ∃ x, p i x) → ∃ l : List α, l.length = n ∧ ∀ i x, l[i]? = some x → p i x
  | 0, _ => ⟨[], rfl, fun i x h => by simp at h⟩
  | n + 1, h => by
    obtain ⟨l, hl, hp⟩ := list_of n fun i hi => h i (by omega)
    obtain ⟨x, hx⟩ := h n (by omega)
    refine ⟨l ++ [x], by simp [hl], fun i y hy => ?_⟩
    rcases Nat.lt_or_ge i l.length with h1 | h1
    · rw [List.getElem?_append_left h1] at hy; exact hp i y hy
    · rw [List.getElem?_append_right h1] at hy
      have h2 : i - l.length = 0 := by
        rcases Nat.eq_zero_or_pos (i - l.length) with h2 | h2
        · exact h2
        · rw [List.getElem?_eq_none (by simp; omega)] at hy; cases hy
      rw [h2] at hy
      simp at hy
      subst hy
      have e : i = n := by omega
      rw [e]; exact hx
/-- A slice whose elements are opened by hel. -/
theorem open_rdX {α : Type} {cf : α → List Value} {ok : α → Prop} {t e : TypeId} {size : Nat} {v : Value} {d : DataW H} {p : List MemPlace} {r : Reach} {b0 : Nat} (ht : P.underlying t = some (.slice e)) (hC : P.cellsOf e = size) (h0 : 0 < size) (hcl : ∀ x, (cf x).length = size)
    (hel : ∀ (n : Nat) (l : List Value) (y : DataW H × List MemPlace), l.length = size → DataW.trod enc P w base spare held n e l = some y → ∃ x : α, l = cf x ∧ ok x)
    (hv : Value.okWide P w r b0 t v) (h : DataW.Trod enc P w base spare held t v d p) : ∃ (A : Option Addr) (l : List α) (cap : Nat), v = .slice A l.length cap ∧ l.length ≤ cap ∧ cap ≤ maxLen ∧ RdX cf w A l ∧ ∀ x ∈ l, ok x := by
  obtain ⟨a0, len, cap, rfl⟩ := okWide_slice ht hv
  obtain ⟨fuel, hf⟩ := h
  rcases open_slice ht hf with ⟨hcs, _⟩ | ⟨a, l, c, m, n, D, Pl, hcs, _, hlc, hm, hmm, _, hi⟩
  · simp [Value.cells] at hcs
    obtain ⟨rfl, rfl, rfl⟩ := hcs
    exact ⟨none, [], 0, rfl, Nat.le_refl _, Nat.zero_le _, rdX_nil, fun x hx => by cases hx⟩
  · simp [Value.cells] at hcs
    obtain ⟨rfl, rfl, rfl⟩ := hcs
    have hlm : len ≤ m := by rw [hmm]; split <;> omega
    obtain ⟨xs, hxl, hx⟩ := list_of (p := fun i (x : α) => ok x ∧ ∀ j u, (cf x)[j]? = some u → w.cell? (a.add (i * size + j)) = some u) len (fun i hi1 => by
      obtain ⟨cs', hc, ht'⟩ := hi i (by omega)
      obtain ⟨_, hcl', hat⟩ := World.cells?_some hc
      rw [hC] at hcl' hat
      obtain ⟨x, rfl, hok⟩ := hel _ _ _ hcl' ht'
      refine ⟨x, hok, fun j u hu => ?_⟩
      have hj : j < size := by have := (List.getElem?_eq_some_iff.1 hu).1; omega
      rw [← Go.Deep.add_add]
      exact (hat j hj).trans hu)
    subst hxl
    refine ⟨some a, xs, cap, rfl, hlc, hm, fun hl0 => ?_, fun x hx1 => ?_⟩
    · have h00 : ∃ u, w.cell? (a.add 0) = some u := by
        have hx0 := hx 0 (xs[0]'hl0) (List.getElem?_eq_getElem hl0)
        have h1 : (cf (xs[0]'hl0))[0]? = some ((cf (xs[0]'hl0))[0]'(by rw [hcl]; exact h0)) := List.getElem?_eq_getElem _
        exact ⟨_, by simpa using hx0.2 0 _ h1⟩
      obtain ⟨u0, hu0⟩ := h00
      have hadd0 : a.add 0 = a := by unfold Addr.add; simp
      rw [hadd0] at hu0
      have hs : a.spot = none := by
        unfold World.cell? at hu0
        split at hu0
        · split at hu0
          · cases hu0
          · rename_i h1; simpa using h1
        · cases hu0
      obtain ⟨b, off, sp⟩ := a
      simp at hs
      subst hs
      refine ⟨b, off, rfl, World.block_lt_of_cell? w _ hu0, fun j u hu => ?_⟩
      have key : ∀ (l : List α) (j : Nat) (u : Value), (l.flatMap cf)[j]? = some u → ∃ i x k, l[i]? = some x ∧ (cf x)[k]? = some u ∧ j = i * size + k := by
        intro l
        induction l with
        | nil => intro j u h; simp at h
        | cons y ys ih =>
          intro j u h
          rw [List.flatMap_cons] at h
          rcases Nat.lt_or_ge j (cf y).length with h1 | h1
          · rw [List.getElem?_append_left h1] at h
            exact ⟨0, y, j, rfl, h, by simp⟩
          · rw [List.getElem?_append_right h1] at h
            obtain ⟨i, x, k, h2, h3, h4⟩ := ih _ _ h
            refine ⟨i + 1, x, k, by simpa using h2, h3, ?_⟩
            rw [hcl] at h1 h4
            rw [Nat.succ_mul]; omega
      obtain ⟨i, x, k, h2, h3, rfl⟩ := key xs j u hu
      have := (hx i x h2).2 k u h3
      rw [Addr.add_mid] at this
      exact this
    · obtain ⟨i, hi1⟩ := List.mem_iff_getElem?.1 hx1
      exact (hx i x hi1).1
end
end Go.Proofs.YtdplnedpbkpgpaaGreatDoor

namespace Go.Proofs.YtdplnedpbkpgpaaGreatDoor
set_option linter.all false
open Go.ChangeShapes Go.WideShapes Go.ChangeAt Go.RowKit Go.Deep

/-- What the walk of a law is handed: the arguments read as data, and how much each takes. -/
def LawWalkS (P : Program) (f : FuncId) (fn : Func) : Prop :=
  ∀ (H : Type) (enc : TypeId × Value → H) (W : World) (base : Nat) (args : Array Value) (ds : List (DataW H)) (ps : List MemPlace),
    (∀ (j : Nat) t v, fn.params[j]? = some t → args[j]? = some v → Value.okWide P W .any base t v) →
    DataW.TrodAll enc P W 0 (fun _ => true) true fn.params.toList args.toList ds ps →
    (DataW.weightsEach P fn.params.toList ds).all (· ≤ reachBytes) = true →
    Calls P f args W fun e W' => e = .returned (.bool true) ∧ Below W.heap.size W W'

theorem law_liftedS {C : Checked} {tb : TypeId} (own : ownKnob C.prog.godebug = none) (laidOut : laidOutB C.prog = true) (hb : C.prog.underlying tb = some .bool) (f : FuncId) (fn : Func) (s : ChangeSpec)
    (hfn : C.prog.funcs[f]? = some fn) (noInit : C.prog.inits.idxOf? f = none) (hres : fn.resultTypes = #[tb])
    (hread : readsAll C.prog fn.params.toList = true) (hv : s.vars = [])
    (hs : ∀ (H : Type) (ds : List (DataW H)), ds.length = fn.params.size → s.fn H ds = { results := [.lit (.bool true)], args := ds })
    (walk : LawWalkS C.prog f fn) (os : Os) (started : os.Started) (H : Type) (enc : TypeId × Value → H)
    (witness : ∃ (w : World) (tape : Tape) (i : Input), w.os = os ∧ (w.forCall tape i).Shaped C.prog ∧ i.vars = [] ∧ Input.okWide C.prog (w.forCall tape i) .any w.heap.size f i ∧
      s.pre6 enc C.prog fn [] false (w.forCall tape i).memory i.args ∧ Assume.holds {} C.prog (lone (Frame.enter C.prog f i.args .normal) [] (w.forCall tape i))) :
    ReturnsInHanded {} C os f .any (s.pre6 enc C.prog fn [] false) (s.post enc C.prog fn false true false false) := by
  refine returnsInHanded_of_change_sized own started noInit hfn witness ?_
  intro W base args ds gs before hval hW hcnd hsz _
  have hW' := hW
  obtain ⟨p, q, hA, hV, rfl, hfz, hnd⟩ := hW
  have hty : s.plain.varTypes C.prog = [] := by simp [ChangeSpec.plain, hv, DataSpec.varTypes]
  rw [hv] at hV
  obtain ⟨rfl, rfl⟩ := trodVars_none hV
  rw [hty, List.append_nil, List.append_nil] at hsz
  have hlt := DataW.TrodAll.lt hA
  have hlen : ds.length = fn.params.size := by have := trodAll_len _ _ _ _ hA; simpa using this
  have hfnc := hs H ds hlen
  refine (walk H enc W base args ds p hval hA hsz).mono fun e W' ⟨he, bel⟩ => ?_
  subst he
  refine ⟨_, rfl, ds, [], p ++ [], [], p, [], hW', ?_, ?_, ?_, bel.frame _, fun h => by cases h⟩
  · rw [hres, List.append_nil, hfnc]
    exact trodAll_mk1 (shut_bool hb _)
  · rw [List.append_nil, hfnc]
    exact trodAll_stays laidOut bel _ _ _ _ hread hA hlt
  · rw [hv, List.append_nil, hfnc]
    rfl

section
variable {H : Type} {enc : TypeId × Value → H} {P : Program} {w : World} {base : Nat} {spare : Nat → Bool} {held : Bool}
theorem agg_rdX {α : Type} {cf : α → List Value} {ok : α → Prop} {t e : TypeId} {size : Nat} {n0 : Nat} {v : Value} {y0 : DataW H × List MemPlace} (ht : P.underlying t = some (.slice e)) (hC : P.cellsOf e = size) (h0 : 0 < size) (hcl : ∀ x, (cf x).length = size)
    (hel : ∀ (n : Nat) (l : List Value) (y : DataW H × List MemPlace), l.length = size → DataW.trod enc P w base spare held n e l = some y → ∃ x : α, l = cf x ∧ ok x)
    (h : DataW.trod enc P w base spare held n0 t [v] = some y0) : ∃ (A : Option Addr) (l : List α) (cap : Nat), v = .slice A l.length cap ∧ l.length ≤ cap ∧ cap ≤ maxLen ∧ RdX cf w A l ∧ ∀ x ∈ l, ok x := by
  have hf := h
  rcases open_slice ht hf with ⟨hcs, _⟩ | ⟨a, len, cap, m, n, D, Pl, hcs, _, hlc, hm, hmm, _, hi⟩
  · simp at hcs
    subst hcs
    exact ⟨none, [], 0, rfl, Nat.le_refl _, Nat.zero_le _, rdX_nil, fun x hx => by cases hx⟩
  · simp at hcs
    subst hcs
    have hlm : len ≤ m := by rw [hmm]; split <;> omega
    obtain ⟨xs, hxl, hx⟩ := list_of (p := fun i (x : α) => ok x ∧ ∀ j u, (cf x)[j]? = some u → w.cell? (a.add (i * size + j)) = some u) len (fun i hi1 => by
      obtain ⟨cs', hc, ht'⟩ := hi i (by omega)
      obtain ⟨_, hcl', hat⟩ := World.cells?_some hc
      rw [hC] at hcl' hat
      obtain ⟨x, rfl, hok⟩ := hel _ _ _ hcl' ht'
      refine ⟨x, hok, fun j u hu => ?_⟩
      have hj : j < size := by have := (List.getElem?_eq_some_iff.1 hu).1; omega
      rw [← Go.Deep.add_add]
      exact (hat j hj).trans hu)
    subst hxl
    refine ⟨some a, xs, cap, rfl, hlc, hm, fun hl0 => ?_, fun x hx1 => ?_⟩
    · have h00 : ∃ u, w.cell? (a.add 0) = some u := by
        have hx0 := hx 0 (xs[0]'hl0) (List.getElem?_eq_getElem hl0)
        have h1 : (cf (xs[0]'hl0))[0]? = some ((cf (xs[0]'hl0))[0]'(by rw [hcl]; exact h0)) := List.getElem?_eq_getElem _
        exact ⟨_, by simpa using hx0.2 0 _ h1⟩
      obtain ⟨u0, hu0⟩ := h00
      have hadd0 : a.add 0 = a := by unfold Addr.add; simp
      rw [hadd0] at hu0
      have hs : a.spot = none := by
        unfold World.cell? at hu0
        split at hu0
        · split at hu0
          · cases hu0
          · rename_i h1; simpa using h1
        · cases hu0
      obtain ⟨b, off, sp⟩ := a
      simp at hs
      subst hs
      refine ⟨b, off, rfl, World.block_lt_of_cell? w _ hu0, fun j u hu => ?_⟩
      have key : ∀ (l : List α) (j : Nat) (u : Value), (l.flatMap cf)[j]? = some u → ∃ i x k, l[i]? = some x ∧ (cf x)[k]? = some u ∧ j = i * size + k := by
        intro l
        induction l with
        | nil => intro j u h; simp at h
        | cons y ys ih =>
          intro j u h
          rw [List.flatMap_cons] at h
          rcases Nat.lt_or_ge j (cf y).length with h1 | h1
          · rw [List.getElem?_append_left h1] at h
            exact ⟨0, y, j, rfl, h, by simp⟩
          · rw [List.getElem?_append_right h1] at h
            obtain ⟨i, x, k, h2, h3, h4⟩ := ih _ _ h
            refine ⟨i + 1, x, k, by simpa using h2, h3, ?_⟩
            rw [hcl] at h1 h4
            rw [Nat.succ_mul]; omega
      obtain ⟨i, x, k, h2, h3, rfl⟩ := key xs j u hu
      have := (hx i x h2).2 k u h3
      rw [Addr.add_mid] at this
      exact this
    · obtain ⟨i, hi1⟩ := List.mem_iff_getElem?.1 hx1
      exact (hx i x hi1).1
end
end Go.Proofs.YtdplnedpbkpgpaaGreatDoor

namespace Go.Proofs.YtdplnedpbkpgpaaGreatDoor
set_option linter.all false
open Go.ChangeShapes Go.WideShapes Go.ChangeAt Go.RowKit Go.Deep

section
variable {H : Type} {enc : TypeId × Value → H} {P : Program} {w : World} {base : Nat} {spare : Nat → Bool} {held : Bool} {R : Nat}
/-- Cells read as data, each slice of which is light. -/
def TrodW (enc : TypeId × Value → H) (P : Program) (w : World) (base : Nat) (spare : Nat → Bool) (held : Bool) (R n : Nat) (t : TypeId) (l : List Value) : Prop :=
  ∃ y, DataW.trod enc P w base spare held n t l = some y ∧ ∀ k ∈ y.1.weights P t, k ≤ R
theorem wAll_mem {e : TypeId} : ∀ {ds : List (DataW H)} {d : DataW H}, d ∈ ds → ∀ n ∈ d.weights P e, n ∈ DataW.weightsAll P e ds
  | [], _, h, _, _ => by cases h
  | x :: r, d, h, n, hn => by
    simp only [DataW.weightsAll, List.mem_append]
    rcases List.mem_cons.1 h with rfl | h
    · exact .inl hn
    · exact .inr (wAll_mem h n hn)
def FieldsW (enc : TypeId × Value → H) (P : Program) (w : World) (base : Nat) (spare : Nat → Bool) (held : Bool) (R n : Nat) (fs : Array Field) (l : List Value) : Prop :=
  ∀ (j : Nat) (f : Field), fs[j]? = some f → TrodW enc P w base spare held R n f.type ((l.drop f.offset).take (P.cellsOf f.type))
theorem TrodW.fields {n : Nat} {t : TypeId} {fs : Array Field} {l : List Value} (hs : P.underlying t = some (.struct fs)) (h : TrodW enc P w base spare held R n t l) : ∃ n', FieldsW enc P w base spare held R n' fs l := by
  obtain ⟨y, h, hW⟩ := h
  obtain ⟨ys, n', _, hx, _, hyl, hg⟩ := DataW.trod_struct hs h
  refine ⟨n', fun j f hj => ?_⟩
  have hjl : j < fs.size := (Array.getElem?_eq_some_iff.1 hj).1
  have hjy : j < ys.length := by omega
  refine ⟨ys[j], (hg j f hj).trans (List.getElem?_eq_getElem hjy), fun q hq => hW q ?_⟩
  subst hx
  simp only [DataW.weights, hs]
  exact DataW.weights_mem_each (j := j) (t := f.type) (d := (ys[j]).1) (by simp [hj]) (by simp [hjy]) q hq
theorem FieldsW.at_ {n : Nat} {fs : Array Field} {l l' : List Value} (h : FieldsW enc P w base spare held R n fs l) (j : Nat) (T : TypeId) (off k : Nat) (f : Field) (hj : fs[j]? = some f) (hT : f.type = T) (ho : f.offset = off) (hk : P.cellsOf T = k) (hl : (l.drop off).take k = l') : TrodW enc P w base spare held R n T l' := by
  have hy := h j f hj
  rw [hT, ho, hk, hl] at hy
  exact hy
theorem TrodW.int {k : IntKind} {n : Nat} {t : TypeId} {c : Value} (ht : P.underlying t = some (.int k)) (h : TrodW enc P w base spare held R n t [c]) : ∃ a, c = .int k a ∧ (Lit.int k a).wf = true := by
  obtain ⟨y, h, _⟩ := h
  exact agg_int ht h
theorem TrodW.bool {n : Nat} {t : TypeId} {c : Value} (ht : P.underlying t = some .bool) (h : TrodW enc P w base spare held R n t [c]) : ∃ b : Bool, c = .bool b := by
  obtain ⟨y, h, _⟩ := h
  exact agg_boolP ht h
theorem TrodW.str {n : Nat} {t : TypeId} {c : Value} (ht : P.underlying t = some .string) (h : TrodW enc P w base spare held R n t [c]) : ∃ s : ByteArray, c = .string s ∧ s.size ≤ maxLen ∧ s.size ≤ R := by
  obtain ⟨y, h, hW⟩ := h
  obtain ⟨s, h1, h2, h3⟩ := DataW.trod_string ht h
  refine ⟨s, by simpa using h1, h3, ?_⟩
  subst h2
  have := hW s.data.toList.length (by simp [DataW.weights])
  have e : s.data.toList.length = s.size := by rw [Array.length_toList]; rfl
  rw [e] at this
  exact this
theorem TrodW.arr {n m : Nat} {t e : TypeId} {l : List Value} (ht : P.underlying t = some (.array m e)) (h : TrodW enc P w base spare held R n t l) : ∃ n', ∀ i, i < m → TrodW enc P w base spare held R n' e ((l.drop (i * P.cellsOf e)).take (P.cellsOf e)) := by
  obtain ⟨y, h, hW⟩ := h
  obtain ⟨xs, n', _, hx, _, hxl, hg⟩ := DataW.trod_array ht h
  refine ⟨n', fun i hi => ?_⟩
  have hil : i < xs.length := by omega
  refine ⟨xs[i], (hg i hi).trans (List.getElem?_eq_getElem hil), fun q hq => hW q ?_⟩
  subst hx
  simp only [DataW.weights, ht]
  exact wAll_mem (List.mem_map.2 ⟨xs[i], List.getElem_mem hil, rfl⟩) q hq
theorem TrodW.slice {α : Type} {cf : α → List Value} {ok : α → Prop} {t e : TypeId} {size : Nat} {n0 : Nat} {v : Value} (ht : P.underlying t = some (.slice e)) (hC : P.cellsOf e = size) (h0 : 0 < size) (hcl : ∀ x, (cf x).length = size)
    (hel : ∀ (n : Nat) (l : List Value), l.length = size → TrodW enc P w base spare held R n e l → ∃ x : α, l = cf x ∧ ok x)
    (h : TrodW enc P w base spare held R n0 t [v]) : ∃ (A : Option Addr) (l : List α) (cap : Nat), v = .slice A l.length cap ∧ l.length ≤ cap ∧ cap ≤ maxLen ∧ RdX cf w A l ∧ (∀ x ∈ l, ok x) ∧ l.length * P.bytesOf e ≤ R := by
  obtain ⟨y0, h, hW⟩ := h
  rcases open_slice ht h with ⟨hcs, _⟩ | ⟨a, len, cap, m, n, D, Pl, hcs, _, hlc, hm, hmm, hx, hi⟩
  · simp at hcs
    subst hcs
    exact ⟨none, [], 0, rfl, Nat.le_refl _, Nat.zero_le _, rdX_nil, (fun x hx => by cases hx), by simp⟩
  · simp at hcs
    subst hcs
    have hlm : len ≤ m := by rw [hmm]; split <;> omega
    subst hx
    have hlw : len * P.bytesOf e ≤ R := by
      have h1 := hW (((List.range len).map D).length * P.bytesOf e + ((List.range (m - len)).map fun j => D (len + j)).length * P.bytesOf e) (by
        simp only [DataW.weights, ht]
        rw [← Nat.add_mul]
        exact List.mem_cons_self)
      simp only [List.length_map, List.length_range] at h1
      exact Nat.le_trans (Nat.le_add_right _ _) h1
    obtain ⟨xs, hxl, hx⟩ := list_of (p := fun i (x : α) => ok x ∧ ∀ j u, (cf x)[j]? = some u → w.cell? (a.add (i * size + j)) = some u) len (fun i hi1 => by
      obtain ⟨cs', hc, ht'⟩ := hi i (by omega)
      obtain ⟨_, hcl', hat⟩ := World.cells?_some hc
      rw [hC] at hcl' hat
      obtain ⟨x, rfl, hok⟩ := hel _ _ hcl' ⟨_, ht', fun k hk => hW k (by
        simp only [DataW.weights, ht, List.mem_cons, List.mem_append]
        exact .inr (.inl (wAll_mem (List.mem_map.2 ⟨i, List.mem_range.2 hi1, rfl⟩) k hk)))⟩
      refine ⟨x, hok, fun j u hu => ?_⟩
      have hj : j < size := by have := (List.getElem?_eq_some_iff.1 hu).1; omega
      rw [← Go.Deep.add_add]
      exact (hat j hj).trans hu)
    subst hxl
    refine ⟨some a, xs, cap, rfl, hlc, hm, fun hl0 => ?_, fun x hx1 => ?_, hlw⟩
    · have h00 : ∃ u, w.cell? (a.add 0) = some u := by
        have hx0 := hx 0 (xs[0]'hl0) (List.getElem?_eq_getElem hl0)
        have h1 : (cf (xs[0]'hl0))[0]? = some ((cf (xs[0]'hl0))[0]'(by rw [hcl]; exact h0)) := List.getElem?_eq_getElem _
        exact ⟨_, by simpa using hx0.2 0 _ h1⟩
      obtain ⟨u0, hu0⟩ := h00
      have hadd0 : a.add 0 = a := by unfold Addr.add; simp
      rw [hadd0] at hu0
      have hs : a.spot = none := by
        unfold World.cell? at hu0
        split at hu0
        · split at hu0
          · cases hu0
          · rename_i h1; simpa using h1
        · cases hu0
      obtain ⟨b, off, sp⟩ := a
      simp at hs
      subst hs
      refine ⟨b, off, rfl, World.block_lt_of_cell? w _ hu0, fun j u hu => ?_⟩
      have key : ∀ (l : List α) (j : Nat) (u : Value), (l.flatMap cf)[j]? = some u → ∃ i x k, l[i]? = some x ∧ (cf x)[k]? = some u ∧ j = i * size + k := by
        intro l
        induction l with
        | nil => intro j u h; simp at h
        | cons y ys ih =>
          intro j u h
          rw [List.flatMap_cons] at h
          rcases Nat.lt_or_ge j (cf y).length with h1 | h1
          · rw [List.getElem?_append_left h1] at h
            exact ⟨0, y, j, rfl, h, by simp⟩
          · rw [List.getElem?_append_right h1] at h
            obtain ⟨i, x, k, h2, h3, h4⟩ := ih _ _ h
            refine ⟨i + 1, x, k, by simpa using h2, h3, ?_⟩
            rw [hcl] at h1 h4
            rw [Nat.succ_mul]; omega
      obtain ⟨i, x, k, h2, h3, rfl⟩ := key xs j u hu
      have := (hx i x h2).2 k u h3
      rw [Addr.add_mid] at this
      exact this
    · obtain ⟨i, hi1⟩ := List.mem_iff_getElem?.1 hx1
      exact (hx i x hi1).1
/-- A struct that is handed in. -/
theorem open_structW {r : Reach} {b0 : Nat} {t : TypeId} {fs : Array Field} {v : Value} {d : DataW H} {p : List MemPlace} {k : Nat} (hs : P.underlying t = some (.struct fs)) (hC : P.cellsOf t = k) (hW : ∀ q ∈ d.weights P t, q ≤ R)
    (hv : Value.okWide P w r b0 t v) (h : DataW.Trod enc P w base spare held t v d p) : ∃ (l : List Value) (n : Nat), v = .agg l.toArray ∧ l.length = k ∧ TrodW enc P w base spare held R n t l := by
  obtain ⟨cs, rfl, hsz⟩ := okWide_struct hs hv
  obtain ⟨l⟩ := cs
  obtain ⟨fuel, hf⟩ := h
  have hcs : (Value.agg ⟨l⟩).cells.toList = l := by simp [Value.cells]
  rw [hcs] at hf
  exact ⟨l, fuel, rfl, by simpa using hsz.trans hC, ⟨_, hf, hW⟩⟩
end
end Go.Proofs.YtdplnedpbkpgpaaGreatDoor

namespace Go.Proofs.YtdplnedpbkpgpaaGreatDoor
set_option linter.all false
set_option maxRecDepth 100000
open Go.ChangeShapes Go.WideShapes Go.ChangeAt Go.RowKit Go.Deep

theorem arN24 {l : List Value} (h : l.length = 24) : ∃ c0 c1 c2 c3 c4 c5 c6 c7 c8 c9 c10 c11 c12 c13 c14 c15 c16 c17 c18 c19 c20 c21 c22 c23, l = [c0, c1, c2, c3, c4, c5, c6, c7, c8, c9, c10, c11, c12, c13, c14, c15, c16, c17, c18, c19, c20, c21, c22, c23] := by
  match l, h with
  | [c0, c1, c2, c3, c4, c5, c6, c7, c8, c9, c10, c11, c12, c13, c14, c15, c16, c17, c18, c19, c20, c21, c22, c23], _ => exact ⟨c0, c1, c2, c3, c4, c5, c6, c7, c8, c9, c10, c11, c12, c13, c14, c15, c16, c17, c18, c19, c20, c21, c22, c23, rfl⟩
theorem arN32 {l : List Value} (h : l.length = 32) : ∃ c0 c1 c2 c3 c4 c5 c6 c7 c8 c9 c10 c11 c12 c13 c14 c15 c16 c17 c18 c19 c20 c21 c22 c23 c24 c25 c26 c27 c28 c29 c30 c31, l = [c0, c1, c2, c3, c4, c5, c6, c7, c8, c9, c10, c11, c12, c13, c14, c15, c16, c17, c18, c19, c20, c21, c22, c23, c24, c25, c26, c27, c28, c29, c30, c31] := by
  match l, h with
  | [c0, c1, c2, c3, c4, c5, c6, c7, c8, c9, c10, c11, c12, c13, c14, c15, c16, c17, c18, c19, c20, c21, c22, c23, c24, c25, c26, c27, c28, c29, c30, c31], _ => exact ⟨c0, c1, c2, c3, c4, c5, c6, c7, c8, c9, c10, c11, c12, c13, c14, c15, c16, c17, c18, c19, c20, c21, c22, c23, c24, c25, c26, c27, c28, c29, c30, c31, rfl⟩
/-- The numbers of a setting are such as the program has. -/
structure TOk (t : TM) : Prop where
  ch : ∀ i, i < 19 → 0 ≤ t.ch i ∧ t.ch i < 256
  fl : 0 ≤ t.fl ∧ t.fl < 18446744073709551616
  mn : -9223372036854775808 ≤ t.mn ∧ t.mn ≤ 9223372036854775807
  tm : -9223372036854775808 ≤ t.tm ∧ t.tm ≤ 9223372036854775807
theorem wf_u64 {n : Int} (h : (Lit.int .u64 n).wf = true) : 0 ≤ n ∧ n < 18446744073709551616 := by
  simp [Lit.wf, IntKind.min, IntKind.max, IntKind.bits, IntKind.signed] at h; omega
theorem wf_u8' {n : Int} (h : (Lit.int .u8 n).wf = true) : 0 ≤ n ∧ n < 256 := by
  have := wf_u8 h
  omega
section
variable {H : Type} {enc : TypeId × Value → H} {w : World} {base : Nat} {spare : Nat → Bool} {held : Bool} {R : Nat}
theorem termios_cells {n : Nat} {l : List Value} (hl : l.length = 24) (h : TrodW enc Tryz.prog w base spare held R n 28 l) : ∃ t : TM, l = t.cells ∧ TOk t := by
  obtain ⟨n1, hf⟩ := h.fields Tryz.underlying28
  obtain ⟨c0, c1, c2, c3, c4, c5, c6, c7, c8, c9, c10, c11, c12, c13, c14, c15, c16, c17, c18, c19, c20, c21, c22, c23, rfl⟩ := arN24 hl
  have g0 := hf.at_ 0 25 0 19 _ rfl rfl rfl (by kernel_rfl) rfl
  have g1 := hf.at_ 1 26 19 1 _ rfl rfl rfl (by kernel_rfl) rfl
  have g2 := hf.at_ 2 22 20 1 _ rfl rfl rfl (by kernel_rfl) rfl
  have g3 := hf.at_ 3 22 21 1 _ rfl rfl rfl (by kernel_rfl) rfl
  have g4 := hf.at_ 4 3 22 1 _ rfl rfl rfl (by kernel_rfl) rfl
  have g5 := hf.at_ 5 3 23 1 _ rfl rfl rfl (by kernel_rfl) rfl
  obtain ⟨n2, ha⟩ := g0.arr Tryz.underlying25
  rw [(by kernel_rfl : Tryz.prog.cellsOf 5 = 1)] at ha
  obtain ⟨x0, rfl, u0⟩ := TrodW.int (c := c0) Tryz.underlying5 (ha 0 (by decide))
  obtain ⟨x1, rfl, u1⟩ := TrodW.int (c := c1) Tryz.underlying5 (ha 1 (by decide))
  obtain ⟨x2, rfl, u2⟩ := TrodW.int (c := c2) Tryz.underlying5 (ha 2 (by decide))
  obtain ⟨x3, rfl, u3⟩ := TrodW.int (c := c3) Tryz.underlying5 (ha 3 (by decide))
  obtain ⟨x4, rfl, u4⟩ := TrodW.int (c := c4) Tryz.underlying5 (ha 4 (by decide))
  obtain ⟨x5, rfl, u5⟩ := TrodW.int (c := c5) Tryz.underlying5 (ha 5 (by decide))
  obtain ⟨x6, rfl, u6⟩ := TrodW.int (c := c6) Tryz.underlying5 (ha 6 (by decide))
  obtain ⟨x7, rfl, u7⟩ := TrodW.int (c := c7) Tryz.underlying5 (ha 7 (by decide))
  obtain ⟨x8, rfl, u8⟩ := TrodW.int (c := c8) Tryz.underlying5 (ha 8 (by decide))
  obtain ⟨x9, rfl, u9⟩ := TrodW.int (c := c9) Tryz.underlying5 (ha 9 (by decide))
  obtain ⟨x10, rfl, u10⟩ := TrodW.int (c := c10) Tryz.underlying5 (ha 10 (by decide))
  obtain ⟨x11, rfl, u11⟩ := TrodW.int (c := c11) Tryz.underlying5 (ha 11 (by decide))
  obtain ⟨x12, rfl, u12⟩ := TrodW.int (c := c12) Tryz.underlying5 (ha 12 (by decide))
  obtain ⟨x13, rfl, u13⟩ := TrodW.int (c := c13) Tryz.underlying5 (ha 13 (by decide))
  obtain ⟨x14, rfl, u14⟩ := TrodW.int (c := c14) Tryz.underlying5 (ha 14 (by decide))
  obtain ⟨x15, rfl, u15⟩ := TrodW.int (c := c15) Tryz.underlying5 (ha 15 (by decide))
  obtain ⟨x16, rfl, u16⟩ := TrodW.int (c := c16) Tryz.underlying5 (ha 16 (by decide))
  obtain ⟨x17, rfl, u17⟩ := TrodW.int (c := c17) Tryz.underlying5 (ha 17 (by decide))
  obtain ⟨x18, rfl, u18⟩ := TrodW.int (c := c18) Tryz.underlying5 (ha 18 (by decide))
  obtain ⟨fl, rfl, v1⟩ := TrodW.int Tryz.underlying26 g1
  obtain ⟨inn, rfl, v2⟩ := TrodW.int Tryz.underlying22 g2
  obtain ⟨out, rfl, v3⟩ := TrodW.int Tryz.underlying22 g3
  obtain ⟨mn, rfl, v4⟩ := TrodW.int Tryz.underlying3 g4
  obtain ⟨tm, rfl, v5⟩ := TrodW.int Tryz.underlying3 g5
  refine ⟨⟨fun k => [x0, x1, x2, x3, x4, x5, x6, x7, x8, x9, x10, x11, x12, x13, x14, x15, x16, x17, x18].getD k 0, fl, inn, out, mn, tm⟩, rfl, ⟨fun i hi => ?_, wf_u64 v1, wf_i64 v4, wf_i64 v5⟩⟩
  match i, hi with
  | 0, _ => exact wf_u8' u0
  | 1, _ => exact wf_u8' u1
  | 2, _ => exact wf_u8' u2
  | 3, _ => exact wf_u8' u3
  | 4, _ => exact wf_u8' u4
  | 5, _ => exact wf_u8' u5
  | 6, _ => exact wf_u8' u6
  | 7, _ => exact wf_u8' u7
  | 8, _ => exact wf_u8' u8
  | 9, _ => exact wf_u8' u9
  | 10, _ => exact wf_u8' u10
  | 11, _ => exact wf_u8' u11
  | 12, _ => exact wf_u8' u12
  | 13, _ => exact wf_u8' u13
  | 14, _ => exact wf_u8' u14
  | 15, _ => exact wf_u8' u15
  | 16, _ => exact wf_u8' u16
  | 17, _ => exact wf_u8' u17
  | 18, _ => exact wf_u8' u18
  | k + 19, hi => exact absurd hi (by omega)
theorem var_cells {n : Nat} {l : List Value} (hl : l.length = 2) (h : TrodW enc Tryz.prog w base spare held R n 76 l) : ∃ x : VR, l = cVar x ∧ (x.n.size ≤ maxLen ∧ x.v.size ≤ maxLen ∧ x.n.size ≤ R ∧ x.v.size ≤ R) := by
  obtain ⟨n1, hf⟩ := h.fields Tryz.underlying76
  match l, hl with
  | [c0, c1], _ =>
  have g0 := hf.at_ 0 9 0 1 _ rfl rfl rfl (by kernel_rfl) rfl
  have g1 := hf.at_ 1 9 1 1 _ rfl rfl rfl (by kernel_rfl) rfl
  obtain ⟨a, rfl, a1, a2⟩ := TrodW.str Tryz.underlying9 g0
  obtain ⟨b, rfl, b1, b2⟩ := TrodW.str Tryz.underlying9 g1
  exact ⟨⟨a, b⟩, rfl, a1, b1, a2, b2⟩
/-- What a session that is handed in holds. -/
structure SesIn (w : World) (R : Nat) (s : SS) (A : Option Addr) (cap : Nat) : Prop where
  rd : RdX cVar w A s.env
  le : s.env.length ≤ cap
  max : cap ≤ maxLen
  few : s.env.length * 32 ≤ R
  term : s.term.size ≤ maxLen ∧ s.term.size ≤ R
  size : (0 ≤ s.c0 ∧ s.c0 < 4294967296) ∧ (0 ≤ s.c1 ∧ s.c1 < 4294967296) ∧ (0 ≤ s.c2 ∧ s.c2 < 4294967296) ∧ (0 ≤ s.c3 ∧ s.c3 < 4294967296)
  t : TOk s.t
  strs : ∀ x ∈ s.env, x.n.size ≤ maxLen ∧ x.v.size ≤ maxLen ∧ x.n.size ≤ R ∧ x.v.size ≤ R
theorem wf_u32' {n : Int} (h : (Lit.int .u32 n).wf = true) : 0 ≤ n ∧ n < 4294967296 := by
  simp [Lit.wf, IntKind.min, IntKind.max, IntKind.bits, IntKind.signed] at h; omega
theorem open_strW {r : Reach} {b0 : Nat} {v : Value} {d : DataW H} {p : List MemPlace} (hW : ∀ q ∈ d.weights Tryz.prog 9, q ≤ R) (hv : Value.okWide Tryz.prog w r b0 9 v) (h : DataW.Trod enc Tryz.prog w base spare held 9 v d p) : ∃ s : ByteArray, v = .string s ∧ s.size ≤ maxLen ∧ s.size ≤ R := by
  obtain ⟨s0, rfl⟩ := okWide_string Tryz.underlying9 hv
  obtain ⟨fuel, hf⟩ := h
  exact TrodW.str Tryz.underlying9 ⟨_, hf, hW⟩
theorem open_sess {r : Reach} {b0 : Nat} {v : Value} {d : DataW H} {p : List MemPlace} (hW : ∀ q ∈ d.weights Tryz.prog 31, q ≤ R) (hv : Value.okWide Tryz.prog w r b0 31 v) (h : DataW.Trod enc Tryz.prog w base spare held 31 v d p) : ∃ (s : SS) (A : Option Addr) (cap : Nat), v = s.val A cap ∧ SesIn w R s A cap := by
  obtain ⟨l, n, rfl, hl, hf⟩ := open_structW Tryz.underlying31 (by kernel_rfl : Tryz.prog.cellsOf 31 = 32) hW hv h
  obtain ⟨n1, hf⟩ := hf.fields Tryz.underlying31
  obtain ⟨c0, c1, c2, c3, c4, c5, c6, c7, c8, c9, c10, c11, c12, c13, c14, c15, c16, c17, c18, c19, c20, c21, c22, c23, c24, c25, c26, c27, c28, c29, c30, c31, rfl⟩ := arN32 hl
  have g0 := hf.at_ 0 4 0 1 _ rfl rfl rfl (by kernel_rfl) rfl
  have g1 := hf.at_ 1 9 1 1 _ rfl rfl rfl (by kernel_rfl) rfl
  have g2 := hf.at_ 2 24 2 4 _ rfl rfl rfl (by kernel_rfl) rfl
  have g3 := hf.at_ (l' := [c6, c7, c8, c9, c10, c11, c12, c13, c14, c15, c16, c17, c18, c19, c20, c21, c22, c23, c24, c25, c26, c27, c28, c29]) 3 28 6 24 _ rfl rfl rfl (by kernel_rfl) rfl
  have g4 := hf.at_ 4 29 30 1 _ rfl rfl rfl (by kernel_rfl) rfl
  have g5 := hf.at_ 5 4 31 1 _ rfl rfl rfl (by kernel_rfl) rfl
  obtain ⟨n2, hs⟩ := g2.fields Tryz.underlying24
  have s0 := hs.at_ 0 22 0 1 _ rfl rfl rfl (by kernel_rfl) rfl
  have s1 := hs.at_ 1 22 1 1 _ rfl rfl rfl (by kernel_rfl) rfl
  have s2 := hs.at_ 2 22 2 1 _ rfl rfl rfl (by kernel_rfl) rfl
  have s3 := hs.at_ 3 22 3 1 _ rfl rfl rfl (by kernel_rfl) rfl
  obtain ⟨pt, rfl⟩ := TrodW.bool Tryz.underlying4 g0
  obtain ⟨tm, rfl, a1, a2⟩ := TrodW.str Tryz.underlying9 g1
  obtain ⟨z0, rfl, u0⟩ := TrodW.int Tryz.underlying22 s0
  obtain ⟨z1, rfl, u1⟩ := TrodW.int Tryz.underlying22 s1
  obtain ⟨z2, rfl, u2⟩ := TrodW.int Tryz.underlying22 s2
  obtain ⟨z3, rfl, u3⟩ := TrodW.int Tryz.underlying22 s3
  obtain ⟨t, et, ht⟩ := termios_cells rfl g3
  obtain ⟨A, env, cap, rfl, e1, e2, e3, e4, e5⟩ := TrodW.slice (cf := cVar) (ok := fun x => x.n.size ≤ maxLen ∧ x.v.size ≤ maxLen ∧ x.n.size ≤ R ∧ x.v.size ≤ R) (size := 2) Tryz.underlying29 (by kernel_rfl) (by decide) cVar_len (fun n l hl h => var_cells hl h) g4
  obtain ⟨st, rfl⟩ := TrodW.bool Tryz.underlying4 g5
  refine ⟨⟨pt, tm, z0, z1, z2, z3, t, env, st⟩, A, cap, ?_, ⟨e3, e1, e2, by rw [by_rv27] at e5; exact e5, ⟨a1, a2⟩, ⟨wf_u32' u0, wf_u32' u1, wf_u32' u2, wf_u32' u3⟩, ht, e4⟩⟩
  have e : ∀ (l : List Value), l = t.cells → (Value.agg (.bool pt :: .string tm :: .int .u32 z0 :: .int .u32 z1 :: .int .u32 z2 :: .int .u32 z3 :: (l ++ [.slice A env.length cap, .bool st])).toArray) = SS.val ⟨pt, tm, z0, z1, z2, z3, t, env, st⟩ A cap := fun l h => by subst h; rfl
  exact e _ et
end
end Go.Proofs.YtdplnedpbkpgpaaGreatDoor

namespace Go.Proofs.YtdplnedpbkpgpaaGreatDoor
set_option linter.all false
set_option maxRecDepth 100000
open Go.ChangeShapes Go.WideShapes Go.ChangeAt Go.RowKit Go.Deep
section
variable {H : Type} {enc : TypeId × Value → H} {w : World} {base : Nat} {spare : Nat → Bool} {held : Bool} {R : Nat}
theorem trod_bytes {n : Nat} {v : Value} (h : TrodW enc Tryz.prog w base spare held R n 32 [v]) : ∃ (A : Option Addr) (l : List Int) (cap : Nat), v = .slice A l.length cap ∧ RdX cu8 w A l ∧ l.length ≤ cap ∧ cap ≤ maxLen ∧ (∀ x ∈ l, 0 ≤ x ∧ x < 256) ∧ l.length ≤ R := by
  obtain ⟨A, l, cap, e, h1, h2, h3, h4, h5⟩ := h.slice (cf := cu8) (ok := fun x => 0 ≤ x ∧ x < 256) (size := 1) Tryz.underlying32 (by kernel_rfl) (by decide) cu8_len (fun n l hl h => by
    match l, hl with
    | [c], _ =>
      obtain ⟨a, rfl, u⟩ := TrodW.int Tryz.underlying5 h
      exact ⟨a, rfl, wf_u8' u⟩)
  rw [(by kernel_rfl : Tryz.prog.bytesOf 5 = 1), Nat.mul_one] at h5
  exact ⟨A, l, cap, e, h3, h1, h2, h4, h5⟩
theorem asked_cells (hR : R ≤ 140737488355000) {n : Nat} {l : List Value} (hl : l.length = 2) (h : TrodW enc Tryz.prog w base spare held R n 34 l) : ∃ x : AQ, l = cAQ x ∧ (AqOk w x ∧ x.n.size ≤ maxLen ∧ x.n.size ≤ R ∧ x.b.length ≤ R) := by
  obtain ⟨n1, hf⟩ := h.fields Tryz.underlying34
  match l, hl with
  | [c0, c1], _ =>
  have g0 := hf.at_ 0 9 0 1 _ rfl rfl rfl (by kernel_rfl) rfl
  have g1 := hf.at_ 1 32 1 1 _ rfl rfl rfl (by kernel_rfl) rfl
  obtain ⟨a, rfl, a1, a2⟩ := TrodW.str Tryz.underlying9 g0
  obtain ⟨A, b, cap, rfl, k1, k2, k3, k4, k5⟩ := trod_bytes g1
  exact ⟨⟨a, A, cap, b⟩, rfl, ⟨k1, k4, k2, k3, Nat.le_trans k5 hR⟩, a1, a2, k5⟩
theorem open_asked (hR : R ≤ 140737488355000) {r : Reach} {b0 : Nat} {v : Value} {d : DataW H} {p : List MemPlace} (hW : ∀ q ∈ d.weights Tryz.prog 34, q ≤ R) (hv : Value.okWide Tryz.prog w r b0 34 v) (h : DataW.Trod enc Tryz.prog w base spare held 34 v d p) : ∃ x : AQ, v = .agg (cAQ x).toArray ∧ (AqOk w x ∧ x.n.size ≤ maxLen ∧ x.n.size ≤ R ∧ x.b.length ≤ R) := by
  obtain ⟨l, n, rfl, hl, hf⟩ := open_structW Tryz.underlying34 (by kernel_rfl : Tryz.prog.cellsOf 34 = 2) hW hv h
  obtain ⟨x, rfl, hx⟩ := asked_cells hR hl hf
  exact ⟨x, rfl, hx⟩
theorem open_askeds (hR : R ≤ 140737488355000) {r : Reach} {b0 : Nat} {v : Value} {d : DataW H} {p : List MemPlace} (hW : ∀ q ∈ d.weights Tryz.prog 38, q ≤ R) (hv : Value.okWide Tryz.prog w r b0 38 v) (h : DataW.Trod enc Tryz.prog w base spare held 38 v d p) : ∃ (l : List AQ) (A : Option Addr) (cap : Nat), v = .slice A l.length cap ∧ Aqs w A cap l := by
  obtain ⟨a0, len, c0, rfl⟩ := okWide_slice Tryz.underlying38 hv
  obtain ⟨fuel, hf⟩ := h
  obtain ⟨A, l, cap, e, h1, h2, h3, h4, _⟩ := TrodW.slice (R := R) (cf := cAQ) (ok := fun x => AqOk w x ∧ x.n.size ≤ maxLen ∧ x.n.size ≤ R ∧ x.b.length ≤ R) (size := 2) Tryz.underlying38 (by kernel_rfl) (by decide) cAQ_len (fun n l hl h => asked_cells hR hl h) ⟨_, hf, hW⟩
  exact ⟨l, A, cap, e, h3, h1, h2, fun x hx => (h4 x hx).1⟩
theorem open_vars {r : Reach} {b0 : Nat} {v : Value} {d : DataW H} {p : List MemPlace} (hW : ∀ q ∈ d.weights Tryz.prog 29, q ≤ R) (hv : Value.okWide Tryz.prog w r b0 29 v) (h : DataW.Trod enc Tryz.prog w base spare held 29 v d p) : ∃ (l : List VR) (A : Option Addr) (cap : Nat), v = .slice A l.length cap ∧ RdX cVar w A l ∧ l.length ≤ cap ∧ cap ≤ maxLen := by
  obtain ⟨a0, len, c0, rfl⟩ := okWide_slice Tryz.underlying29 hv
  obtain ⟨fuel, hf⟩ := h
  obtain ⟨A, l, cap, e, h1, h2, h3, h4, _⟩ := TrodW.slice (R := R) (cf := cVar) (ok := fun x => x.n.size ≤ maxLen ∧ x.v.size ≤ maxLen ∧ x.n.size ≤ R ∧ x.v.size ≤ R) (size := 2) Tryz.underlying29 (by kernel_rfl) (by decide) cVar_len (fun n l hl h => var_cells hl h) ⟨_, hf, hW⟩
  exact ⟨l, A, cap, e, h3, h1, h2⟩
def I64' (x : Int) : Prop := -9223372036854775808 ≤ x ∧ x ≤ 9223372036854775807
theorem wf_i64' {n : Int} (h : (Lit.int .i64 n).wf = true) : I64' n := by
  simp [Lit.wf, IntKind.min, IntKind.max, IntKind.bits, IntKind.signed] at h
  unfold I64'; omega
/-- An operation that is handed in. -/
structure OpIn (R : Nat) (x : OP9) : Prop where
  k : I64' x.k
  a : I64' x.a
  b : I64' x.b
  t : x.t.size ≤ maxLen ∧ x.t.size ≤ R
theorem op19_cells {n : Nat} {l : List Value} (hl : l.length = 4) (h : TrodW enc Tryz.prog w base spare held R n 96 l) : ∃ x : OP9, l = cOP x ∧ OpIn R x := by
  obtain ⟨n1, hf⟩ := h.fields Tryz.underlying96
  match l, hl with
  | [c0, c1, c2, c3], _ =>
  have g0 := hf.at_ 0 3 0 1 _ rfl rfl rfl (by kernel_rfl) rfl
  have g1 := hf.at_ 1 3 1 1 _ rfl rfl rfl (by kernel_rfl) rfl
  have g2 := hf.at_ 2 3 2 1 _ rfl rfl rfl (by kernel_rfl) rfl
  have g3 := hf.at_ 3 9 3 1 _ rfl rfl rfl (by kernel_rfl) rfl
  obtain ⟨k, rfl, u0⟩ := TrodW.int Tryz.underlying3 g0
  obtain ⟨a, rfl, u1⟩ := TrodW.int Tryz.underlying3 g1
  obtain ⟨b, rfl, u2⟩ := TrodW.int Tryz.underlying3 g2
  obtain ⟨t, rfl, t1, t2⟩ := TrodW.str Tryz.underlying9 g3
  exact ⟨⟨k, a, b, t⟩, rfl, wf_i64' u0, wf_i64' u1, wf_i64' u2, t1, t2⟩
theorem prog19_cells {n : Nat} {l : List Value} (hl : l.length = 2) (h : TrodW enc Tryz.prog w base spare held R n 94 l) : ∃ x : PG, l = cPG x ∧ (PgOk w x ∧ (x.n.size ≤ maxLen ∧ x.n.size ≤ R) ∧ (∀ o ∈ x.ops, OpIn R o) ∧ x.ops.length * 40 ≤ R) := by
  obtain ⟨n1, hf⟩ := h.fields Tryz.underlying94
  match l, hl with
  | [c0, c1], _ =>
  have g0 := hf.at_ 0 9 0 1 _ rfl rfl rfl (by kernel_rfl) rfl
  have g1 := hf.at_ 1 92 1 1 _ rfl rfl rfl (by kernel_rfl) rfl
  obtain ⟨a, rfl, a1, a2⟩ := TrodW.str Tryz.underlying9 g0
  obtain ⟨A, ops, cap, rfl, k1, k2, k3, k4, k5⟩ := g1.slice (cf := cOP) (ok := OpIn R) (size := 4) Tryz.underlying92 (by kernel_rfl) (by decide) cOP_len (fun n l hl h => op19_cells hl h)
  rw [elemRo_by] at k5
  exact ⟨⟨a, A, cap, ops⟩, rfl, ⟨k3, k1, k2⟩, ⟨a1, a2⟩, k4, k5⟩
/-- Programs that are handed in. -/
structure PgIn (w : World) (R : Nat) (A : Option Addr) (c : Nat) (l : List PG) : Prop where
  pgs : Pgs w A c l
  few : PgFew l
  names : ∀ x ∈ l, x.n.size ≤ maxLen ∧ x.n.size ≤ R
  ops : ∀ x ∈ l, ∀ o ∈ x.ops, OpIn R o
theorem open_progs (hR : R ≤ 140737488355000) {r : Reach} {b0 : Nat} {v : Value} {d : DataW H} {p : List MemPlace} (hW : ∀ q ∈ d.weights Tryz.prog 35, q ≤ R) (hv : Value.okWide Tryz.prog w r b0 35 v) (h : DataW.Trod enc Tryz.prog w base spare held 35 v d p) : ∃ (l : List PG) (A : Option Addr) (cap : Nat), v = .slice A l.length cap ∧ PgIn w R A cap l := by
  obtain ⟨a0, len, c0, rfl⟩ := okWide_slice Tryz.underlying35 hv
  obtain ⟨fuel, hf⟩ := h
  obtain ⟨A, l, cap, e, h1, h2, h3, h4, h5⟩ := TrodW.slice (R := R) (cf := cPG) (ok := fun x => PgOk w x ∧ (x.n.size ≤ maxLen ∧ x.n.size ≤ R) ∧ (∀ o ∈ x.ops, OpIn R o) ∧ x.ops.length * 40 ≤ R) (size := 2) Tryz.underlying35 (by kernel_rfl) (by decide) cPG_len (fun n l hl h => prog19_cells hl h) ⟨_, hf, hW⟩
  rw [elemLp_by] at h5
  exact ⟨l, A, cap, e, ⟨h3, h1, h2, fun x hx => (h4 x hx).1⟩, ⟨by omega, fun x hx => by have := (h4 x hx).2.2.2; omega⟩, fun x hx => (h4 x hx).2.1, fun x hx => (h4 x hx).2.2.1⟩
end
end Go.Proofs.YtdplnedpbkpgpaaGreatDoor

namespace Go.Proofs.YtdplnedpbkpgpaaGreatDoor
set_option linter.all false
open Go.ChangeShapes Go.WideShapes Go.ChangeAt Go.RowKit Go.Deep

/-- What the walk of a law is handed: the arguments read as data, how much each takes, the world's shape. -/
def LawWalkC (P : Program) (f : FuncId) (fn : Func) : Prop :=
  ∀ (H : Type) (enc : TypeId × Value → H) (W : World) (base : Nat) (args : Array Value) (ds : List (DataW H)) (ps : List MemPlace),
    (∀ (j : Nat) t v, fn.params[j]? = some t → args[j]? = some v → Value.okWide P W .any base t v) →
    DataW.TrodAll enc P W 0 (fun _ => true) true fn.params.toList args.toList ds ps →
    (DataW.weightsEach P fn.params.toList ds).all (· ≤ reachBytes) = true →
    W.ShapedOpen P →
    Calls P f args W fun e W' => e = .returned (.bool true) ∧ Below W.heap.size W W'

theorem law_liftedC {C : Checked} {tb : TypeId} (own : ownKnob C.prog.godebug = none) (laidOut : laidOutB C.prog = true) (hb : C.prog.underlying tb = some .bool) (f : FuncId) (fn : Func) (s : ChangeSpec)
    (hfn : C.prog.funcs[f]? = some fn) (noInit : C.prog.inits.idxOf? f = none) (hres : fn.resultTypes = #[tb])
    (hread : readsAll C.prog fn.params.toList = true) (hv : s.vars = [])
    (hs : ∀ (H : Type) (ds : List (DataW H)), ds.length = fn.params.size → s.fn H ds = { results := [.lit (.bool true)], args := ds })
    (X : World → Prop)
    (walk : LawWalkC C.prog f fn) (os : Os) (started : os.Started) (H : Type) (enc : TypeId × Value → H)
    (witness : ∃ (w : World) (tape : Tape) (i : Input), w.os = os ∧ (w.forCall tape i).Shaped C.prog ∧ i.vars = [] ∧ Input.okWide C.prog (w.forCall tape i) .any w.heap.size f i ∧
      ((s.pre enc C.prog fn [] false (w.forCall tape i).memory i.args ∧ X (w.forCall tape i).memory) ∧ sizedMet enc C.prog fn (OpenSpec.ofChange s) false (w.forCall tape i).memory i.args) ∧ Assume.holds {} C.prog (lone (Frame.enter C.prog f i.args .normal) [] (w.forCall tape i))) :
    ReturnsInHanded {} C os f .any (fun w args => (s.pre enc C.prog fn [] false w args ∧ X w) ∧ sizedMet enc C.prog fn (OpenSpec.ofChange s) false w args) (s.post enc C.prog fn false true false false) := by
  refine returnsInHanded_of_calls own started noInit witness ?_
  intro w tape i _ hsh _ hok hpre hholds
  obtain ⟨_, _, _, fn', hfn', _, _, _, _, hval⟩ := hok
  have e : fn' = fn := Option.some.inj (hfn'.symm.trans hfn)
  subst e
  obtain ⟨⟨⟨ds, gs, before, hw, hc⟩, _⟩, hz⟩ := hpre
  have hW := DataW.Whole.of_heap (w' := w.forCall tape i) (by rfl) hw
  have hsz := hz.weights hw
  have hW' := hW
  obtain ⟨p, q, hA, hV, rfl, hfz, hnd⟩ := hW
  have hty : (OpenSpec.ofChange s).bare.plain.varTypes C.prog = [] := by simp [OpenSpec.ofChange, OpenSpec.bare, ChangeSpec.plain, hv, DataSpec.varTypes]
  have hV0 := hV
  rw [hv] at hV0
  obtain ⟨rfl, rfl⟩ := trodVars_none hV0
  rw [hty, List.append_nil, List.append_nil] at hsz
  have hlt := DataW.TrodAll.lt hA
  have hlen : ds.length = fn'.params.size := by have := trodAll_len _ _ _ _ hA; simpa using this
  have hfnc := hs H ds hlen
  refine (walk H enc (w.forCall tape i) w.heap.size i.args ds p hval hA hsz hsh).mono fun e W' ⟨he, bel⟩ => ?_
  subst he
  refine ChangeSpec.post_blind ⟨ds, [], p ++ [], [], p, [], hW', ?_, ?_, ?_, bel.frame _, fun h => by cases h⟩
  · rw [hres, List.append_nil, hfnc]
    exact trodAll_mk1 (shut_bool hb _)
  · rw [List.append_nil, hfnc]
    exact trodAll_stays laidOut bel _ _ _ _ hread hA hlt
  · rw [hv, List.append_nil, hfnc]
    rfl
end Go.Proofs.YtdplnedpbkpgpaaGreatDoor

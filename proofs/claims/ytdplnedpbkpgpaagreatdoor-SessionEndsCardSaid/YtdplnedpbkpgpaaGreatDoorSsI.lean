/- Layer 27: the document's examples; global 0 holds a number · Layer 27: the document's examples; global 0 holds a number · Layer 27: how a client is told of an end can be encoded; the law's walk. -/
import Derived.Test.YtdplnedpbkpgpaaGreatDoorSsH
import Derived.Test.YtdplnedpbkpgpaaGreatDoorReqH
import Derived.Test.YtdplnedpbkpgpaaGreatDoorSsF
import Derived.Test.YtdplnedpbkpgpaaGreatDoorReqJ
namespace Go.Proofs.YtdplnedpbkpgpaaGreatDoor
set_option linter.all false
set_option maxRecDepth 100000
open Go.RowKit
theorem flat8 (l : List Int) : l.flatMap cu8 = l.map (.int .u8) := by
  induction l with
  | nil => rfl
  | cons x l ih => rw [List.flatMap_cons, ih]; rfl
theorem rdX_rd {w : World} {A : Option Addr} {l : List Int} (h : RdX cu8 w A l) : Rd w A l := fun h0 => by
  obtain ⟨b, off, e, hlt, hc⟩ := h h0
  exact ⟨b, off, e, hlt, fun i v hi => hc i _ (by rw [flat8, List.getElem?_map, hi]; rfl)⟩
theorem rencode_s {m : RQ} (w : World) (hm : m.ok w) (hs : m.text.size ≤ 140737488355328) (hv : m.value.size ≤ 140737488355328) (hl : m.lang.size ≤ 140737488355328) {l : List Int} {nm : ByteArray} (e1 : encR m = (0, l)) (e2 : encName m = nm) : Calls Tryz.prog 20 #[m.val] w fun e w' => ∃ A cap, e = .returned (.tuple #[.string nm, .slice A l.length cap, .int .i64 0]) ∧ Only [] w w' ∧ OwnX cu8 5 1 w' w.heap.size (.slice A l.length cap) l := by
  refine (rencode_any m w hm hs hv hl).mono fun e w' h => ?_
  obtain ⟨O, v, he, hO⟩ := h
  rw [e1, e2] at he
  rw [e1] at hO
  have hX : OwnX cu8 5 1 w' w.heap.size v l := by
    unfold OwnX
    rw [flat8]
    exact hO
  obtain ⟨A, cap, e3, _⟩ := hX.form
  subst e3
  exact ⟨A, cap, he, O, hX⟩
def exeR : RQ := { zeroR with kind := 4, text := ⟨#[99, 97, 116, 32, 120]⟩ }
def sigR : RQ := { zeroR with kind := 8, text := ⟨#[73, 78, 84]⟩ }
theorem exeR_enc : encR exeR = (0, [0, 0, 0, 5, 99, 97, 116, 32, 120]) := by decide +kernel
theorem sigR_enc : encR sigR = (0, [0, 0, 0, 3, 73, 78, 84]) := by decide +kernel
theorem exeR_name : encName exeR = ⟨#[101, 120, 101, 99]⟩ := by
  unfold encName
  rw [exeR_enc]
  rfl
theorem sigR_name : encName sigR = ⟨#[115, 105, 103, 110, 97, 108]⟩ := by
  unfold encName
  rw [sigR_enc]
  rfl
theorem exR_ok27 (w : World) (m : RQ) (hm : m = exeR ∨ m = sigR) : m.ok w := by
  rcases hm with rfl | rfl
  · exact { zeroR_ok w with text := by decide, nums := by simp [exeR, zeroR, U32, RNums] }
  · exact { zeroR_ok w with text := by decide, nums := by simp [sigR, zeroR, U32, RNums] }
theorem exeR_dec {x : RQ} {E : Int} (h : DecR ⟨#[101, 120, 101, 99]⟩ [0, 0, 0, 5, 99, 97, 116, 32, 120] x E) : E = 0 ∧ x.kind = 4 ∧ x.text = ⟨#[99, 97, 116, 32, 120]⟩ := by
  have := rback_law (m := exeR) (x := x) (E := E) (by simp [exeR, zeroR, U32, RNums]) (by rw [exeR_enc]) (by rw [exeR_enc, exeR_name]; exact h)
  obtain ⟨e, hs, _⟩ := this
  exact ⟨e, hs.kind.symm.trans rfl, hs.text.symm.trans rfl⟩
theorem sigR_dec {x : RQ} {E : Int} (h : DecR ⟨#[115, 105, 103, 110, 97, 108]⟩ [0, 0, 0, 3, 73, 78, 84] x E) : E = 0 ∧ x.kind = 8 ∧ x.text = ⟨#[73, 78, 84]⟩ := by
  have := rback_law (m := sigR) (x := x) (E := E) (by simp [sigR, zeroR, U32, RNums]) (by rw [sigR_enc]) (by rw [sigR_enc, sigR_name]; exact h)
  obtain ⟨e, hs, _⟩ := this
  exact ⟨e, hs.kind.symm.trans rfl, hs.text.symm.trans rfl⟩
def zS : SS := ⟨false, ⟨#[]⟩, 0, 0, 0, 0, zeroT, [], false⟩
def zS1 : SS := { zS with st := true }
def psC : List PR := [⟨⟨#[99, 97, 116]⟩, none, 0, 0⟩, ⟨⟨#[115, 104]⟩, none, 0, 0⟩]
theorem exA27 {x : RQ} (hk : x.kind = 4) (ht : x.text = ⟨#[99, 97, 116, 32, 120]⟩) : askM zS x 0 psC = (zS1, ⟨true, 1, 0, 0, 0, 0, 0, 0⟩) := by
  unfold askM
  rw [if_neg (by simp), hk]
  show startS zS (cutS x.text) psC = _
  rw [ht]
  kernel_rfl
theorem exB27 {x : RQ} (hk : x.kind = 8) (ht : x.text = ⟨#[73, 78, 84]⟩) : askM zS x 0 psC = (zS, noA) := by
  unfold askM
  rw [if_neg (by simp), hk]
  show sigM zS x = _
  rfl
theorem exC27 {x : RQ} (hk : x.kind = 8) (ht : x.text = ⟨#[73, 78, 84]⟩) : askM zS1 x 0 psC = (zS1, ⟨true, 3, 0, 2, 0, 0, 0, 0⟩) := by
  unfold askM
  rw [if_neg (by simp), hk]
  show sigM zS1 x = _
  unfold sigM
  rw [ht]
  kernel_rfl
def busT : ByteArray := ⟨#[66, 85, 83, 64, 112, 97, 114, 108, 111, 117, 114]⟩
theorem end2007 : endR 2007 = { zeroR with kind := 10, text := busT, on := true } := by kernel_rfl
theorem end3 : endR 3 = { zeroR with kind := 9, code := 3 } := by kernel_rfl
theorem end1002 : endR 1002 = { zeroR with kind := 10, text := ⟨#[73, 78, 84]⟩ } := by kernel_rfl
end Go.Proofs.YtdplnedpbkpgpaaGreatDoor

namespace Go.Proofs.YtdplnedpbkpgpaaGreatDoor
set_option linter.all false
set_option maxRecDepth 100000
open Go.RowKit
/-- What an example asks: a session of no variables. -/
theorem askX {s : SS} {z : SS × AC} {nam : ByteArray} {l : List Int} (hs : s.env = []) (hz : z.1.env = []) (hl : ∀ x ∈ l, 0 ≤ x ∧ x < 256) (h0 : 0 < l.length) (hn : l.length ≤ 100) (hdec : ∀ x E, DecR nam l x E → E = 0 ∧ askM s x 0 psC = z) (A : Option Addr) (cap : Nat) (B : Option Addr) (c : Nat) (pb : Nat) (w : World) (i0 : Int) (h00 : w.cell? ⟨0, 0, none⟩ = some (.int .i64 i0)) (hB : RdX cu8 w B l) (hc1 : l.length ≤ c) (hc2 : c ≤ maxLen) (hp : RdX cPr w (some ⟨pb, 0, none⟩) psC) :
    Calls Tryz.prog 11 #[s.val A cap, .string nam, .slice B l.length c, .slice (some ⟨pb, 0, none⟩) 2 2] w fun e w' => ∃ x : Option Addr × Nat, e = .returned (.tuple #[z.1.val x.1 x.2, z.2.val]) ∧ Only [] w w' ∧ True := by
  refine (ask_any27 s A cap nam B c l (some ⟨pb, 0, none⟩) 2 psC w i0 h00 (fun h => by rw [hs] at h; exact absurd h (by simp)) (by rw [hs]; exact Nat.zero_le _) (rdX_rd hB) hl (by omega) hc1 hc2 (fun a ha => by
    obtain ⟨b, off, e, hlt, _⟩ := hB h0
    rw [ha] at e
    injection e with e
    rw [e]
    exact hlt) hp (by decide)).mono fun e w' h => ?_
  obtain ⟨O, m, E, A', cap', hD, he, _⟩ := h
  obtain ⟨rfl, hm⟩ := hdec m E hD
  rw [hm] at he
  exact ⟨(A', cap'), he, O, trivial⟩
theorem alive27_any (w : World) (i0 : Int) (h00 : w.cell? ⟨0, 0, none⟩ = some (.int .i64 i0)) : Calls Tryz.prog 8 #[] w fun e w' => e = .returned (.bool true) ∧ Only [] w w' := by
  refine Hs.enter Tryz.func8 [] [] [] [] (Mem.start0 w) (by kernel_rfl) (by kernel_rfl) ?_
  refine Hs.run1 300 (fun _ => by kernel_rfl) fun b0 => ?_
  refine Hs.callS (cf := cu8) (E := 5) (size := 1) (fun A cap => .tuple #[.string ⟨#[101, 120, 101, 99]⟩, .slice A 9 cap, .int .i64 0]) [0, 0, 0, 5, 99, 97, 116, 32, 120] 9 rfl (fun w' H => rencode_s w' (exR_ok27 w' exeR (.inl rfl)) (by decide) (by decide) (by decide) exeR_enc exeR_name) (by kernel_rfl) (by kernel_rfl) fun B1 c1 h1 h2 => ?_
  refine Hs.run0 300 (fun _ => by kernel_rfl) ?_
  refine Hs.callS (cf := cu8) (E := 5) (size := 1) (fun A cap => .tuple #[.string ⟨#[115, 105, 103, 110, 97, 108]⟩, .slice A 7 cap, .int .i64 0]) [0, 0, 0, 3, 73, 78, 84] 7 rfl (fun w' H => rencode_s w' (exR_ok27 w' sigR (.inr rfl)) (by decide) (by decide) (by decide) sigR_enc sigR_name) (by kernel_rfl) (by kernel_rfl) fun B2 c2 h3 h4 => ?_
  refine Hs.run0 300 (fun _ => by kernel_rfl) ?_
  refine Hs.callX (v := fun x : Option Addr × Nat => .tuple #[SS.val zS1 x.1 x.2, AC.val ⟨true, 1, 0, 0, 0, 0, 0, 0⟩]) (Q := fun _ => True) (fun w' H => askX (s := zS) (z := (zS1, ⟨true, 1, 0, 0, 0, 0, 0, 0⟩)) rfl rfl (by decide) (by decide) (by decide) (fun x E h => ⟨(exeR_dec h).1, exA27 (exeR_dec h).2.1 (exeR_dec h).2.2⟩) none 0 B1 c1 b0 w' i0 (cell_step H.only h00) (H.rdX 1 (A := B1) (cap := c1) (E := 5) (size := 1) (l := [0, 0, 0, 5, 99, 97, 116, 32, 120]) rfl (by kernel_rfl)) h1 h2 (H.rdB (gs := psC) 0 (wr := true) (T := 81) (cs := psC.flatMap PR.sc) (by kernel_rfl) rfl)) (by kernel_rfl) fun x1 _ => ?_
  obtain ⟨A1, p1⟩ := x1
  refine Hs.run2 300 (fun _ => by kernel_rfl) fun b3 b4 => ?_
  refine Hs.callX (v := fun x : Option Addr × Nat => .tuple #[SS.val zS x.1 x.2, AC.val noA]) (Q := fun _ => True) (fun w' H => askX (s := zS) (z := (zS, noA)) rfl rfl (by decide) (by decide) (by decide) (fun x E h => ⟨(sigR_dec h).1, exB27 (sigR_dec h).2.1 (sigR_dec h).2.2⟩) none 0 B2 c2 b0 w' i0 (cell_step H.only h00) (H.rdX 2 (A := B2) (cap := c2) (E := 5) (size := 1) (l := [0, 0, 0, 3, 73, 78, 84]) rfl (by kernel_rfl)) h3 h4 (H.rdB (gs := psC) 0 (wr := true) (T := 81) (cs := psC.flatMap PR.sc) (by kernel_rfl) rfl)) (by kernel_rfl) fun x2 _ => ?_
  obtain ⟨A2, p2⟩ := x2
  refine Hs.run2 300 (fun _ => by kernel_rfl) fun b5 b6 => ?_
  refine Hs.callX (v := fun x : Option Addr × Nat => .tuple #[SS.val zS1 x.1 x.2, AC.val ⟨true, 3, 0, 2, 0, 0, 0, 0⟩]) (Q := fun _ => True) (fun w' H => askX (s := zS1) (z := (zS1, ⟨true, 3, 0, 2, 0, 0, 0, 0⟩)) rfl rfl (by decide) (by decide) (by decide) (fun x E h => ⟨(sigR_dec h).1, exC27 (sigR_dec h).2.1 (sigR_dec h).2.2⟩) A1 p1 B2 c2 b0 w' i0 (cell_step H.only h00) (H.rdX 2 (A := B2) (cap := c2) (E := 5) (size := 1) (l := [0, 0, 0, 3, 73, 78, 84]) rfl (by kernel_rfl)) h3 h4 (H.rdB (gs := psC) 0 (wr := true) (T := 81) (cs := psC.flatMap PR.sc) (by kernel_rfl) rfl)) (by kernel_rfl) fun x3 _ => ?_
  obtain ⟨A3, p3⟩ := x3
  refine Hs.run2 300 (fun _ => by kernel_rfl) fun b7 b8 => ?_
  refine Hs.callV (v := RQ.val { zeroR with kind := 10, text := busT, on := true }) (fun w' H => by have := end_any27 2007 w'; rw [end2007] at this; exact this) (by kernel_rfl) ?_
  refine Hs.run1 300 (fun _ => by kernel_rfl) fun b9 => ?_
  refine Hs.rung0 [2, 7, 12, 16, 21, 26, 31, 36, 41, 46] 300 (fun _ => by kernel_rfl) ?_
  refine Hs.callV (v := RQ.val { zeroR with kind := 9, code := 3 }) (fun w' H => by have := end_any27 3 w'; rw [end3] at this; exact this) (by kernel_rfl) ?_
  refine Hs.rung0 [2, 7, 12, 16, 21, 26, 31, 36, 41, 46] 300 (fun _ => by kernel_rfl) ?_
  refine Hs.callV (v := RQ.val { zeroR with kind := 10, text := ⟨#[73, 78, 84]⟩ }) (fun w' H => by have := end_any27 1002 w'; rw [end1002] at this; exact this) (by kernel_rfl) ?_
  refine Hs.rung0 [2, 7, 12, 16, 21, 26, 31, 36, 41, 46] 300 (fun _ => by kernel_rfl) ?_
  exact Hs.ret (v := .bool true) Tryz.func8 (by kernel_rfl) fun w' H => ⟨rfl, H.only⟩
end Go.Proofs.YtdplnedpbkpgpaaGreatDoor

namespace Go.Proofs.YtdplnedpbkpgpaaGreatDoor
set_option linter.all false
set_option maxRecDepth 100000
open Go.RowKit
def nmStat : ByteArray := ⟨#[101, 120, 105, 116, 45, 115, 116, 97, 116, 117, 115]⟩
def nmSig : ByteArray := ⟨#[101, 120, 105, 116, 45, 115, 105, 103, 110, 97, 108]⟩
theorem sCases {n : Int} (h : isS n = true) : n = 1 ∨ n = 2 ∨ n = 3 ∨ n = 4 ∨ n = 5 ∨ n = 6 ∨ n = 7 ∨ n = 8 ∨ n = 9 ∨ n = 10 ∨ n = 11 ∨ n = 12 ∨ n = 13 ∨ n = 14 ∨ n = 15 ∨ n = 17 ∨ n = 18 ∨ n = 19 ∨ n = 20 ∨ n = 21 ∨ n = 22 ∨ n = 28 := by
  unfold isS at h
  simp only [Bool.or_eq_true, Bool.and_eq_true, decide_eq_true_eq] at h
  omega
theorem enc_stat (c : Int) : (encR { zeroR with kind := 9, code := c }).1 = 0 := by
  rw [encR_go (k := 9) (by decide) (by decide) rfl rfl]
  rfl
theorem enc_sig {n : Int} (h : isS n = true) (b : Bool) : (encR (z10 n b)).1 = 0 := by
  rcases sCases h with rfl | rfl | rfl | rfl | rfl | rfl | rfl | rfl | rfl | rfl | rfl | rfl | rfl | rfl | rfl | rfl | rfl | rfl | rfl | rfl | rfl | rfl <;> cases b <;> decide +kernel
theorem end_enc {st : Int} (h : I64 st) : (encR (endR st)).1 = 0 ∧ (encName (endR st) = nmStat ∨ encName (endR st) = nmSig) := by
  by_cases hn : st > 1000 ∧ st < 3000 ∧ isS (st.tmod 1000) = true
  · rw [endR_in h hn.1 hn.2.1 hn.2.2]
    have e := enc_sig hn.2.2 (decide (st > 2000))
    exact ⟨e, .inr (by rw [encName_ok (k := 10) rfl e]; rfl)⟩
  · rw [endR_out h hn]
    have e := enc_stat (IntKind.u32.wrap ((IntKind.i64.wrap (st.tmod 256 + 256)).tmod 256))
    exact ⟨e, .inl (by unfold zR9; rw [encName_ok (k := 9) rfl e]; rfl)⟩
theorem end_ok {st : Int} (h : I64 st) (w : World) : (endR st).ok w ∧ (endR st).text.size ≤ 100 ∧ (endR st).value.size ≤ 100 ∧ (endR st).lang.size ≤ 100 := by
  by_cases hn : st > 1000 ∧ st < 3000 ∧ isS (st.tmod 1000) = true
  · rw [endR_in h hn.1 hn.2.1 hn.2.2]
    have ht : (z10 (st.tmod 1000) (decide (st > 2000))).text.size ≤ 100 := by
      unfold z10
      have := nameS_size hn.2.2
      dsimp only
      split
      · omega
      · rw [ByteArray.size_append]
        have : oursS.size = 8 := rfl
        omega
    refine ⟨{ zeroR_ok w with text := by have : (100 : Nat) ≤ maxLen := by decide
                                         omega, nums := by simp [z10, zeroR, U32, RNums] }, ht, Nat.zero_le _, Nat.zero_le _⟩
  · rw [endR_out h hn]
    refine ⟨{ zeroR_ok w with nums := ?_ }, Nat.zero_le _, Nat.zero_le _, Nat.zero_le _⟩
    refine ⟨by simp [zR9, zeroR, U32], by simp [zR9, zeroR, U32], by simp [zR9, zeroR, U32], by simp [zR9, zeroR, U32], ?_⟩
    unfold zR9 U32
    dsimp only
    rw [wrap32]
    omega
theorem ends_walk27 (st : Int) (hst : I64 st) (w : World) (i0 : Int) (h00 : w.cell? ⟨0, 0, none⟩ = some (.int .i64 i0)) : Calls Tryz.prog 4 #[.int .i64 st] w fun e w' => e = .returned (.bool true) ∧ Only [] w w' := by
  have key : ∀ (m : RQ) (nam : ByteArray) (l : List Int), endR st = m → encR m = (0, l) → encName m = nam → (nam = nmStat ∨ nam = nmSig) → Calls Tryz.prog 4 #[.int .i64 st] w fun e w' => e = .returned (.bool true) ∧ Only [] w w' := by
    intro m nam l hm e1 e2 hn
    have hok := fun w => hm ▸ end_ok hst w
    refine Hs.enter Tryz.func4 [] [] [] [.c (.v (.int .i64 st))] (Mem.start0 w) (by kernel_rfl) (by kernel_rfl) ?_
    refine Hs.run0 300 (fun _ => by kernel_rfl) ?_
    refine Hs.callV (fun w' H => alive27_any w' i0 (cell_step H.only h00)) (by kernel_rfl) ?_
    refine Hs.run0 300 (fun _ => by kernel_rfl) ?_
    refine Hs.condF (by kernel_rfl) ?_
    refine Hs.run0 300 (fun _ => by kernel_rfl) ?_
    refine Hs.callV (v := m.val) (fun w' H => by have := end_any27 st w'; rw [hm] at this; exact this) (by kernel_rfl) ?_
    refine Hs.run1 300 (fun _ => by kernel_rfl) fun b0 => ?_
    refine Hs.callS (cf := cu8) (E := 5) (size := 1) (fun A cap => .tuple #[.string nam, .slice A l.length cap, .int .i64 0]) l l.length rfl (fun w' H => rencode_s w' (hok w').1 (Nat.le_trans (hok w').2.1 (by decide)) (Nat.le_trans (hok w').2.2.1 (by decide)) (Nat.le_trans (hok w').2.2.2 (by decide)) e1 e2) (by kernel_rfl) (by kernel_rfl) fun B1 c1 h1 h2 => ?_
    refine Hs.run0 300 (fun _ => by kernel_rfl) ?_
    refine Hs.any [0] (by kernel_rfl) ?_
    refine Hs.run0 300 (fun _ => by kernel_rfl) ?_
    refine Hs.callV (v := m.val) (fun w' H => by have := r27end_any st hst w'; rw [hm] at this; exact this) (by kernel_rfl) ?_
    refine Hs.run0 300 (fun _ => by kernel_rfl) ?_
    refine Hs.callV (v := .bool true) (fun w' H => rsame_true m m w' (hok w').1 (hok w').1 ⟨rfl, rfl, rfl, rfl, rfl, rfl, rfl, rfl, rfl, rfl, rfl⟩) (by kernel_rfl) ?_
    rcases hn with rfl | rfl
    · refine Hs.rung0 [4, 8, 11] 300 (fun _ => by kernel_rfl) ?_
      exact Hs.ret (v := .bool true) Tryz.func4 (by kernel_rfl) fun w' H => ⟨rfl, H.only⟩
    · refine Hs.rung0 [4, 8, 11] 300 (fun _ => by kernel_rfl) ?_
      exact Hs.ret (v := .bool true) Tryz.func4 (by kernel_rfl) fun w' H => ⟨rfl, H.only⟩
  exact key _ _ _ rfl (Prod.ext (end_enc hst).1 rfl) rfl (end_enc hst).2
end Go.Proofs.YtdplnedpbkpgpaaGreatDoor

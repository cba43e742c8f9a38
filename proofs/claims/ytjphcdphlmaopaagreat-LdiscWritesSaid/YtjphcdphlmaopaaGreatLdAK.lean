/- Layer 8: flags set, and asked for; equal bytes; plain bytes; for all settings; no condition but their numbers' size. -/
import Derived.Test.YtjphcdphlmaopaaGreatLdAJ
import Derived.Test.YtjphcdphlmaopaaGreatEngAE
namespace Go.Proofs.YtjphcdphlmaopaaGreat
set_option linter.all false
set_option maxRecDepth 100000
open Go.RowKit

theorem bit_bv (op : Int) : (BitVec.ofInt 64 (bitI op)).toNat = 2 ^ (op - 30).toNat % 2 ^ 64 := by
  unfold bitI
  rw [BitVec.ofInt_natCast, BitVec.toNat_ofNat]
theorem bit_two (op : Int) (h2 : op ≤ 93) : BitVec.ofInt 64 (bitI op) = BitVec.twoPow 64 (op - 30).toNat := by
  apply BitVec.eq_of_toNat_eq
  rw [bit_bv, BitVec.toNat_twoPow]
theorem wrap_u64 (b : BitVec 64) : IntKind.u64.wrap (b.toNat : Int) = b.toNat := by
  have := b.isLt
  rw [IntKind.wrap]
  simp [IntKind.bits, IntKind.signed]
  omega
theorem has_bit (fl op : Int) : hasI fl op = (isFlagB op && (BitVec.ofInt 64 fl).getLsbD (op - 30).toNat) := by
  unfold hasI
  cases hf : isFlagB op with
  | false => rfl
  | true =>
    have h2 : op ≤ 93 ∧ 30 ≤ op := by
      simp [isFlagB] at hf
      omega
    simp only [Bool.true_and]
    rw [wrap_u64, bit_two op h2.1, BitVec.and_twoPow]
    have hk : (op - 30).toNat < 64 := by omega
    cases hb : (BitVec.ofInt 64 fl).getLsbD (op - 30).toNat with
    | true =>
      simp only [if_true]
      have h3 : (BitVec.twoPow 64 (op - 30).toNat).toNat ≠ 0 := by
        rw [BitVec.toNat_twoPow, Nat.mod_eq_of_lt (Nat.pow_lt_pow_right (by decide) hk)]
        exact Nat.ne_of_gt (Nat.two_pow_pos _)
      simp only [bne_iff_ne, ne_eq]
      exact_mod_cast h3
    | false => simp
theorem set_bit (fl op op' : Int) (on : Bool) : hasI (setI fl op on) op' = if isFlagB op = true ∧ op = op' then on else hasI fl op' := by
  rw [has_bit, has_bit]
  unfold setI
  cases hf : isFlagB op with
  | false => simp
  | true =>
    have h2 : op ≤ 93 ∧ 30 ≤ op := by
      simp [isFlagB] at hf
      omega
    have hk : (op - 30).toNat < 64 := by omega
    cases hf' : isFlagB op' with
    | false =>
      have : op ≠ op' := fun e => by rw [e, hf'] at hf; cases hf
      simp [this]
    | true =>
      have h2' : op' ≤ 93 ∧ 30 ≤ op' := by
        simp [isFlagB] at hf'
        omega
      simp only [if_true, Bool.true_and, true_and]
      have hk' : (op' - 30).toNat < 64 := by omega
      have e : (op = op') ↔ (op - 30).toNat = (op' - 30).toNat := by omega
      cases on with
      | true =>
        simp only [if_true]
        rw [wrap_u64, BitVec.ofInt_natCast, BitVec.ofNat_toNat, BitVec.setWidth_eq, BitVec.getLsbD_or, bit_two op h2.1, BitVec.getLsbD_twoPow]
        by_cases h : op = op'
        · subst h
          simp [hk]
        · rw [if_neg h]
          have : ¬ (op - 30).toNat = (op' - 30).toNat := fun h' => h (e.2 h')
          simp [this]
      | false =>
        simp only [Bool.false_eq_true, if_false]
        rw [wrap_u64, BitVec.ofInt_natCast, BitVec.ofNat_toNat, BitVec.setWidth_eq, BitVec.getLsbD_and, BitVec.getLsbD_not, bit_two op h2.1, BitVec.getLsbD_twoPow]
        by_cases h : op = op'
        · subst h
          simp [hk]
        · rw [if_neg h]
          have : ¬ (op - 30).toNat = (op' - 30).toNat := fun h' => h (e.2 h')
          simp [this, hk']
theorem set_has (t : TM) (op op' : Int) (on : Bool) (hf : isFlagB op = true) : (t.set op on).has op' = if op = op' then on else t.has op' := by
  show hasI (setI t.fl op on) op' = _
  rw [set_bit]
  simp only [hf, true_and]
  rfl
theorem set_is (t : TM) (op : Int) (on : Bool) (k : Nat) (c : Int) : (t.set op on).is k c = t.is k c := rfl
theorem bytes16_true (A B : Option Addr) (ca cb : Nat) (l : List Int) (n1 n2 : Nat) (hn1 : l.length = n1) (hn2 : l.length = n2) (w : World) (ha : RdX cu8 w A l) (hb : RdX cu8 w B l) (hlen : l.length ≤ maxLen) : Calls Tryz.prog 21 #[.slice A n1 ca, .slice B n2 cb] w fun e w' => e = .returned (.bool true) ∧ Only [] w w' := by
  subst hn1; subst hn2
  refine Hs.enter Tryz.func21 [] [] [] [.c (.v (.slice A l.length ca)), .c (.v (.slice B l.length cb))] (Mem.start0 w) (by kernel_rfl) (by kernel_rfl) ?_
  have J : ∀ (d i : Nat), l.length - i = d → i ≤ l.length → ∀ (u : Nat → Value), Hs Tryz.prog 21 (fun e w' => e = .returned (.bool true) ∧ Only [] w w') (Tryz.f21).ntmps w [] [] ⟨.no, loopAt Tryz.f21 0, pins [(0, .c (.v (.slice A l.length ca))), (1, .c (.v (.slice B l.length cb))), (12, .c (.v (.int .i64 l.length))), (13, .c (.v (.int .i64 (i : Nat))))] (.vals u), []⟩ := by
    intro d
    induction d with
    | zero =>
      intro i hd hi u
      refine Hs.run0 300 (fun _ => by kernel_rfl) ?_
      refine Hs.condP ((i : Int) < (l.length : Int)) (by kernel_rfl) (fun h => by omega) (fun h => ?_)
      refine Hs.run0 300 (fun _ => by kernel_rfl) ?_
      exact Hs.ret (v := .bool true) Tryz.func21 (by kernel_rfl) fun w' H => ⟨rfl, H.only⟩
    | succ d ih =>
      intro i hd hi u
      have hil : i < l.length := by omega
      obtain ⟨x, hx⟩ : ∃ x, l[i]? = some x := ⟨_, List.getElem?_eq_getElem hil⟩
      obtain ⟨ab, aoff, hA, _, _⟩ := ha (by omega)
      obtain ⟨bb, boff, hB, _, _⟩ := hb (by omega)
      subst hA; subst hB
      have c1 := fun w' (O : Only [] w w') => u8_cell (ha.only O) hx
      have c2 := fun w' (O : Only [] w w') => u8_cell (hb.only O) hx
      refine Hs.run0 300 (fun _ => by kernel_rfl) ?_
      refine Hs.condP ((i : Int) < (l.length : Int)) (by kernel_rfl) (fun h => ?_) (fun h => by omega)
      refine Hs.run0 300 (fun _ => by kernel_rfl) ?_
      refine Hs.any [] (by kernel_rfl) ?_
      refine Hs.run0 300 (fun _ => by kernel_rfl) ?_
      refine Hs.takeIdx (rd := []) 2 elemU8 (b := ab) (off := aoff) (c := ca) (len := l.length) (i := i) hil (by kernel_rfl) ?_
      refine Hs.takeIdx (rd := []) 6 elemU8 (b := bb) (off := boff) (c := cb) (len := l.length) (i := i) hil (by kernel_rfl) ?_
      refine Hs.branch2 3 7 (by kernel_rfl) ?_ ?_
      · refine Hs.ldc (E' := 5) (b := ab) (off := aoff + i * 1) (.int .u8 x) (by kernel_rfl) (fun w' H => c1 w' H.only) (by kernel_rfl) ?_
        refine Hs.run0 300 (fun _ => by kernel_rfl) ?_
        refine Hs.ldc (E' := 5) (b := bb) (off := boff + i * 1) (.int .u8 x) (by kernel_rfl) (fun w' H => c2 w' H.only) (by kernel_rfl) ?_
        refine Hs.run0 300 (fun _ => by kernel_rfl) ?_
        refine Hs.cond (x != x) (by kernel_rfl) (fun h => by simp at h) (fun _ => ?_)
        refine Hs.run0 300 (fun _ => by kernel_rfl) ?_
        refine Hs.slot 13 (.c (.v (.int .i64 (i + 1 : Nat)))) rfl ((by kernel_rfl : _ = Value.int .i64 (IntKind.i64.wrap ((i : Int) + 1))).trans (wrap_nextJ hlen)) ?_
        refine Hs.loop (by kernel_rfl) ?_
        exact Hs.goto (loopAt Tryz.f21 0) [] [] [(0, .c (.v (.slice (some ⟨ab, aoff, none⟩) l.length ca))), (1, .c (.v (.slice (some ⟨bb, boff, none⟩) l.length cb))), (12, .c (.v (.int .i64 l.length))), (13, .c (.v (.int .i64 (i + 1 : Nat))))] (by kernel_rfl) (by decide) (by kernel_rfl) (by kernel_rfl) (fun _ => (by kernel_rfl)) (fun u => ih (i + 1) (by omega) (by omega) u)
      · refine Hs.ldc (E' := 5) (b := bb) (off := boff + i * 1) (.int .u8 x) (by kernel_rfl) (fun w' H => c2 w' H.only) (by kernel_rfl) ?_
        refine Hs.run0 300 (fun _ => by kernel_rfl) ?_
        refine Hs.ldc (E' := 5) (b := ab) (off := aoff + i * 1) (.int .u8 x) (by kernel_rfl) (fun w' H => c1 w' H.only) (by kernel_rfl) ?_
        refine Hs.run0 300 (fun _ => by kernel_rfl) ?_
        refine Hs.cond (x != x) (by kernel_rfl) (fun h => by simp at h) (fun _ => ?_)
        refine Hs.run0 300 (fun _ => by kernel_rfl) ?_
        refine Hs.slot 13 (.c (.v (.int .i64 (i + 1 : Nat)))) rfl ((by kernel_rfl : _ = Value.int .i64 (IntKind.i64.wrap ((i : Int) + 1))).trans (wrap_nextJ hlen)) ?_
        refine Hs.loop (by kernel_rfl) ?_
        exact Hs.goto (loopAt Tryz.f21 0) [] [] [(0, .c (.v (.slice (some ⟨ab, aoff, none⟩) l.length ca))), (1, .c (.v (.slice (some ⟨bb, boff, none⟩) l.length cb))), (12, .c (.v (.int .i64 l.length))), (13, .c (.v (.int .i64 (i + 1 : Nat))))] (by kernel_rfl) (by decide) (by kernel_rfl) (by kernel_rfl) (fun _ => (by kernel_rfl)) (fun u => ih (i + 1) (by omega) (by omega) u)
  refine Hs.run0 300 (fun _ => by kernel_rfl) ?_
  refine Hs.cond ((l.length : Int) != (l.length : Int)) (by kernel_rfl) (fun h => by simp at h) (fun _ => ?_)
  refine Hs.run0 300 (fun _ => by kernel_rfl) ?_
  refine Hs.loop (by kernel_rfl) ?_
  exact Hs.goto (loopAt Tryz.f21 0) [] [] [(0, .c (.v (.slice A l.length ca))), (1, .c (.v (.slice B l.length cb))), (12, .c (.v (.int .i64 l.length))), (13, .c (.v (.int .i64 (0 : Nat))))] (by kernel_rfl) (by decide) (by kernel_rfl) (by kernel_rfl) (fun _ => (by kernel_rfl)) (fun u => J _ 0 rfl (by omega) u)
/-- No character from i on, of k of them, is this byte. -/
def noOp (t : TM) (c : Int) : Nat → Nat → Bool
  | 0, _ => true
  | k + 1, i => !t.is i c && noOp t c k (i + 1)
theorem noOp_at (t : TM) (c : Int) : ∀ (k i : Nat), noOp t c k i = true → ∀ j, i ≤ j → j < i + k → t.is j c = false
  | 0, i, _, j, h1, h2 => by omega
  | k + 1, i, h, j, h1, h2 => by
    unfold noOp at h
    simp only [Bool.and_eq_true, Bool.not_eq_true'] at h
    rcases Nat.eq_or_lt_of_le h1 with rfl | h3
    · exact h.1
    · exact noOp_at t c k (i + 1) h.2 j (by omega) (by omega)
def plainB (t : TM) (c : Int) : Bool := !(c == 10) && (!(c == 13) && noOp t c 18 1)
theorem plain16_any (t : TM) (c : Int) (w : World) : Calls Tryz.prog 18 #[t.val, .int .u8 c] w fun e w' => e = .returned (.bool (plainB t c)) ∧ Only [] w w' := by
  have J : ∀ (k i : Nat), 1 ≤ i → i + k = 19 → ∀ (b0 : Nat) (u : Nat → Value), Hs Tryz.prog 18 (fun e w' => e = .returned (.bool (noOp t c k i)) ∧ Only [] w w') (Tryz.f18).ntmps w [] [b0] ⟨.no, loopAt Tryz.f18 0, pins [(1, .c (.v (.int .u8 c))), (2, .c (.p 0 0)), (5, .c (.v (.int .i64 i)))] (.vals u), [.b true 26 t.sc]⟩ := by
    intro k
    induction k with
    | zero =>
      intro i h1 h2 b0 u
      obtain rfl : i = 19 := by omega
      refine Hs.run0 300 (fun _ => by kernel_rfl) ?_
      refine Hs.condF (by kernel_rfl) ?_
      refine Hs.run0 300 (fun _ => by kernel_rfl) ?_
      exact Hs.ret (v := .bool true) Tryz.func18 (by kernel_rfl) fun w' H => ⟨rfl, H.only⟩
    | succ k ih =>
      intro i h1 h2 b0 u
      refine Hs.run0 300 (fun _ => by kernel_rfl) ?_
      refine Hs.condP ((i : Int) ≤ 18) (by kernel_rfl) (fun _ => ?_) (fun h => by omega)
      refine Hs.run0 300 (fun _ => by kernel_rfl) ?_
      refine Hs.callV (fun w' H => is_any t i c h1 (by omega) w') (by kernel_rfl) ?_
      refine Hs.run0 300 (fun _ => by kernel_rfl) ?_
      refine Hs.cond (t.is i c) (by kernel_rfl) (fun h => ?_) (fun h => ?_)
      · refine Hs.run0 300 (fun _ => by kernel_rfl) ?_
        exact Hs.ret (v := .bool false) Tryz.func18 (by kernel_rfl) fun w' H => ⟨by rw [noOp, h]; rfl, H.only⟩
      · have hih := fun u => ih (i + 1) (by omega) (by omega) b0 u
        rw [show noOp t c (k + 1) i = noOp t c k (i + 1) by rw [noOp, h]; rfl]
        refine Hs.run0 300 (fun _ => by kernel_rfl) ?_
        refine Hs.slot 5 (.c (.v (.int .i64 (i + 1 : Nat)))) rfl ((by kernel_rfl : _ = Value.int .i64 (IntKind.i64.wrap ((i : Int) + 1))).trans (by rw [IntWalk.i64_in _ (by omega)]; show Value.int .i64 ((i : Int) + 1) = Value.int .i64 ((i + 1 : Nat) : Int); rfl)) ?_
        refine Hs.loop (by kernel_rfl) ?_
        exact Hs.goto (loopAt Tryz.f18 0) [0] [.b true 26 t.sc] [(1, .c (.v (.int .u8 c))), (2, .c (.p 0 0)), (5, .c (.v (.int .i64 (i + 1 : Nat))))] (by kernel_rfl) (by decide) (by kernel_rfl) (by kernel_rfl) (fun _ => (by kernel_rfl)) hih
  refine Hs.enter Tryz.func18 [] [] [] [.g t.sc, .c (.v (.int .u8 c))] (Mem.start0 w) (by kernel_rfl) (by kernel_rfl) ?_
  refine Hs.run1 300 (fun _ => by kernel_rfl) fun b0 => ?_
  refine Hs.bool 8 (c == 10) (by kernel_rfl) (fun h => ?_) (fun h => ?_)
  · refine Hs.rung0 [2] 300 (fun _ => by kernel_rfl) ?_
    refine Hs.condT (by kernel_rfl) ?_
    refine Hs.run0 300 (fun _ => by kernel_rfl) ?_
    exact Hs.ret (v := .bool false) Tryz.func18 (by kernel_rfl) fun w' H => ⟨by rw [plainB, h]; rfl, H.only⟩
  · refine Hs.rung0 [2] 300 (fun _ => by kernel_rfl) ?_
    refine Hs.cond (c == 13) (by kernel_rfl) (fun h2 => ?_) (fun h2 => ?_)
    · refine Hs.run0 300 (fun _ => by kernel_rfl) ?_
      exact Hs.ret (v := .bool false) Tryz.func18 (by kernel_rfl) fun w' H => ⟨by rw [plainB, h, h2]; rfl, H.only⟩
    · rw [show plainB t c = noOp t c 18 1 by rw [plainB, h, h2]; rfl]
      refine Hs.run0 300 (fun _ => by kernel_rfl) ?_
      refine Hs.loop (by kernel_rfl) ?_
      exact Hs.goto (loopAt Tryz.f18 0) [0] [.b true 26 t.sc] [(1, .c (.v (.int .u8 c))), (2, .c (.p 0 0)), (5, .c (.v (.int .i64 (1 : Nat))))] (by kernel_rfl) (by decide) (by kernel_rfl) (by kernel_rfl) (fun _ => (by kernel_rfl)) (fun u => J 18 1 (by decide) rfl b0 u)
end Go.Proofs.YtjphcdphlmaopaaGreat

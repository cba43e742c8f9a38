/- The walk of the law RingParts: it is true; for every ring, bytes, cut and wishes that its types can hold. -/
import Derived.Test.YtamnnggijmmogaaRingG
import Derived.Test.YtamnnggijmmogaaApp
namespace Go.Proofs.Ytamnnggijmmogaa
set_option linter.all false
open Go.RowKit

theorem Byt.own {w : World} {base : Nat} {v : Value} {l : List Int} (h : Byt w base v l) (hl : l.length ≤ maxLen) : OwnB w base v l := by
  rcases h with ⟨rfl, rfl⟩ | ⟨b, rfl, hb, hk⟩
  · exact ownB_nil w base
  · exact ownB_blk hk hb hl
theorem Rd.onlyL {w w' : World} {A : Option Addr} {l : List Int} {L : List Nat} (h : Rd w A l) (hb : Only L w w') (hL : ∀ a, A = some a → a.block ∉ L) : Rd w' A l := by
  intro h0
  obtain ⟨b, off, rfl, hlt, hc⟩ := h h0
  exact ⟨b, off, rfl, Nat.lt_of_lt_of_le hlt hb.size, fun i v hi => (World.cell?_of_block (w := w) (hb.block b hlt (hL _ rfl))).trans (hc i v hi)⟩
theorem Rd.take {w : World} {A : Option Addr} {l : List Int} (h : Rd w A l) (k : Nat) : Rd w A (l.take k) := by
  intro h0
  obtain ⟨b, off, rfl, hlt, hc⟩ := h (by simp at h0; omega)
  refine ⟨b, off, rfl, hlt, fun i v hi => hc i v ?_⟩
  rw [List.getElem?_take] at hi
  split at hi
  · exact hi
  · cases hi
theorem Rd.drop {w : World} {A : Option Addr} {l : List Int} (h : Rd w A l) (k : Nat) : Rd w (Option.map (fun x => x.add k) A) (l.drop k) := by
  intro h0
  obtain ⟨b, off, rfl, hlt, hc⟩ := h (by simp at h0; omega)
  refine ⟨b, off + k, by simp [Addr.add_lit], hlt, fun i v hi => ?_⟩
  rw [List.getElem?_drop] at hi
  rw [Nat.add_assoc]; exact hc _ _ hi
theorem Rd.none {w : World} {A : Option Addr} : Rd w A [] := fun h => absurd h (by simp)
/-- What a ring may be written with. -/
theorem Rd.src {w : World} {no : List Nat} {A : Option Addr} {l : List Int} (h : Rd w A l) (hno : ∀ a, A = some a → 0 < l.length → a.block ∉ no) : Src w no A l := by
  intro h0
  obtain ⟨b, off, rfl, hlt, hc⟩ := h h0
  exact ⟨b, off, rfl, hlt, hno _ rfl h0, hc⟩
theorem Ints.rd {w : World} {A : Option Addr} {len : Nat} {zs : List Int} (h : Ints .u8 w A len zs) : Rd w A zs := by
  obtain ⟨h1, h2, h3, h4⟩ := h
  intro h0
  obtain ⟨b, off, rfl, hlt, hc⟩ := h4 (by omega)
  refine ⟨b, off, rfl, hlt, fun i v hi => ?_⟩
  have hi' : i < zs.length := (List.getElem?_eq_some_iff.1 hi).1
  rw [hc i (by omega), List.getD_eq_getElem?_getD, hi]; rfl

theorem take_two (l : List Int) (a b : Nat) : l.take a ++ (l.drop a).take b = l.take (a + b) := by rw [List.take_add]

set_option maxRecDepth 100000 in
set_option maxHeartbeats 1600000 in
theorem ringParts_walk (size : Int) (A : Option Addr) (len cap : Nat) (zs : List Int) (cut n k : Int) (w : World) (hb : Ints .u8 w A len zs) (hlc : len ≤ cap) (hcm : cap ≤ maxLen)
    (hcut : 0 ≤ cut ∧ cut ≤ 65535) (hn : 0 ≤ n ∧ n ≤ 65535) (hk : 0 ≤ k ∧ k ≤ 65535) :
    Calls Try.prog 10 #[.agg #[.int .i64 size, .slice A len cap, .int .u16 cut, .int .u16 n, .int .u16 k]] w fun e w' => e = .returned (.bool true) ∧ Below w.heap.size w w' := by
  obtain ⟨hz, hlm, _, _⟩ := id hb
  have hR := hb.rd
  have hA : ∀ a, A = some a → 0 < len → a.block < w.heap.size := by
    obtain ⟨_, _, _, h4⟩ := id hb
    intro a ha h0
    obtain ⟨b, off, e, hlt, _⟩ := h4 h0
    rw [ha] at e; injection e with e; rw [e]; exact hlt
  subst hz
  clear hb
  unfold maxLen at hlm hcm
  have start : Calls Try.prog 32 #[] (w.alloc (.cells #[.int .i64 size, .slice A zs.length cap, .int .u16 cut, .int .u16 n, .int .u16 k] 67)) fun e w1 => e = .returned (.bool true) ∧ Only [] w w1 ∧ Blk w1 w.heap.size 67 [.int .i64 size, .slice A zs.length cap, .int .u16 cut, .int .u16 n, .int .u16 k] := by
    refine (alive05 _).mono fun e w1 ⟨he, b1⟩ => ⟨he, ((Only.refl [] w).alloc _).trans (only_of_below b1) (by simp), ?_⟩
    exact (Blk.new w 67 [.int .i64 size, .slice A zs.length cap, .int .u16 cut, .int .u16 n, .int .u16 k]).below b1 (by simp)
  by_cases hbig : 100000 < zs.length
  · go_enter Try.func10, Try.ntmps10
    go_wp2_with fail
    go_call start as e w1 ⟨rfl, O1, K1⟩
    clear start
    have c0 := K1.cell 0
    have c1 := K1.cell 1
    have c2 := K1.cell 2
    have c3 := K1.cell 3
    have c4 := K1.cell 4
    go_wp2_with fail
    go_quiet (fail)
    go_wp2_with fail
    go_ret
    exact ⟨rfl, (O1.drewN _).below (Nat.le_refl _) (by simp)⟩
  by_cases hsz : 1 ≤ size ∧ size ≤ 65536
  · obtain ⟨sz, rfl⟩ := Int.eq_ofNat_of_zero_le (show 0 ≤ size by omega)
    have z1 : 1 ≤ sz := by omega
    have z2 : sz ≤ 65536 := by omega
    clear hsz
    obtain ⟨at_, hat⟩ : ∃ at_ : Nat, (at_ : Int) = cut % ((zs.length : Int) + 1) := ⟨(cut % ((zs.length : Int) + 1)).toNat, by have := Int.emod_nonneg cut (b := (zs.length : Int) + 1) (by omega); omega⟩
    have hal : at_ ≤ zs.length := by have := Int.emod_lt_of_pos cut (show (0 : Int) < (zs.length : Int) + 1 by omega); omega
    have hc1 : 0 ≤ cut % ((zs.length : Int) + 1) := by omega
    have hc2 : cut % ((zs.length : Int) + 1) ≤ (cap : Int) := by omega
    have HAT := hide hat
    clear hat
    go_enter Try.func10, Try.ntmps10
    go_wp2_with fail
    go_call start as e w1 ⟨rfl, O1, K1⟩
    clear start
    have c0 := K1.cell 0
    have c1 := K1.cell 1
    have c2 := K1.cell 2
    have c3 := K1.cell 3
    have c4 := K1.cell 4
    go_wp2_with fail
    go_quiet (fail)
    have O1 := O1.drewN nq
    generalize World.drewN _ _ = w1' at O1 ⊢
    clear c0 c1 c2 c3 c4 K1
    go_wp2_with fail
    go_call (new_ok sz w1' z1 z2) as e w2 ⟨rfl, R2, P2⟩
    have O2 := O1.trans P2 (by simp)
    have y2 := O2.size
    have i1 := P2.size
    go_wp2_with fail
    go_call (new_ok sz w2 z1 z2) as e w3 ⟨rfl, S3, P3⟩
    have i2 := P3.size
    have j2 := R2.ltg
    have R3 := R2.only P3 (by simp) (by simp)
    have O3 := O2.trans P3 (by simp)
    have HR := hR.only O3
    have s3 := S3.ltg
    clear R2 P2 P3 O2
    obtain ⟨x, hx⟩ : ∃ x, x = min zs.length sz := ⟨_, rfl⟩
    have xl : x ≤ zs.length := by omega
    have xs : x ≤ sz := by omega
    obtain ⟨y, hy⟩ : ∃ y, y = min at_ sz := ⟨_, rfl⟩
    obtain ⟨z, hz⟩ : ∃ z, z = min (zs.length - at_) (sz - y) := ⟨_, rfl⟩
    have hxyz : x = y + z := by omega
    have hlate : z = 0 ∨ y = at_ := by omega
    have yl : y ≤ at_ := by omega
    have zl : z ≤ zs.length - at_ := by omega
    obtain ⟨g1, hg1⟩ : ∃ g, g = w1'.heap.size := ⟨_, rfl⟩
    obtain ⟨g2, hg2⟩ : ∃ g, g = w2.heap.size := ⟨_, rfl⟩
    rw [← hg1] at R3 i1 j2 ⊢
    rw [← hg2] at S3 i2 s3 ⊢
    have q0 : w.heap.size ≤ g1 := by rw [hg1]; exact O1.size
    have q1 : g1 + 1 < g2 := by omega
    have W4 : Calls Try.prog 34 #[.pointer (some ⟨g1 + 1, 0, none⟩), .slice A zs.length cap] w3 fun e w' => e = .returned (.int .i64 x) ∧ RingC w' (g1 + 1) g1 sz (zs.take x) ∧ Only [g1 + 1, g1] w3 w' := by
      have := write_c A zs cap R3 (HR.src (by intro a ha h0; have := hA a ha h0; simp; omega)) hlc (by unfold maxLen; omega)
      have hf : fitN sz ([] : List Int).length zs.length = x := by rw [hx]; simp [fitN]
      refine this.mono fun e w' ⟨h1, h2, h3⟩ => ?_
      rw [hf] at h1 h2
      exact ⟨h1, h2, h3⟩
    have Hx := hide hx
    have Hy := hide hy
    have Hz := hide hz
    have Hxyz := hide hxyz
    have Hlate := hide hlate
    have Hg1 := hide hg1
    have Hg2 := hide hg2
    clear hx hy hz hxyz hlate hg1 hg2 HR
    go_wp2_with fail
    go_call W4 as e w4 ⟨rfl, R4, P4⟩
    clear W4
    go_wp2_with fail
    rw [← HAT.out]
    simp only [Int.toNat_natCast]
    have S4 := S3.only P4 (by simp; omega) (by simp; omega)
    have j4 := P4.size
    have O4 := O3.trans P4 (by simp; omega)
    have HR := hR.only O4
    clear S3 R3 P4 O3
    have W5 : Calls Try.prog 34 #[.pointer (some ⟨g2 + 1, 0, none⟩), .slice A at_ cap] w4 fun e w' => e = .returned (.int .i64 y) ∧ RingC w' (g2 + 1) g2 sz (zs.take y) ∧ Only [g2 + 1, g2] w4 w' := by
      have := write_c A (zs.take at_) cap S4 ((HR.take at_).src (by intro a ha h0; have := hA a ha (by simp at h0; omega); simp; omega)) (by simp; omega) (by unfold maxLen; simp; omega)
      have hl : (zs.take at_).length = at_ := by simp; omega
      rw [hl] at this
      have hf : fitN sz ([] : List Int).length at_ = y := by rw [Hy.out]; simp [fitN]
      refine this.mono fun e w' ⟨h1, h2, h3⟩ => ?_
      rw [hl, hf] at h1 h2
      rw [List.nil_append, List.take_take, Nat.min_eq_left yl] at h2
      exact ⟨h1, h2, h3⟩
    go_call W5 as e w5 ⟨rfl, S5, P5⟩
    clear W5
    have R5 := R4.only P5 (by simp; omega) (by simp; omega)
    have j5 := P5.size
    have O5 := O4.trans P5 (by simp; omega)
    have HR := hR.only O5
    clear S4 R4 P5 O4
    have W6 : ∀ A' c', Rd w5 A' (zs.drop at_) → (∀ a, A' = some a → 0 < zs.length - at_ → a.block < w.heap.size) → zs.length - at_ ≤ c' → Calls Try.prog 34 #[.pointer (some ⟨g2 + 1, 0, none⟩), .slice A' (zs.length - at_) c'] w5 fun e w' => e = .returned (.int .i64 z) ∧ RingC w' (g2 + 1) g2 sz (zs.take x) ∧ Only [g2 + 1, g2] w5 w' := by
      intro A' c' hr' hb' hc'
      have hl : (zs.drop at_).length = zs.length - at_ := by simp
      have := write_c A' (zs.drop at_) c' S5 (hr'.src (by intro a ha h0; have := hb' a ha (by omega); simp; omega)) (by omega) (by unfold maxLen; simp; omega)
      rw [hl] at this
      have hf : fitN sz (zs.take y).length (zs.length - at_) = z := by rw [Hz.out]; have : (zs.take y).length = y := by simp; omega
                                                                       rw [this]; rfl
      refine this.mono fun e w' ⟨h1, h2, h3⟩ => ?_
      rw [hl, hf] at h1 h2
      refine ⟨h1, ?_, h3⟩
      have ex : zs.take x = zs.take y ++ (zs.drop at_).take z := by
        rw [Hxyz.out]
        rcases Hlate.out with h | h
        · rw [h]; simp
        · rw [← h]; exact (take_two zs y z).symm
      rw [ex]; exact h2
    have W6a := W6 A 0
    have W6b := W6 (Option.map (fun x => x.add at_) A) (cap - at_)
    have W6a := fun h : cap = at_ => W6a (by rw [List.drop_of_length_le (by omega)]; exact Rd.none) (fun a ha h0 => hA a ha (Nat.lt_of_lt_of_le h0 (Nat.sub_le _ _))) (by subst h; omega)
    have W6b := W6b (HR.drop at_) (fun a ha h0 => by
      cases A with
      | none => cases ha
      | some b =>
        injection ha with ha
        have := hA b rfl (Nat.lt_of_lt_of_le h0 (Nat.sub_le _ _))
        rw [← ha]; unfold Addr.add; split <;> exact this) (by omega)
    clear W6
    have W6a := hide W6a
    have W6b := hide W6b
    have k5 : Only [] w w5 ∧ RingC w5 (g1 + 1) g1 sz (zs.take x) := ⟨O5, R5⟩
    have rest1 : ∀ w6, Only [g2 + 1, g2] w5 w6 → Only [] w w6 ∧ RingC w6 (g1 + 1) g1 sz (zs.take x) ∧ g2 + 1 < w6.heap.size := fun w6 P =>
      ⟨O5.trans P (by simp; omega), R5.only P (by simp; omega) (by simp; omega), by have := P.size; omega⟩
    have rest1 := hide rest1
    clear k5 R5 S5 O5 HR
    have hn0 : some_ x n = min x n.toNat := by unfold some_; omega
    obtain ⟨a, ha⟩ : ∃ a, a = some_ x n := ⟨_, rfl⟩
    obtain ⟨b, hb⟩ : ∃ b, b = some_ (x - a) k := ⟨_, rfl⟩
    have hab : some_ x (n + k) = a + b := by rw [hb, ha]; unfold some_; omega
    have al : a ≤ x := by rw [ha]; exact some_le _ _
    have bl : b ≤ x - a := by rw [hb]; exact some_le _ _
    have lx : (zs.take x).length = x := by simp; omega
    have Ha := hide ha
    have Hb := hide hb
    have Hab := hide hab
    have Lx := hide lx
    clear ha hb hab lx hn0
    obtain ⟨c, hc⟩ : ∃ c, c = zs.take x := ⟨_, rfl⟩
    obtain ⟨l1, hl1⟩ : ∃ l, l = c.take a := ⟨_, rfl⟩
    obtain ⟨l2, hl2⟩ : ∃ l, l = (c.drop a).take b := ⟨_, rfl⟩
    obtain ⟨l3, hl3⟩ : ∃ l, l = c.take (a + b) := ⟨_, rfl⟩
    have fin : l1 ++ l2 = l3 := by rw [hl1, hl2, hl3]; exact take_two _ _ _
    have n1 : l1.length ≤ 65536 := by rw [hl1, hc]; simp; omega
    have n2 : l2.length ≤ 65536 := by rw [hl2, hc]; simp; omega
    have n3 : l3.length ≤ 65536 := by rw [hl3, hc]; simp; omega
    have hc' := hide hc
    have Hl1 := hide hl1
    have Hl2 := hide hl2
    have Hl3 := hide hl3
    have Fin := hide fin
    have hxz : ((x : Int) == (y : Int) + (z : Int)) = true := by have := Hxyz.out; simp; omega
    have Hxz := hide hxz
    clear hxz
    rw [← hc] at Lx W6a W6b rest1
    clear fin hc hl1 hl2 hl3
    go_wp2_with fail
    all_goals first | (have hq : cap = at_ := by assumption
                       go_call (W6a.out hq) as e w6 ⟨rfl, S6, P6⟩) | (go_call W6b.out as e w6 ⟨rfl, S6, P6⟩)
    all_goals
      obtain ⟨O6, R6, j6⟩ := rest1.out w6 P6
      clear P6
      go_wp2_with fail
      have V0 : OwnB (w6.alloc (.cells #[] 5)) w6.heap.size (.slice (some ⟨w6.heap.size, 0, none⟩) 0 0) [] := ownB_lit w6 _ [] (Nat.le_refl _) (by decide)
      have S7 := S6.only ((Only.refl [] w6).alloc (.cells #[] 5)) (by simp) (by simp)
      have R7 := R6.only ((Only.refl [] w6).alloc (.cells #[] 5)) (by simp) (by simp)
      have O7 := O6.alloc (.cells #[] 5)
      generalize hw7 : w6.alloc (.cells #[] 5) = w7 at V0 S7 R7 O7 ⊢
      have i7 : w6.heap.size + 1 = w7.heap.size := by rw [← hw7]; simp
      obtain ⟨B0, hB0⟩ : ∃ B, B = w6.heap.size := ⟨_, rfl⟩
      rw [← hB0] at V0 i7 j6
      clear hw7 S6 R6 O6
      have X8 : Calls Try.prog 35 #[.pointer (some ⟨g1 + 1, 0, none⟩), .int .i64 n] w7 fun e w' => ∃ v, e = .returned v ∧ OwnB w' w7.heap.size v l1 ∧ RingC w' (g1 + 1) g1 sz (c.drop a) ∧ Only [g1 + 1] w7 w' := by
        have := read_c n R7
        rw [Lx.out, ← Ha.out] at this
        exact this.mono fun e w' ⟨v, h1, h2, h3, h4⟩ => ⟨v, h1, by rw [Hl1.out] at n1 ⊢; exact h2.own (by unfold maxLen; omega), h3, h4⟩
      rw [hB0] at V0 i7 j6
      clear hB0 B0
      go_call X8 as e w8 ⟨v8, rfl, V8, R8, P8⟩
      clear X8
      have V0 := V0.only P8 (by simp; omega)
      have S8 := S7.only P8 (by simp; omega) (by simp; omega)
      have O8 := O7.trans P8 (by simp; omega)
      have j8 := P8.size
      clear S7 R7 O7 P8
      obtain ⟨A8, c8, rfl, G8, k8, m8, _⟩ := V8.rd
      go_wp2_with (at_builtin; refine wpList_app rfl (.tmp 71) (.tmp 75) rfl _ _ [] rfl V0 A8 c8 l1 rfl G8 (by simp; omega) (by omega) ?_; intro v9 w9 V9 P9 _)
      have V9 := V9.out
      rw [List.nil_append] at V9
      have P9 : Only [w6.heap.size] w8 w9 := P9
      have R9 := R8.only P9 (by simp; omega) (by simp; omega)
      have S9 := S8.only P9 (by simp; omega) (by simp; omega)
      have O9 := O8.trans P9 (by simp; have := O8.size; omega)
      have j9 := P9.size
      clear R8 S8 O8 P9 V8 G8 V0
      have X10 : Calls Try.prog 35 #[.pointer (some ⟨g1 + 1, 0, none⟩), .int .i64 k] w9 fun e w' => ∃ v, e = .returned v ∧ OwnB w' w9.heap.size v l2 ∧ RingC w' (g1 + 1) g1 sz ((c.drop a).drop b) ∧ Only [g1 + 1] w9 w' := by
        have := read_c k R9
        have lx : (c.drop a).length = x - a := by rw [List.length_drop, Lx.out]
        rw [lx, ← Hb.out] at this
        exact this.mono fun e w' ⟨v, h1, h2, h3, h4⟩ => ⟨v, h1, by rw [Hl2.out] at n2 ⊢; exact h2.own (by unfold maxLen; omega), h3, h4⟩
      go_call X10 as e w10 ⟨v10, rfl, V10, R10, P10⟩
      clear X10
      have V9 := V9.only P10 (by simp; omega)
      have S10 := S9.only P10 (by simp; omega) (by simp; omega)
      have O10 := O9.trans P10 (by simp; omega)
      have j10 := P10.size
      clear R9 S9 O9 P10
      obtain ⟨A10, c10, rfl, G10, k10, m10, _⟩ := V10.rd
      go_wp2_with (at_builtin; refine wpList_app rfl (.tmp 76) (.tmp 80) rfl _ v9 l1 rfl V9 A10 c10 l2 rfl G10 (by omega) (by omega) ?_; intro v11 w11 V11 P11 _)
      have V11 := V11.out
      have NI : ∀ x, x < w6.heap.size → x ∉ v9.ownBlock.toList := fun x hx hm => by
        have := V9.block x (by simpa using hm)
        omega
      have R11 := R10.only P11 (NI _ (by omega)) (NI _ (by omega))
      have S11 := S10.only P11 (NI _ (by omega)) (NI _ (by omega))
      have O11 := O10.trans P11 (fun x hx => by have := V9.block x (by simpa using hx); have := O10.size; omega)
      have j11 := P11.size
      clear R10 S10 O10 P11 V9 V10 G10 NI
      rw [Fin.out] at V11
      have X12 : Calls Try.prog 35 #[.pointer (some ⟨g2 + 1, 0, none⟩), .int .i64 (n + k)] w11 fun e w' => ∃ v, e = .returned v ∧ OwnB w' w11.heap.size v l3 ∧ RingC w' (g2 + 1) g2 sz (c.drop (a + b)) ∧ Only [g2 + 1] w11 w' := by
        have := read_c (n + k) S11
        rw [Lx.out, Hab.out] at this
        exact this.mono fun e w' ⟨v, h1, h2, h3, h4⟩ => ⟨v, h1, by rw [Hl3.out] at n3 ⊢; exact h2.own (by unfold maxLen; omega), h3, h4⟩
      go_call X12 as e w12 ⟨v12, rfl, V12, S12, P12⟩
      clear X12
      have V11 := V11.only P12 (by simp; omega)
      have R12 := R11.only P12 (by simp; omega) (by simp; omega)
      have O12 := O11.trans P12 (by simp; omega)
      have j12 := P12.size
      clear R11 S11 O11 P12
      obtain ⟨A11, c11, rfl, G11, k11, m11, _⟩ := V11.rd
      obtain ⟨A12, c12, rfl, G12, k12, m12, _⟩ := V12.rd
      have hxz := Hxz.out
      go_wp2_with fail
      have he : eqB l3 l3 = true := decide_eq_true rfl
      have X13 : Calls Try.prog 36 #[.slice A11 l3.length c11, .slice A12 l3.length c12] w12 fun e w' => e = .returned (.bool true) ∧ Only [] w12 w' := by
        have := bytes_any w12 A11 A12 l3 l3 c11 c12 G11 G12 (by unfold maxLen; omega) (by unfold maxLen; omega)
        rw [he] at this; exact this
      go_call X13 as e w13 ⟨rfl, P13⟩
      have R13 := R12.only P13 (by simp) (by simp)
      have S13 := S12.only P13 (by simp) (by simp)
      have O13 := O12.trans P13 (by simp)
      clear X13 P13 R12 S12 O12 V11 V12 G11 G12
      have L1 : Calls Try.prog 37 #[.pointer (some ⟨g1 + 1, 0, none⟩)] w13 fun e w' => e = .returned (.int .i64 ((x - a - b : Nat) : Int)) ∧ w13 = w' := by
        have := len_c R13
        have e : ((c.drop a).drop b).length = x - a - b := by rw [List.length_drop, List.length_drop, Lx.out]
        rw [e] at this; exact this
      have L2 : Calls Try.prog 37 #[.pointer (some ⟨g2 + 1, 0, none⟩)] w13 fun e w' => e = .returned (.int .i64 ((x - a - b : Nat) : Int)) ∧ w13 = w' := by
        have := len_c S13
        have e : (c.drop (a + b)).length = x - a - b := by rw [List.length_drop, Lx.out]; omega
        rw [e] at this; exact this
      go_wp2_with fail
      go_call L1 as e w' ⟨rfl, rfl⟩
      go_wp2_with fail
      go_call L2 as e w' ⟨rfl, rfl⟩
      clear L1 L2
      go_wp2_with fail
      go_ret
      exact ⟨rfl, O13.below (Nat.le_refl _) (by simp)⟩
  · have hsz' : size < 1 ∨ 65536 < size := by omega
    go_enter Try.func10, Try.ntmps10
    go_wp2_with fail
    go_call start as e w1 ⟨rfl, O1, K1⟩
    clear start
    have c0 := K1.cell 0
    have c1 := K1.cell 1
    have c2 := K1.cell 2
    have c3 := K1.cell 3
    have c4 := K1.cell 4
    go_wp2_with fail
    go_quiet (fail)
    have O1 := O1.drewN nq
    go_wp2_with fail
    go_call (new_bad size _ hsz') as e w' ⟨rfl, rfl⟩
    go_wp2_with fail
    go_call (new_bad size _ hsz') as e w' ⟨rfl, rfl⟩
    go_wp2_with fail
    go_ret
    exact ⟨rfl, O1.below (Nat.le_refl _) (by simp)⟩
end Go.Proofs.Ytamnnggijmmogaa

/- The walk of the law RingTwo: it is true; for every size, steps and turns, no condition. -/
import Derived.Test.YtamnnggijmmogaaRingK
namespace Go.Proofs.Ytamnnggijmmogaa
set_option linter.all false
open Go.RowKit

theorem rdoB_le (c : List Int) (kind n : Int) : (rdoB c kind n).length ≤ c.length := by
  unfold rdoB; split
  · simp; omega
  · simp
theorem rdoN_le (size : Nat) (c : List Int) (kind n : Int) (b : List Int) : rdoN size c kind n b ≤ size + c.length := by
  have := some_le c.length n
  unfold rdoN; (repeat' split) <;> (try unfold fitN) <;> omega
/-- Turns that came in. -/
def Bools (w : World) (T : Option Addr) (ts : List Bool) : Prop := 0 < ts.length → ∃ b off, T = some ⟨b, off, none⟩ ∧ b < w.heap.size ∧ ∀ i v, ts[i]? = some v → w.cell? ⟨b, off + i, none⟩ = some (.bool v)
theorem Bools.only {w w' : World} {T : Option Addr} {ts : List Bool} (h : Bools w T ts) (hb : Only [] w w') : Bools w' T ts := by
  intro h0
  obtain ⟨b, off, rfl, hlt, hc⟩ := h h0
  exact ⟨b, off, rfl, Nat.lt_of_lt_of_le hlt hb.size, fun i v hi => (World.cell?_of_block (w := w) (hb.block b hlt (by simp))).trans (hc i v hi)⟩

set_option maxRecDepth 100000 in
set_option maxHeartbeats 6400000 in
theorem ringTwo_walk (size : Int) (P : Option Addr) (os : List StepD) (cap : Nat) (T : Option Addr) (ts : List Bool) (tc : Nat) (w : World) (h : Steps5 w P os) (hcap : os.length ≤ cap) (hm : cap ≤ maxLen) (hr : os.length * 40 ≤ 140737488351232)
    (hT : Bools w T ts) (htc : ts.length ≤ tc) (htm : tc ≤ maxLen) :
    Calls Try.prog 13 #[.int .i64 size, .slice P os.length cap, .slice T ts.length tc] w fun e w' => e = .returned (.bool true) ∧ Below w.heap.size w w' := by
  unfold maxLen at htm
  have start : Calls Try.prog 32 #[] w fun e w1 => e = .returned (.bool true) ∧ Only [] w w1 := (alive05 _).mono fun e w1 ⟨he, b1⟩ => ⟨he, only_of_below b1⟩
  have great : ∀ w1, Only [] w w1 → Calls Try.prog 38 #[.slice P os.length cap] w1 fun e w' => e = .returned (.bool (great5 os)) ∧ Only [] w1 w' := fun w1 O => great5_any w1 P os cap (h.only O) hcap hm hr
  obtain ⟨n, hn⟩ : ∃ n, n = os.length := ⟨_, rfl⟩
  obtain ⟨m, hmt⟩ : ∃ m, m = ts.length := ⟨_, rfl⟩
  rw [← hn] at great hcap hr ⊢
  rw [← hmt] at htc ⊢
  unfold maxLen at hm
  have HN := hide hn
  have HM := hide hmt
  have HS := hide h
  have HT := hide hT
  have great := hide great
  clear h hT hn hmt
  go_enter Try.func13, Try.ntmps13
  go_wp2_with fail
  go_call start as e w1 ⟨rfl, O1⟩
  clear start
  go_wp2_with fail
  go_call (great.out w1 O1) as e w2 ⟨rfl, P2⟩
  have O2 := O1.trans P2 (by simp)
  clear great O1 P2
  by_cases hbig : great5 os = true
  · go_wp2_with fail
    go_ret
    exact ⟨rfl, O2.below (Nat.le_refl _) (by simp)⟩
  have hbig : great5 os = false := by simpa using hbig
  by_cases hsz : 1 ≤ size ∧ size ≤ 65536
  · obtain ⟨sz, rfl⟩ := Int.eq_ofNat_of_zero_le (show 0 ≤ size by omega)
    have z1 : 1 ≤ sz := by omega
    have z2 : sz ≤ 65536 := by omega
    clear hsz
    go_wp2_with fail
    go_call (new_ok sz w2 z1 z2) as e w3 ⟨rfl, R1, P3⟩
    have O3 := O2.trans P3 (by simp)
    have j3 := R1.ltg
    have i3 := O2.size
    obtain ⟨g1, hg1⟩ : ∃ g, g = w2.heap.size := ⟨_, rfl⟩
    rw [← hg1] at R1 j3 i3 ⊢
    have Hg1 := hide hg1
    clear hg1 P3 O2
    go_wp2_with fail
    go_call (new_ok sz w3 z1 z2) as e w4 ⟨rfl, R2, P4⟩
    have O4 := O3.trans P4 (by simp)
    have j4 := R2.ltg
    obtain ⟨g2, hg2⟩ : ∃ g, g = w3.heap.size := ⟨_, rfl⟩
    rw [← hg2] at R2 j3 j4 ⊢
    have R1 := R1.only P4 (by simp) (by simp)
    have Hg2 := hide hg2
    clear hg2 P4 O3
    go_wp2_with fail
    go_call (new_ok sz w4 z1 z2) as e w5 ⟨rfl, R3, P5⟩
    have O5 := O4.trans P5 (by simp)
    have j5 := R3.ltg
    obtain ⟨g3, hg3⟩ : ∃ g, g = w4.heap.size := ⟨_, rfl⟩
    rw [← hg3] at R3 j4 j5 ⊢
    have R1 := R1.only P5 (by simp) (by simp)
    have R2 := R2.only P5 (by simp) (by simp)
    have Hg3 := hide hg3
    clear hg3 P5 O4
    go_wp2_with fail
    go_call (new_ok sz w5 z1 z2) as e w6 ⟨rfl, R4, P6⟩
    have O6 := O5.trans P6 (by simp)
    have j6 := R4.ltg
    obtain ⟨g4, hg4⟩ : ∃ g, g = w5.heap.size := ⟨_, rfl⟩
    rw [← hg4] at R4 j5 j6 ⊢
    have R1 := R1.only P6 (by simp) (by simp)
    have R2 := R2.only P6 (by simp) (by simp)
    have R3 := R3.only P6 (by simp) (by simp)
    have Hg4 := hide hg4
    clear hg4 P6 O5
    go_wp2_with fail
    go_loopw [64] (fun i wr => ∃ (k : Nat) (c1 c2 : List Int), k ≤ n ∧ i = .int .i64 k ∧ RingC wr (g1 + 1) g1 sz c1 ∧ RingC wr (g3 + 1) g3 sz c1 ∧ RingC wr (g2 + 1) g2 sz c2 ∧ RingC wr (g4 + 1) g4 sz c2 ∧ Only [] w wr ∧ g4 + 1 < wr.heap.size) (fun i _ => n - (intOf i).toNat)
    case atStart => exact ⟨0, [], [], by omega, rfl, R1, R3, R2, R4, O6, j6⟩
    case round =>
      clear R1 R2 R3 R4 O6 j6
      obtain ⟨k, c1, c2, hk, rfl, R1, R3, R2, R4, O, j6⟩ := hrel
      by_cases hlt : k < n
      · have hn := HN.out
        obtain ⟨o, ho⟩ : ∃ o, os[k]? = some o := ⟨_, List.getElem?_eq_getElem (by omega)⟩
        obtain ⟨q, off, rfl, hq, hc⟩ := HS.out (by omega)
        obtain ⟨c0', c1', c2', ok⟩ := hc k o ho
        have hql : q < wr.heap.size := Nat.lt_of_lt_of_le hq O.size
        have hkk := O.block q hq (by simp)
        have e0 : wr.cell? ⟨q, off + k * 3, none⟩ = some (.int .i64 o.kind) := (World.cell?_of_block (w := w) hkk).trans c0'
        have e1 : wr.cell? ⟨q, off + k * 3 + 1, none⟩ = some (.int .i64 o.n) := (World.cell?_of_block (w := w) hkk).trans c1'
        have e2 : wr.cell? ⟨q, off + k * 3 + 2, none⟩ = some (.slice o.A o.b.length o.cap) := (World.cell?_of_block (w := w) hkk).trans c2'
        obtain ⟨ok0, ok1, ok2, _⟩ := ok
        have okl : ∀ a, o.A = some a → 0 < o.b.length → a.block < w.heap.size := by
          intro a ha h0
          obtain ⟨b, f, e, hl, _⟩ := ok0 h0
          rw [ha] at e; injection e with e; rw [e]; exact hl
        clear hc hkk c0' c1' c2' hn
        have okl := hide okl
        by_cases hturn : k < m ∧ ts[k]? = some true
        · obtain ⟨ht1, ht2⟩ := hturn
          obtain ⟨tb, tof, rfl, htb, htc'⟩ := HT.out (by have := HM.out; omega)
          have tcell : wr.cell? ⟨tb, tof + k, none⟩ = some (.bool true) := (World.cell?_of_block (w := w) (O.block tb htb (by simp))).trans (htc' k true ht2)
          have htl : tb < wr.heap.size := Nat.lt_of_lt_of_le htb O.size
          have ht1' : (k : Int) < (m : Int) := by omega
          clear htc' ht2
          go_wp2_with fail
          have Oq : Only [] wr (wr.alloc (.cells #[.int .i64 o.kind, .int .i64 o.n, .slice o.A o.b.length o.cap] 82)) := (Only.refl _ _).alloc _
          have O := O.alloc (.cells #[.int .i64 o.kind, .int .i64 o.n, .slice o.A o.b.length o.cap] 82)
          have ca := Blk.new wr 82 [.int .i64 o.kind, .int .i64 o.n, .slice o.A o.b.length o.cap]
          have R1 := R1.only Oq (by simp) (by simp)
          have R2 := R2.only Oq (by simp) (by simp)
          have R3 := R3.only Oq (by simp) (by simp)
          have R4 := R4.only Oq (by simp) (by simp)
          have zo : wr.heap.size < (wr.alloc (.cells #[.int .i64 o.kind, .int .i64 o.n, .slice o.A o.b.length o.cap] 82)).heap.size := by simp
          obtain ⟨wa, hwa⟩ : ∃ wa, wa = wr.alloc (.cells #[.int .i64 o.kind, .int .i64 o.n, .slice o.A o.b.length o.cap] 82) := ⟨_, rfl⟩
          have ca : Blk wa wr.heap.size 82 [.int .i64 o.kind, .int .i64 o.n, .slice o.A o.b.length o.cap] := by rw [hwa]; exact ca
          rw [← hwa] at O R1 R2 R3 R4 zo ⊢
          clear hwa Oq
          have okr := ok0.only O
          have okl := okl.out
          have lec := R2.le
          have bigc := R2.big
          have D1 : Calls Try.prog 40 #[.pointer (some ⟨g2 + 1, 0, none⟩), .agg #[.int .i64 o.kind, .int .i64 o.n, .slice o.A o.b.length o.cap]] wa (DoPost wa (g2 + 1) g2 sz c2 o.kind o.n o.b) :=
            do_any (g2 + 1) g2 sz c2 o.kind o.n o.A o.b o.cap wa R2 (okr.src (by intro a ha h0; have := okl a ha h0; simp; omega)) ok1 (Nat.le_trans ok1 ok2)
          go_wp2_with fail
          go_call D1 as e wb ⟨v1, rfl, V1, Rb, P1⟩
          clear D1
          have R4 := R4.only P1 (by simp; omega) (by simp; omega)
          have R1 := R1.only P1 (by simp; omega) (by simp; omega)
          have R3 := R3.only P1 (by simp; omega) (by simp; omega)
          have O := O.trans P1 (by simp; omega)
          have zb := P1.size
          have okr := ok0.only O
          have ca := ca.only P1 (by simp; omega)
          have cb0 := ca.cell 0
          have cb1 := ca.cell 1
          have cb2 := ca.cell 2
          clear P1
          have b1 := rdoB_le c2 o.kind o.n
          obtain ⟨B1, hB1⟩ : ∃ B, B = rdoB c2 o.kind o.n := ⟨_, rfl⟩
          obtain ⟨N1, hN1⟩ : ∃ N, N = rdoN sz c2 o.kind o.n o.b := ⟨_, rfl⟩
          obtain ⟨C1, hC1⟩ : ∃ C, C = rdoC sz c2 o.kind o.n o.b := ⟨_, rfl⟩
          rw [← hN1]
          have n1 := rdoN_le sz c2 o.kind o.n o.b
          rw [← hB1] at V1 b1
          rw [← hC1] at Rb
          rw [← hN1] at n1
          obtain ⟨A1, k1, rfl, G1, q1, m1, aA1⟩ := V1.rd
          have D2 : Calls Try.prog 40 #[.pointer (some ⟨g4 + 1, 0, none⟩), .agg #[.int .i64 o.kind, .int .i64 o.n, .slice o.A o.b.length o.cap]] wb (fun e w' => ∃ v, e = .returned (.tuple #[v, .int .i64 N1]) ∧ OwnB w' wb.heap.size v B1 ∧ RingC w' (g4 + 1) g4 sz C1 ∧ Only [g4 + 1, g4] wb w') := by
            have := do_any (g4 + 1) g4 sz c2 o.kind o.n o.A o.b o.cap wb R4 (okr.src (by intro a ha h0; have := okl a ha h0; simp; omega)) ok1 (Nat.le_trans ok1 ok2)
            rw [hN1, hB1, hC1]
            exact this
          have HN1 := hide hN1
          have HB1 := hide hB1
          have HC1 := hide hC1
          clear hN1 hB1 hC1 V1
          go_wp2_with fail
          go_call D2 as e wc ⟨v2, rfl, V2, R4, P2⟩
          clear D2 cb0 cb1 cb2 ca
          have R2 := Rb.only P2 (by simp; omega) (by simp; omega)
          have R1 := R1.only P2 (by simp; omega) (by simp; omega)
          have R3 := R3.only P2 (by simp; omega) (by simp; omega)
          have O := O.trans P2 (by simp; omega)
          have zc := P2.size
          have G1 := G1.onlyL P2 (by intro a ha; have := aA1 a ha; simp; omega)
          clear P2 Rb okr
          obtain ⟨A2, k2, rfl, G2, q2, m2, _⟩ := V2.rd
          have X3 : Calls Try.prog 36 #[.slice A1 B1.length k1, .slice A2 B1.length k2] wc fun e w' => e = .returned (.bool true) ∧ Only [] wc w' := by
            have := bytes_any wc A1 A2 B1 B1 k1 k2 G1 G2 (by unfold maxLen; omega) (by unfold maxLen; omega)
            rw [show eqB B1 B1 = true from decide_eq_true rfl] at this
            exact this
          clear V2 G1 G2
          go_wp2_with fail
          go_call X3 as e wd ⟨rfl, P3⟩
          clear X3
          have Rq1 := R1.only P3 (by simp) (by simp)
          have Rq2 := R2.only P3 (by simp) (by simp)
          have Rq3 := R3.only P3 (by simp) (by simp)
          have Rq4 := R4.only P3 (by simp) (by simp)
          have O := O.trans P3 (by simp)
          have zd := P3.size
          have le1 := Rq1.le
          have le2 := Rq2.le
          have big := Rq1.big
          clear P3
          go_wp2_with fail
          go_call (len_c Rq1) as e w' ⟨rfl, rfl⟩
          go_wp2_with fail
          go_call (len_c Rq3) as e w' ⟨rfl, rfl⟩
          go_wp2_with fail
          go_call (len_c Rq2) as e w' ⟨rfl, rfl⟩
          go_wp2_with fail
          go_call (len_c Rq4) as e w' ⟨rfl, rfl⟩
          go_wp2_with fail
          go_roundw
          case rel => exact ⟨k + 1, _, _, by omega, by go_num, Rq1, Rq3, Rq2, Rq4, O, by omega⟩
          case measure => simp [intOf]; omega
        by_cases hkm : k < m
        · obtain ⟨tb, tof, rfl, htb, htc'⟩ := HT.out (by have := HM.out; omega)
          have tcell : wr.cell? ⟨tb, tof + k, none⟩ = some (.bool false) := (World.cell?_of_block (w := w) (O.block tb htb (by simp))).trans (htc' k false (by
            have hml := HM.out
            have : ts[k]? = some (ts[k]'(by omega)) := List.getElem?_eq_getElem (by omega)
            cases hv : ts[k]'(by omega) with
            | false => rw [hv] at this; exact this
            | true => rw [hv] at this; exact absurd ⟨hkm, this⟩ hturn))
          have htl : tb < wr.heap.size := Nat.lt_of_lt_of_le htb O.size
          have ht1' : (k : Int) < (m : Int) := by omega
          clear htc'
          go_wp2_with fail
          have Oq : Only [] wr (wr.alloc (.cells #[.int .i64 o.kind, .int .i64 o.n, .slice o.A o.b.length o.cap] 82)) := (Only.refl _ _).alloc _
          have O := O.alloc (.cells #[.int .i64 o.kind, .int .i64 o.n, .slice o.A o.b.length o.cap] 82)
          have ca := Blk.new wr 82 [.int .i64 o.kind, .int .i64 o.n, .slice o.A o.b.length o.cap]
          have R1 := R1.only Oq (by simp) (by simp)
          have R2 := R2.only Oq (by simp) (by simp)
          have R3 := R3.only Oq (by simp) (by simp)
          have R4 := R4.only Oq (by simp) (by simp)
          have zo : wr.heap.size < (wr.alloc (.cells #[.int .i64 o.kind, .int .i64 o.n, .slice o.A o.b.length o.cap] 82)).heap.size := by simp
          obtain ⟨wa, hwa⟩ : ∃ wa, wa = wr.alloc (.cells #[.int .i64 o.kind, .int .i64 o.n, .slice o.A o.b.length o.cap] 82) := ⟨_, rfl⟩
          have ca : Blk wa wr.heap.size 82 [.int .i64 o.kind, .int .i64 o.n, .slice o.A o.b.length o.cap] := by rw [hwa]; exact ca
          rw [← hwa] at O R1 R2 R3 R4 zo ⊢
          clear hwa Oq
          have okr := ok0.only O
          have okl := okl.out
          have lec := R1.le
          have bigc := R1.big
          have D1 : Calls Try.prog 40 #[.pointer (some ⟨g1 + 1, 0, none⟩), .agg #[.int .i64 o.kind, .int .i64 o.n, .slice o.A o.b.length o.cap]] wa (DoPost wa (g1 + 1) g1 sz c1 o.kind o.n o.b) :=
            do_any (g1 + 1) g1 sz c1 o.kind o.n o.A o.b o.cap wa R1 (okr.src (by intro a ha h0; have := okl a ha h0; simp; omega)) ok1 (Nat.le_trans ok1 ok2)
          go_wp2_with fail
          go_call D1 as e wb ⟨v1, rfl, V1, Rb, P1⟩
          clear D1
          have R3 := R3.only P1 (by simp; omega) (by simp; omega)
          have R2 := R2.only P1 (by simp; omega) (by simp; omega)
          have R4 := R4.only P1 (by simp; omega) (by simp; omega)
          have O := O.trans P1 (by simp; omega)
          have zb := P1.size
          have okr := ok0.only O
          have ca := ca.only P1 (by simp; omega)
          have cb0 := ca.cell 0
          have cb1 := ca.cell 1
          have cb2 := ca.cell 2
          clear P1
          have b1 := rdoB_le c1 o.kind o.n
          obtain ⟨B1, hB1⟩ : ∃ B, B = rdoB c1 o.kind o.n := ⟨_, rfl⟩
          obtain ⟨N1, hN1⟩ : ∃ N, N = rdoN sz c1 o.kind o.n o.b := ⟨_, rfl⟩
          obtain ⟨C1, hC1⟩ : ∃ C, C = rdoC sz c1 o.kind o.n o.b := ⟨_, rfl⟩
          rw [← hN1]
          have n1 := rdoN_le sz c1 o.kind o.n o.b
          rw [← hB1] at V1 b1
          rw [← hC1] at Rb
          rw [← hN1] at n1
          obtain ⟨A1, k1, rfl, G1, q1, m1, aA1⟩ := V1.rd
          have D2 : Calls Try.prog 40 #[.pointer (some ⟨g3 + 1, 0, none⟩), .agg #[.int .i64 o.kind, .int .i64 o.n, .slice o.A o.b.length o.cap]] wb (fun e w' => ∃ v, e = .returned (.tuple #[v, .int .i64 N1]) ∧ OwnB w' wb.heap.size v B1 ∧ RingC w' (g3 + 1) g3 sz C1 ∧ Only [g3 + 1, g3] wb w') := by
            have := do_any (g3 + 1) g3 sz c1 o.kind o.n o.A o.b o.cap wb R3 (okr.src (by intro a ha h0; have := okl a ha h0; simp; omega)) ok1 (Nat.le_trans ok1 ok2)
            rw [hN1, hB1, hC1]
            exact this
          have HN1 := hide hN1
          have HB1 := hide hB1
          have HC1 := hide hC1
          clear hN1 hB1 hC1 V1
          go_wp2_with fail
          go_call D2 as e wc ⟨v2, rfl, V2, R3, P2⟩
          clear D2 cb0 cb1 cb2 ca
          have R1 := Rb.only P2 (by simp; omega) (by simp; omega)
          have R2 := R2.only P2 (by simp; omega) (by simp; omega)
          have R4 := R4.only P2 (by simp; omega) (by simp; omega)
          have O := O.trans P2 (by simp; omega)
          have zc := P2.size
          have G1 := G1.onlyL P2 (by intro a ha; have := aA1 a ha; simp; omega)
          clear P2 Rb okr
          obtain ⟨A2, k2, rfl, G2, q2, m2, _⟩ := V2.rd
          have X3 : Calls Try.prog 36 #[.slice A1 B1.length k1, .slice A2 B1.length k2] wc fun e w' => e = .returned (.bool true) ∧ Only [] wc w' := by
            have := bytes_any wc A1 A2 B1 B1 k1 k2 G1 G2 (by unfold maxLen; omega) (by unfold maxLen; omega)
            rw [show eqB B1 B1 = true from decide_eq_true rfl] at this
            exact this
          clear V2 G1 G2
          go_wp2_with fail
          go_call X3 as e wd ⟨rfl, P3⟩
          clear X3
          have Rq1 := R1.only P3 (by simp) (by simp)
          have Rq2 := R2.only P3 (by simp) (by simp)
          have Rq3 := R3.only P3 (by simp) (by simp)
          have Rq4 := R4.only P3 (by simp) (by simp)
          have O := O.trans P3 (by simp)
          have zd := P3.size
          have le1 := Rq1.le
          have le2 := Rq2.le
          have big := Rq1.big
          clear P3
          go_wp2_with fail
          go_call (len_c Rq1) as e w' ⟨rfl, rfl⟩
          go_wp2_with fail
          go_call (len_c Rq3) as e w' ⟨rfl, rfl⟩
          go_wp2_with fail
          go_call (len_c Rq2) as e w' ⟨rfl, rfl⟩
          go_wp2_with fail
          go_call (len_c Rq4) as e w' ⟨rfl, rfl⟩
          go_wp2_with fail
          go_roundw
          case rel => exact ⟨k + 1, _, _, by omega, by go_num, Rq1, Rq3, Rq2, Rq4, O, by omega⟩
          case measure => simp [intOf]; omega
        · have ht1' : ¬ (k : Int) < (m : Int) := by omega
          go_wp2_with fail
          have Oq : Only [] wr (wr.alloc (.cells #[.int .i64 o.kind, .int .i64 o.n, .slice o.A o.b.length o.cap] 82)) := (Only.refl _ _).alloc _
          have O := O.alloc (.cells #[.int .i64 o.kind, .int .i64 o.n, .slice o.A o.b.length o.cap] 82)
          have ca := Blk.new wr 82 [.int .i64 o.kind, .int .i64 o.n, .slice o.A o.b.length o.cap]
          have R1 := R1.only Oq (by simp) (by simp)
          have R2 := R2.only Oq (by simp) (by simp)
          have R3 := R3.only Oq (by simp) (by simp)
          have R4 := R4.only Oq (by simp) (by simp)
          have zo : wr.heap.size < (wr.alloc (.cells #[.int .i64 o.kind, .int .i64 o.n, .slice o.A o.b.length o.cap] 82)).heap.size := by simp
          obtain ⟨wa, hwa⟩ : ∃ wa, wa = wr.alloc (.cells #[.int .i64 o.kind, .int .i64 o.n, .slice o.A o.b.length o.cap] 82) := ⟨_, rfl⟩
          have ca : Blk wa wr.heap.size 82 [.int .i64 o.kind, .int .i64 o.n, .slice o.A o.b.length o.cap] := by rw [hwa]; exact ca
          rw [← hwa] at O R1 R2 R3 R4 zo ⊢
          clear hwa Oq
          have okr := ok0.only O
          have okl := okl.out
          have lec := R1.le
          have bigc := R1.big
          have D1 : Calls Try.prog 40 #[.pointer (some ⟨g1 + 1, 0, none⟩), .agg #[.int .i64 o.kind, .int .i64 o.n, .slice o.A o.b.length o.cap]] wa (DoPost wa (g1 + 1) g1 sz c1 o.kind o.n o.b) :=
            do_any (g1 + 1) g1 sz c1 o.kind o.n o.A o.b o.cap wa R1 (okr.src (by intro a ha h0; have := okl a ha h0; simp; omega)) ok1 (Nat.le_trans ok1 ok2)
          go_wp2_with fail
          go_call D1 as e wb ⟨v1, rfl, V1, Rb, P1⟩
          clear D1
          have R3 := R3.only P1 (by simp; omega) (by simp; omega)
          have R2 := R2.only P1 (by simp; omega) (by simp; omega)
          have R4 := R4.only P1 (by simp; omega) (by simp; omega)
          have O := O.trans P1 (by simp; omega)
          have zb := P1.size
          have okr := ok0.only O
          have ca := ca.only P1 (by simp; omega)
          have cb0 := ca.cell 0
          have cb1 := ca.cell 1
          have cb2 := ca.cell 2
          clear P1
          have b1 := rdoB_le c1 o.kind o.n
          obtain ⟨B1, hB1⟩ : ∃ B, B = rdoB c1 o.kind o.n := ⟨_, rfl⟩
          obtain ⟨N1, hN1⟩ : ∃ N, N = rdoN sz c1 o.kind o.n o.b := ⟨_, rfl⟩
          obtain ⟨C1, hC1⟩ : ∃ C, C = rdoC sz c1 o.kind o.n o.b := ⟨_, rfl⟩
          rw [← hN1]
          have n1 := rdoN_le sz c1 o.kind o.n o.b
          rw [← hB1] at V1 b1
          rw [← hC1] at Rb
          rw [← hN1] at n1
          obtain ⟨A1, k1, rfl, G1, q1, m1, aA1⟩ := V1.rd
          have D2 : Calls Try.prog 40 #[.pointer (some ⟨g3 + 1, 0, none⟩), .agg #[.int .i64 o.kind, .int .i64 o.n, .slice o.A o.b.length o.cap]] wb (fun e w' => ∃ v, e = .returned (.tuple #[v, .int .i64 N1]) ∧ OwnB w' wb.heap.size v B1 ∧ RingC w' (g3 + 1) g3 sz C1 ∧ Only [g3 + 1, g3] wb w') := by
            have := do_any (g3 + 1) g3 sz c1 o.kind o.n o.A o.b o.cap wb R3 (okr.src (by intro a ha h0; have := okl a ha h0; simp; omega)) ok1 (Nat.le_trans ok1 ok2)
            rw [hN1, hB1, hC1]
            exact this
          have HN1 := hide hN1
          have HB1 := hide hB1
          have HC1 := hide hC1
          clear hN1 hB1 hC1 V1
          go_wp2_with fail
          go_call D2 as e wc ⟨v2, rfl, V2, R3, P2⟩
          clear D2 cb0 cb1 cb2 ca
          have R1 := Rb.only P2 (by simp; omega) (by simp; omega)
          have R2 := R2.only P2 (by simp; omega) (by simp; omega)
          have R4 := R4.only P2 (by simp; omega) (by simp; omega)
          have O := O.trans P2 (by simp; omega)
          have zc := P2.size
          have G1 := G1.onlyL P2 (by intro a ha; have := aA1 a ha; simp; omega)
          clear P2 Rb okr
          obtain ⟨A2, k2, rfl, G2, q2, m2, _⟩ := V2.rd
          have X3 : Calls Try.prog 36 #[.slice A1 B1.length k1, .slice A2 B1.length k2] wc fun e w' => e = .returned (.bool true) ∧ Only [] wc w' := by
            have := bytes_any wc A1 A2 B1 B1 k1 k2 G1 G2 (by unfold maxLen; omega) (by unfold maxLen; omega)
            rw [show eqB B1 B1 = true from decide_eq_true rfl] at this
            exact this
          clear V2 G1 G2
          go_wp2_with fail
          go_call X3 as e wd ⟨rfl, P3⟩
          clear X3
          have Rq1 := R1.only P3 (by simp) (by simp)
          have Rq2 := R2.only P3 (by simp) (by simp)
          have Rq3 := R3.only P3 (by simp) (by simp)
          have Rq4 := R4.only P3 (by simp) (by simp)
          have O := O.trans P3 (by simp)
          have zd := P3.size
          have le1 := Rq1.le
          have le2 := Rq2.le
          have big := Rq1.big
          clear P3
          go_wp2_with fail
          go_call (len_c Rq1) as e w' ⟨rfl, rfl⟩
          go_wp2_with fail
          go_call (len_c Rq3) as e w' ⟨rfl, rfl⟩
          go_wp2_with fail
          go_call (len_c Rq2) as e w' ⟨rfl, rfl⟩
          go_wp2_with fail
          go_call (len_c Rq4) as e w' ⟨rfl, rfl⟩
          go_wp2_with fail
          go_roundw
          case rel => exact ⟨k + 1, _, _, by omega, by go_num, Rq1, Rq3, Rq2, Rq4, O, by omega⟩
          case measure => simp [intOf]; omega
      · obtain rfl : k = n := by omega
        go_wp2_with fail
        go_ret
        exact ⟨rfl, O.below (Nat.le_refl _) (by simp)⟩
  · have hsz' : size < 1 ∨ 65536 < size := by omega
    go_wp2_with fail
    go_call (new_bad size _ hsz') as e w' ⟨rfl, rfl⟩
    go_wp2_with fail
    go_call (new_bad size _ hsz') as e w' ⟨rfl, rfl⟩
    go_wp2_with fail
    go_call (new_bad size _ hsz') as e w' ⟨rfl, rfl⟩
    go_wp2_with fail
    go_call (new_bad size _ hsz') as e w' ⟨rfl, rfl⟩
    go_wp2_with fail
    go_ret
    exact ⟨rfl, O2.below (Nat.le_refl _) (by simp)⟩
end Go.Proofs.Ytamnnggijmmogaa

/- The walk of the law RingPlays: it is true; for every size and all steps, no condition. -/
import Derived.Test.YtamnnggijmmogaaRingP
import Derived.IntWalk
namespace Go.Proofs.Ytamnnggijmmogaa
set_option linter.all false
open Go.RowKit

theorem cellO {w w' : World} (h : Only [] w w') {b o : Nat} {v : Value} (hb : b < w.heap.size) (hc : w.cell? ⟨b, o, none⟩ = some v) : w'.cell? ⟨b, o, none⟩ = some v := (World.cell?_of_block (w := w) (h.block b hb (by simp))).trans hc
theorem OwnB.wrote {w : World} {base g n cap : Nat} {l : List Int} (h : OwnB w base (.slice (some ⟨g, 0, none⟩) n cap) l) (i : Nat) (hi : i < l.length) (x : Int) : OwnB (w.setCell ⟨g, i, none⟩ (.int .u8 x)) base (.slice (some ⟨g, 0, none⟩) n cap) (l.set i x) := by
  rcases h.2 with ⟨h', _⟩ | ⟨g', cap', cur, h', hb, hg, hn, hc, hs, ht⟩
  · simp at h'
  · simp only [Value.slice.injEq, Option.some.injEq, Addr.mk.injEq, and_true, true_and] at h'
    obtain ⟨rfl, rfl, rfl⟩ := h'
    refine ⟨by simp [u8s], .inr ⟨g, cap, cur.set! i (.int .u8 x), by simp, hb, ?_, by simpa using hn, hc, by simpa using hs, ?_⟩⟩
    · simp [World.setCell, Array.getElem?_modify, hg]
    · simp at ht hs ⊢
      rw [List.take_set, ht]
      simp [u8s, List.map_set]

theorem OwnB.frozenAt {w : World} {base g n cap : Nat} {l : List Int} (h : OwnB w base (.slice (some ⟨g, 0, none⟩) n cap) l) (j : Nat) : w.frozen? ⟨g, j, none⟩ = false := by
  rcases h.2 with ⟨h', _⟩ | ⟨g', cap', cur, h', hb, hg, _⟩
  · simp at h'
  · simp only [Value.slice.injEq, Option.some.injEq, Addr.mk.injEq, and_true, true_and] at h'
    obtain ⟨rfl, rfl, rfl⟩ := h'
    simp [World.frozen?, hg]
theorem OwnB.rdOf {w : World} {base n cap : Nat} {A : Option Addr} {v : Value} {l : List Int} (h : OwnB w base v l) (e : v = .slice A n cap) : Rd w A l := by
  obtain ⟨A', c', e', G, _⟩ := h.rd
  rw [e] at e'
  injection e' with e1 _ _
  rw [e1]; exact G

/-- The bytes of a slice of the call's own, each raised by one. -/
def RaiseRel (w0 : World) (base n : Nat) (v : Value) (i : Value) (wr : World) : Prop := ∃ (k : Nat) (l : List Int), k ≤ n ∧ i = .int .i64 k ∧ l.length = n ∧ OwnB wr base v l ∧ Only v.ownBlock.toList w0 wr

set_option maxRecDepth 100000 in
set_option maxHeartbeats 12800000 in
theorem ringPlays_walk (size : Int) (P : Option Addr) (os : List StepD) (cap : Nat) (w : World) (h : Steps5 w P os) (hcap : os.length ≤ cap) (hm : cap ≤ maxLen) (hr : os.length * 40 ≤ 140737488351232) (hsi : -9223372036854775808 ≤ size ∧ size ≤ 9223372036854775807) :
    Calls Try.prog 11 #[.int .i64 size, .slice P os.length cap] w fun e w' => e = .returned (.bool true) ∧ Below w.heap.size w w' := by
  have start : Calls Try.prog 32 #[] w fun e w1 => e = .returned (.bool true) ∧ Only [] w w1 := (alive05 _).mono fun e w1 ⟨he, b1⟩ => ⟨he, only_of_below b1⟩
  have great : ∀ w1, Only [] w w1 → Calls Try.prog 38 #[.slice P os.length cap] w1 fun e w' => e = .returned (.bool (great5 os)) ∧ Only [] w1 w' := fun w1 O => great5_any w1 P os cap (h.only O) hcap hm hr
  obtain ⟨n, hn⟩ : ∃ n, n = os.length := ⟨_, rfl⟩
  rw [← hn] at great hcap hr ⊢
  unfold maxLen at hm
  have HN := hide hn
  have HS := hide h
  replace great := hide great
  clear h hn
  go_enter Try.func11, Try.ntmps11
  go_wp2_with fail
  go_call start as e w1 ⟨rfl, O1⟩
  clear start
  go_wp2_with fail
  go_call (great.out w1 O1) as e w2 ⟨rfl, P2⟩
  have O2 := O1.trans P2 (by simp)
  clear great O1 P2
  by_cases hbig : great5 os = true
  · go_wp2_with fail
    go_ret
    exact ⟨rfl, O2.below (Nat.le_refl _) (by simp)⟩
  have hbig : great5 os = false := by simpa using hbig
  have hbulk : bulk os ≤ 100000 := by
    unfold great5 at hbig
    simp at hbig
    omega
  by_cases hsz : 1 ≤ size ∧ size ≤ 65536
  · obtain ⟨sz, rfl⟩ := Int.eq_ofNat_of_zero_le (show 0 ≤ size by omega)
    have z1 : 1 ≤ sz := by omega
    have z2 : sz ≤ 65536 := by omega
    clear hsz
    go_wp2_with fail
    go_call (new_ok sz w2 z1 z2) as e w3 ⟨rfl, R1, P3⟩
    have O3 := O2.trans P3 (by simp)
    have j3 := R1.ltg
    have i3 := O2.size
    obtain ⟨g, hg1⟩ : ∃ g, g = w2.heap.size := ⟨_, rfl⟩
    rw [← hg1] at R1 j3 i3 ⊢
    have Hg1 := hide hg1
    replace hbulk := hide hbulk
    clear hg1 P3 O2
    go_wp2_with fail
    go_call (refNew_any sz w3 z1 z2) as e w4 ⟨rfl, M4, P4, z4⟩
    have O4 := O3.trans P4 (by simp)
    replace R1 := R1.only P4 (by simp) (by simp)
    obtain ⟨g2, hg2⟩ : ∃ g, g = w3.heap.size := ⟨_, rfl⟩
    rw [← hg2] at M4 j3 z4 ⊢
    replace z4 : g2 + 1 ≤ w4.heap.size := by omega
    have Hg2 := hide hg2
    clear hg2 P4 O3
    go_wp2_with fail
    go_loopw [48] (fun i wr => ∃ (k : Nat) (c : List Int) (v : Value), k ≤ n ∧ i = .int .i64 k ∧ RingC wr (g + 1) g sz c ∧ RefV wr g2 sz (g2 + 1) v c ∧ Only [] w wr ∧ g2 + 1 ≤ wr.heap.size) (fun i _ => n - (intOf i).toNat)
    case atStart => exact ⟨0, [], _, by omega, rfl, R1, M4, O4, z4⟩
    case round =>
      clear R1 M4 O4 z4
      obtain ⟨wo, rfl⟩ : ∃ wo : World, wo = wr := ⟨_, rfl⟩
      obtain ⟨k, c, v, hk, rfl, R, M, O, zr⟩ := hrel
      have hvb0 := M.own.block
      by_cases hlt : k < n
      · have hn := HN.out
        obtain ⟨o, ho⟩ : ∃ o, os[k]? = some o := ⟨_, List.getElem?_eq_getElem (by omega)⟩
        obtain ⟨q, off, rfl, hq, hc⟩ := HS.out (by omega)
        obtain ⟨c0', c1', c2', ok⟩ := hc k o ho
        have hql : q < wo.heap.size := Nat.lt_of_lt_of_le hq O.size
        have hkk := O.block q hq (by simp)
        have e0 : wo.cell? ⟨q, off + k * 3, none⟩ = some (.int .i64 o.kind) := (World.cell?_of_block (w := w) hkk).trans c0'
        have e1 : wo.cell? ⟨q, off + k * 3 + 1, none⟩ = some (.int .i64 o.n) := (World.cell?_of_block (w := w) hkk).trans c1'
        have e2 : wo.cell? ⟨q, off + k * 3 + 2, none⟩ = some (.slice o.A o.b.length o.cap) := (World.cell?_of_block (w := w) hkk).trans c2'
        obtain ⟨ok0, ok1, ok2, _, ok3⟩ := ok
        have okl : ∀ a, o.A = some a → 0 < o.b.length → a.block < w.heap.size := by
          intro a ha h0
          obtain ⟨b, f, e, hl, _⟩ := ok0 h0
          rw [ha] at e; injection e with e; rw [e]; exact hl
        replace okl := hide okl
        clear hc hkk c0' c1' c2' hn ho
        generalize o.kind = kd at *
        generalize o.n = on at *
        generalize o.A = oA at *
        generalize o.cap = oc at *
        generalize o.b = ob at *
        clear o
        have Oq : Only [] wo ((wo.alloc (.cells #[.int .i64 kd, .int .i64 on, .slice oA ob.length oc] 82)).alloc (.cells #[] 5)) := ((Only.refl _ _).alloc _).alloc _
        have V0 : OwnB ((wo.alloc (.cells #[.int .i64 kd, .int .i64 on, .slice oA ob.length oc] 82)).alloc (.cells #[] 5)) (wo.heap.size + 1) (.slice (some ⟨wo.heap.size + 1, 0, none⟩) 0 0) [] := by
          have := ownB_lit (wo.alloc (.cells #[.int .i64 kd, .int .i64 on, .slice oA ob.length oc] 82)) (wo.heap.size + 1) [] (by simp) (by decide)
          simpa [u8s] using this
        have ca0 : Blk ((wo.alloc (.cells #[.int .i64 kd, .int .i64 on, .slice oA ob.length oc] 82)).alloc (.cells #[] 5)) wo.heap.size 82 [.int .i64 kd, .int .i64 on, .slice oA ob.length oc] := (Blk.new wo _ _).alloc _
        have okr := (ok0.only O).only Oq
        replace Oq := hide Oq
        go_wp2_with (at_builtin; go_must (refine wpList_app3 rfl (.tmp 52) (.tmp 54) rfl (wo.heap.size + 1) (.slice (some ⟨wo.heap.size + 1, 0, none⟩) 0 0) [] rfl V0 oA oc ob _ rfl rfl okr (by simp; omega) (by simp) ?_); intro v9 w9 V9 P9 _
                     obtain ⟨A9, k9, rfl, G9, q9, m9, a9⟩ := V9.out.rd
                     have ca := ca0.only (show Only [wo.heap.size + 1] _ w9 from P9) (by simp)
                     have c0 := ca.cell 0; have c1 := ca.cell 1; have c2 := ca.cell 2)
        simp only [List.nil_append] at V9 G9 q9 ⊢
        have P9' : Only [wo.heap.size + 1] _ w9 := P9
        have Q9 : Only [] wo w9 := Oq.out.trans P9' (by simp)
        replace R := R.only Q9 (by simp) (by simp)
        replace M := M.only Q9 (by simp) (by simp)
        replace O := O.trans Q9 (by simp)
        have z9 := Q9.size
        have zp := ca.lt
        replace okr := ok0.only O
        have V9 := V9.out
        clear P9 P9' Oq V0 ca0 Q9 e0 e1 e2
        have D1 : Calls Try.prog 40 #[.pointer (some ⟨g + 1, 0, none⟩), .agg #[.int .i64 kd, .int .i64 on, .slice A9 ob.length k9]] w9 (DoPost w9 (g + 1) g sz c kd on ob) :=
          do_any (g + 1) g sz c kd on A9 ob k9 w9 R (G9.src (by intro a ha h0; have := a9 a ha; simp; omega)) q9 (Nat.le_trans q9 m9)
        go_call D1 as e wa ⟨v1, rfl, V1, Rn, P1⟩
        replace R := Rn
        clear D1 c0 c1 c2
        have hvb : ∀ x, v.ownBlock = some x → g2 + 1 ≤ x ∧ x < wo.heap.size := fun x hx => hvb0 x hx
        have LL : ∀ x ∈ g2 :: v.ownBlock.toList, g2 ≤ x ∧ x < wo.heap.size := by
          intro x hx
          simp at hx
          rcases hx with rfl | hx
          · omega
          · have := hvb x hx; omega
        replace M := M.only P1 (by simp; omega) (by
          intro x hx hv
          have := hvb x hv.symm
          simp at hx; omega)
        replace O := O.trans P1 (by simp; omega)
        replace ca := ca.only P1 (by simp; omega)
        replace okr := ok0.only O
        have hv9b : ∀ x, (Value.slice A9 ob.length k9).ownBlock = some x → wo.heap.size + 1 ≤ x ∧ x < w9.heap.size := fun x hx => V9.block x hx
        replace V9 := V9.only P1 (by simp; omega)
        have za := P1.size
        clear P1 G9
        have hv1b : ∀ x, v1.ownBlock = some x → w9.heap.size ≤ x ∧ x < wa.heap.size := fun x hx => V1.block x hx
        have lB := rdoB_le c kd on
        obtain ⟨B1, hB1⟩ : ∃ B, B = rdoB c kd on := ⟨_, rfl⟩
        obtain ⟨N1, hN1⟩ : ∃ N, N = rdoN sz c kd on ob := ⟨_, rfl⟩
        obtain ⟨C1, hC1⟩ : ∃ C, C = rdoC sz c kd on ob := ⟨_, rfl⟩
        have lN := rdoN_le sz c kd on ob
        have lC := M.le
        have D2 := refDo_any g2 sz (g2 + 1) v c ob wa kd on oA oc M (by omega) okr (by
          intro a ha h0
          have h1 := okl.out a ha h0
          refine ⟨by omega, fun hv => ?_⟩
          have := hvb _ hv
          omega) ok1 ok2
        unfold RDo at D2
        rw [← hB1] at V1 lB D2
        rw [← hN1] at lN D2 ⊢
        rw [← hC1] at R D2
        replace hB1 := hide hB1
        replace hN1 := hide hN1
        replace hC1 := hide hC1
        have c0 := ca.cell 0
        have c1 := ca.cell 1
        have c2 := ca.cell 2
        replace LL := hide LL
        replace hvb := hide hvb
        replace hv9b := hide hv9b
        replace hv1b := hide hv1b
        obtain ⟨A1, q1, rfl, G1, _, mq1, _⟩ := V1.rd
        go_wp2_with fail
        go_call D2 as e wb ⟨r2, v', rfl, V2, Mn, M2⟩
        replace M := Mn
        clear D2 c0 c1 c2 Mn
        obtain ⟨P2, hv'⟩ := M2
        have nR : ∀ x, x < g2 → x ∉ g2 :: v.ownBlock.toList := fun x hx hm => by have := LL.out x hm; omega
        have nH : ∀ x, wo.heap.size ≤ x → x ∉ g2 :: v.ownBlock.toList := fun x hx hm => by have := LL.out x hm; omega
        replace R := R.only P2 (nR _ (by omega)) (nR _ (by omega))
        replace O := O.trans P2 (fun x hx => .inr (by have := LL.out x hx; omega))
        replace ca := ca.only P2 (nH _ (by omega))
        replace okr := ok0.only O
        replace V9 := V9.far P2 (fun x hx hv => by have := LL.out x hx; have := hv9b.out x hv.symm; omega)
        replace V1 := V1.far P2 (fun x hx hv => by have := LL.out x hx; have := hv1b.out x hv.symm; omega)
        have zb := P2.size
        have hv'b : ∀ x, v'.ownBlock = some x → x < wo.heap.size ∨ wa.heap.size ≤ x := by
          intro x hx
          rcases hv' with hv' | hv'
          · rw [hv'] at hx; exact .inl (hvb.out x hx).2
          · exact .inr (hv' x hx)
        clear P2 nR nH G1 hv'
        replace hv'b := hide hv'b
        obtain ⟨A2, q2, rfl, G2, _, mq2, _⟩ := V2.rd
        obtain ⟨A5, q5, rfl, G5, _, mq5, _⟩ := M.own.rd
        have lC1 := M.le
        have bigM := M.big
        have G1 := (V1.rdOf rfl)
        have G9 := (V9.rdOf rfl)
        have d1 := M.ring.cell 1
        have d2 := ca.cell 2
        have zg2 := M.ring.lt
        have zca := ca.lt
        have hX1 : ∀ w6, Only [] wb w6 → Calls Try.prog 36 #[.slice A1 B1.length q1, .slice A2 B1.length q2] w6 fun e w' => e = .returned (.bool true) ∧ Only [] w6 w' := by
          intro w6 P6
          have := bytes_any w6 A1 A2 B1 B1 q1 q2 (G1.only P6) (G2.only P6) (by unfold maxLen; omega) (by unfold maxLen; omega)
          rw [show eqB B1 B1 = true from decide_eq_true rfl] at this
          exact this
        have hX2 : ∀ w6, Only [] wb w6 → Calls Try.prog 36 #[.slice A9 ob.length k9, .slice oA ob.length oc] w6 fun e w' => e = .returned (.bool true) ∧ Only [] w6 w' := by
          intro w6 P6
          have := bytes_any w6 A9 oA ob ob k9 oc (G9.only P6) (okr.only P6) (by unfold maxLen; omega) (by unfold maxLen; omega)
          rw [show eqB ob ob = true from decide_eq_true rfl] at this
          exact this
        have hX3 : ∀ w6, Only [] wb w6 → Calls Try.prog 37 #[.pointer (some ⟨g + 1, 0, none⟩)] w6 fun e w' => e = .returned (.int .i64 C1.length) ∧ Only [] w6 w' := fun w6 P6 => (len_c (R.only P6 (by simp) (by simp))).mono fun e w' ⟨h1, h2⟩ => ⟨h1, h2 ▸ Only.refl _ _⟩
        have hX4 : ∀ w6, Only [] wb w6 → Calls Try.prog 42 #[.pointer (some ⟨g + 1, 0, none⟩)] w6 fun e w' => e = .returned (.int .i64 sz) ∧ Only [] w6 w' := fun w6 P6 => (cap_c (R.only P6 (by simp) (by simp))).mono fun e w' ⟨h1, h2⟩ => ⟨h1, h2 ▸ Only.refl _ _⟩
        have hX5 : ∀ w6, Only [] wb w6 → Calls Try.prog 43 #[.pointer (some ⟨g + 1, 0, none⟩)] w6 fun e w' => e = .returned (.int .i64 ((sz : Int) - C1.length)) ∧ Only [] w6 w' := fun w6 P6 => (room_c (R.only P6 (by simp) (by simp))).mono fun e w' ⟨h1, h2⟩ => ⟨h1, h2 ▸ Only.refl _ _⟩
        replace hX1 := hide hX1
        replace hX2 := hide hX2
        replace hX3 := hide hX3
        replace hX4 := hide hX4
        replace hX5 := hide hX5
        have Pb : Only [] wb wb := Only.refl _ _
        have PH := hide (show wo.heap.size + 1 ≤ wo.heap.size + 1 from Nat.le_refl _)
        have oC : (C1.length : Int) ≤ 65536 := by omega
        clear G1 G2 G9
        have hwr : IntKind.i64.wrap ((sz : Int) - (C1.length : Int)) = (sz : Int) - (C1.length : Int) := IntWalk.i64_in _ (by omega)
        go_wp2_with fail
        go_region_held3 (fun w' => w'.cell? ⟨g2, 1, none⟩ = some (.slice A5 C1.length q5) ∧ w'.cell? ⟨wo.heap.size, 2, none⟩ = some (.slice oA ob.length oc) ∧ wb.heap.size ≤ w'.heap.size ∧ Only [] wb w')
          ((try go_split_ands
            refine ⟨?_, ?_, ?_, ?_⟩ <;> first | (with_reducible assumption) | (exact cellO P7 (by omega) (by assumption)) | (have := P7.size; omega) | (refine Only.trans ?_ P7 (by simp); assumption) | (exact Only.drew (by assumption)) | (simp [go_sem, *]; done)))
          (first | (go_at_call_of 36 (Value.slice A1 B1.length q1); (try go_split_ands); go_call (hX1.out _ (by assumption)) as e w7 ⟨rfl, P7⟩) | (go_at_call_of 36 (Value.slice A9 ob.length k9); (try go_split_ands); go_call (hX2.out _ (by assumption)) as e w7 ⟨rfl, P7⟩) | (go_at_call 37; (try go_split_ands); go_call (hX3.out _ (by assumption)) as e w7 ⟨rfl, P7⟩) | (go_at_call 42; (try go_split_ands); go_call (hX4.out _ (by assumption)) as e w7 ⟨rfl, P7⟩) | (go_at_call 43; (try go_split_ands); go_call (hX5.out _ (by assumption)) as e w7 ⟨rfl, P7⟩))
        (try go_split_ands)
        have PX : Only [] wb w7 := by assumption
        replace R := R.only PX (by simp) (by simp)
        replace M := M.only PX (by simp) (by simp)
        replace O := O.trans PX (by simp)
        replace V9 := V9.only PX (by simp)
        replace V1 := V1.only PX (by simp)
        have z7 := PX.size
        clear hX1 hX2 hX3 hX4 hX5 Pb PX d1 d2 hwr V2 ca okr
        obtain ⟨wc, hwc⟩ : ∃ wc, wc = w7 := ⟨_, rfl⟩
        rw [← hwc] at R M O V9 V1 z7 ⊢
        replace hwc := hide hwc
        have hob9 : ob.length ≤ 9223372036854775807 := by omega
        have hB19 : B1.length ≤ 9223372036854775807 := by omega
        go_wp2
        go_loopw [119] (fun i wp => RaiseRel wc w9.heap.size B1.length (.slice A1 B1.length q1) i wp) (fun i _ => B1.length - (intOf i).toNat)
        case atStart => exact ⟨0, _, Nat.zero_le _, rfl, rfl, V1, Only.refl _ _⟩
        case round =>
          obtain ⟨wp, rfl⟩ : ∃ wp : World, wp = wr := ⟨_, rfl⟩
          obtain ⟨kp, lp, hkp, rfl, hlp, Vp, Pp⟩ := hrel
          replace hlp := hide hlp
          by_cases hltp : kp < B1.length
          · obtain ⟨gg, cc, e', hg', hgl'⟩ := Vp.form (by rw [hlp.out]; omega)
            have e'' : A1 = some ⟨gg, 0, none⟩ := by injection e'
            subst e''
            clear e'
            obtain ⟨x', hx'⟩ : ∃ x, lp[kp]? = some x := ⟨_, List.getElem?_eq_getElem (by rw [hlp.out]; exact hltp)⟩
            have cx' : wp.cell? ⟨gg, kp, none⟩ = some (.int .u8 x') := by
              have := World.ownsRow.cells Vp (g := gg) rfl kp (.int .u8 x') (by rw [getElem?_u8s, hx']; rfl)
              simpa [Addr.add_lit] using this
            have fx' : wp.frozen? ⟨gg, kp, none⟩ = false := OwnB.frozenAt Vp kp
            replace hx' := hide hx'
            go_wp2
            go_roundw
            case rel => exact ⟨kp + 1, lp.set kp _, by omega, by go_num, by rw [List.length_set]; exact hlp.out, Vp.wrote kp (by rw [hlp.out]; exact hltp) _, Pp.setCell (p := ⟨gg, kp, none⟩) (.inl (by simp [Value.ownBlock])) _⟩
            case measure => simp [intOf]; omega
          · obtain rfl : kp = B1.length := by omega
            have nG : ∀ x, x ≤ wo.heap.size → x ∉ (Value.slice A1 B1.length q1).ownBlock.toList := fun x hx hm => by have := hv1b.out x (by simpa using hm); omega
            replace R := R.only Pp (nG _ (by omega)) (nG _ (by omega))
            replace M := M.only Pp (nG _ (by omega)) (fun x hx hv => by have h1 := hv1b.out x (by simpa using hx); have h2 := hv'b.out x hv.symm; omega)
            replace O := O.trans Pp (fun x hx => .inr (by have := hv1b.out x (by simpa using hx); omega))
            replace V9 := V9.far Pp (fun x hx hv => by have h1 := hv1b.out x (by simpa using hx); have h2 := hv9b.out x hv.symm; omega)
            have zp := Pp.size
            clear Pp Vp nG
            go_wp2
            go_loopw [133] (fun i wq => RaiseRel wp (wo.heap.size + 1) ob.length (.slice A9 ob.length k9) i wq) (fun i _ => ob.length - (intOf i).toNat)
            case atStart => exact ⟨0, _, Nat.zero_le _, rfl, rfl, V9, Only.refl _ _⟩
            case round =>
              obtain ⟨wq, rfl⟩ : ∃ wq : World, wq = wr := ⟨_, rfl⟩
              obtain ⟨kq, lq, hkq, rfl, hlq, Vq, Pq⟩ := hrel
              replace hlq := hide hlq
              by_cases hltq : kq < ob.length
              · obtain ⟨gg, cc, e', hg', hgl'⟩ := Vq.form (by rw [hlq.out]; omega)
                have e'' : A9 = some ⟨gg, 0, none⟩ := by injection e'
                subst e''
                clear e'
                obtain ⟨x', hx'⟩ : ∃ x, lq[kq]? = some x := ⟨_, List.getElem?_eq_getElem (by rw [hlq.out]; exact hltq)⟩
                have cx' : wq.cell? ⟨gg, kq, none⟩ = some (.int .u8 x') := by
                  have := World.ownsRow.cells Vq (g := gg) rfl kq (.int .u8 x') (by rw [getElem?_u8s, hx']; rfl)
                  simpa [Addr.add_lit] using this
                have fx' : wq.frozen? ⟨gg, kq, none⟩ = false := OwnB.frozenAt Vq kq
                replace hx' := hide hx'
                go_wp2
                go_roundw
                case rel => exact ⟨kq + 1, lq.set kq _, by omega, by go_num, by rw [List.length_set]; exact hlq.out, Vq.wrote kq (by rw [hlq.out]; exact hltq) _, Pq.setCell (p := ⟨gg, kq, none⟩) (.inl (by simp [Value.ownBlock])) _⟩
                case measure => simp [intOf]; omega
              · obtain rfl : kq = ob.length := by omega
                have nG : ∀ x, x ≤ wo.heap.size → x ∉ (Value.slice A9 ob.length k9).ownBlock.toList := fun x hx hm => by have := hv9b.out x (by simpa using hm); omega
                replace R := R.only Pq (nG _ (by omega)) (nG _ (by omega))
                replace M := M.only Pq (nG _ (by omega)) (fun x hx hv => by have h1 := hv9b.out x (by simpa using hx); have h2 := hv'b.out x hv.symm; omega)
                replace O := O.trans Pq (fun x hx => .inr (by have := hv9b.out x (by simpa using hx); omega))
                have zq := Pq.size
                have d1 := M.ring.cell 1
                have G5 := M.own.rdOf rfl
                have hX6 : ∀ w6, Only [] wq w6 → Calls Try.prog 44 #[.pointer (some ⟨g + 1, 0, none⟩), .int .i64 sz] w6 fun e w' => ∃ A q, e = .returned (.slice A C1.length q) ∧ Rd w' A C1 ∧ Only [] w6 w' := by
                  intro w6 P6
                  have := peek_c (sz : Int) (R.only P6 (by simp) (by simp))
                  have e : some_ C1.length sz = C1.length := by unfold some_; omega
                  rw [e, List.take_length] at this
                  exact this.mono fun e w' ⟨v, h1, h2, h3⟩ => by
                    obtain ⟨A, q, rfl, G, _⟩ := (h2.own (by unfold maxLen; omega)).rd
                    exact ⟨A, q, h1, G, h3⟩
                have hX7 : ∀ w6 A q, Only [] wq w6 → Rd w6 A C1 → Calls Try.prog 36 #[.slice A C1.length q, .slice A5 C1.length q5] w6 fun e w' => e = .returned (.bool true) ∧ Only [] w6 w' := by
                  intro w6 A q P6 G
                  have := bytes_any w6 A A5 C1 C1 q q5 G (G5.only P6) (by unfold maxLen; omega) (by unfold maxLen; omega)
                  rw [show eqB C1 C1 = true from decide_eq_true rfl] at this
                  exact this
                replace hX6 := hide hX6
                replace hX7 := hide hX7
                have Pz : Only [] wq wq := Only.refl _ _
                have zg2 := M.ring.lt
                clear G5
                go_wp2_with fail
                go_region_held3 (fun w' => w'.cell? ⟨g2, 1, none⟩ = some (.slice A5 C1.length q5) ∧ wq.heap.size ≤ w'.heap.size ∧ Only [] wq w')
                  ((try go_split_ands
                    refine ⟨?_, ?_, ?_⟩ <;> first | (with_reducible assumption) | (exact cellO P7 (by omega) (by assumption)) | (have := P7.size; omega) | (refine Only.trans ?_ P7 (by simp); assumption) | (exact Only.drew (by assumption)) | (simp [go_sem, *]; done)))
                  (first | (go_at_call 44; (try go_split_ands); go_call (hX6.out _ (by assumption)) as e w7 ⟨A7, q7, rfl, G7, P7⟩) | (go_at_call 36; (try go_split_ands); go_call (hX7.out _ _ _ (by assumption) (by assumption)) as e w7 ⟨rfl, P7⟩))
                all_goals
                  (try go_split_ands)
                  have PX : Only [] wq w7 := by assumption
                  go_wp2
                  go_roundw
                  case rel => exact ⟨k + 1, C1, _, by omega, by go_num, R.only PX (by simp) (by simp), M.only PX (by simp) (by simp), O.trans PX (by simp), by have := PX.size; omega⟩
                  case measure => simp [intOf]; omega
      · obtain rfl : k = n := by omega
        go_wp2_with fail
        go_ret
        exact ⟨rfl, O.below (Nat.le_refl _) (by simp)⟩
  · have hsz' : size < 1 ∨ 65536 < size := by omega
    go_wp2_with fail
    go_call (new_bad size _ hsz') as e w' ⟨rfl, rfl⟩
    go_wp2_with fail
    go_call (refNew_bad size _ hsz') as e w' ⟨rfl, rfl⟩
    go_wp2_with fail
    go_ret
    exact ⟨rfl, O2.below (Nat.le_refl _) (by simp)⟩
end Go.Proofs.Ytamnnggijmmogaa

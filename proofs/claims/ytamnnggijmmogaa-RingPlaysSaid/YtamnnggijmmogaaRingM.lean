/- The walk of the law RingKeeps: it is true; for every size and all steps, no condition. -/
import Derived.Test.YtamnnggijmmogaaRingL
import Derived.Test.YtamnnggijmmogaaApp2
namespace Go.Proofs.Ytamnnggijmmogaa
set_option linter.all false
open Go.RowKit

/-- Two slices of the call's own that share no memory. -/
def Apart (v u : Value) : Prop := ∀ x, v.ownBlock = some x → u.ownBlock ≠ some x
theorem Apart.symm {v u : Value} (h : Apart v u) : Apart u v := fun x hx hv => h x hv hx
theorem Apart.notin {v u : Value} (h : Apart v u) : ∀ x ∈ v.ownBlock.toList, some x ≠ u.ownBlock := fun x hx e => h x (by simpa using hx) e.symm
theorem Apart.grown {w : World} {base : Nat} {l : List Int} {v v' u : Value} (h : Apart v u) (hu : OwnB w base u l) (hb : v'.ownBlock = v.ownBlock ∨ v'.ownBlock = some w.heap.size) : Apart v' u := by
  rcases hb with hb | hb
  · intro x hx; rw [hb] at hx; exact h x hx
  · intro x hx hux
    rw [hb] at hx; injection hx with hx
    have := hu.block x hux
    omega
theorem OwnB.low {w : World} {base : Nat} {v : Value} {l : List Int} (h : OwnB w base v l) : ∀ x, x < base → x ∉ v.ownBlock.toList := fun x hx hm => by
  have := h.block x (by simpa using hm)
  omega

theorem bulk_le (os : List StepD) (k : Nat) : bulk (os.take k) ≤ bulk os := by
  induction os generalizing k with
  | nil => simp [bulk]
  | cons o os ih =>
    cases k with
    | zero => simp [bulk]
    | succ k => have := ih k; simp only [List.take_succ_cons, bulk]; omega
set_option maxRecDepth 100000 in
set_option maxHeartbeats 6400000 in
theorem ringKeeps_walk (size : Int) (P : Option Addr) (os : List StepD) (cap : Nat) (w : World) (h : Steps5 w P os) (hcap : os.length ≤ cap) (hm : cap ≤ maxLen) (hr : os.length * 40 ≤ 140737488351232) :
    Calls Try.prog 12 #[.int .i64 size, .slice P os.length cap] w fun e w' => e = .returned (.bool true) ∧ Below w.heap.size w w' := by
  have start : Calls Try.prog 32 #[] w fun e w1 => e = .returned (.bool true) ∧ Only [] w w1 := (alive05 _).mono fun e w1 ⟨he, b1⟩ => ⟨he, only_of_below b1⟩
  have great : ∀ w1, Only [] w w1 → Calls Try.prog 38 #[.slice P os.length cap] w1 fun e w' => e = .returned (.bool (great5 os)) ∧ Only [] w1 w' := fun w1 O => great5_any w1 P os cap (h.only O) hcap hm hr
  obtain ⟨n, hn⟩ : ∃ n, n = os.length := ⟨_, rfl⟩
  rw [← hn] at great hcap hr ⊢
  unfold maxLen at hm
  have HN := hide hn
  have HS := hide h
  replace great := hide great
  clear h hn
  go_enter Try.func12, Try.ntmps12
  go_wp2_with fail
  go_call start as e w1 ⟨rfl, O1⟩
  clear start
  go_wp2_with fail
  go_call (great.out w1 O1) as e w2 ⟨rfl, P2⟩
  have O2 := O1.trans P2 (by simp)
  clear great O1 P2
  by_cases hbig : great5 os = true
  · go_wp2_with fail
    go_ret
    exact ⟨rfl, O2.below (Nat.le_refl _) (by simp)⟩
  have hbig : great5 os = false := by simpa using hbig
  have hbulk : bulk os ≤ 100000 := by
    unfold great5 at hbig
    simp at hbig
    omega
  by_cases hsz : 1 ≤ size ∧ size ≤ 65536
  · obtain ⟨sz, rfl⟩ := Int.eq_ofNat_of_zero_le (show 0 ≤ size by omega)
    have z1 : 1 ≤ sz := by omega
    have z2 : sz ≤ 65536 := by omega
    clear hsz
    go_wp2_with fail
    go_call (new_ok sz w2 z1 z2) as e w3 ⟨rfl, R1, P3⟩
    have O3 := O2.trans P3 (by simp)
    have j3 := R1.ltg
    have i3 := O2.size
    obtain ⟨g, hg1⟩ : ∃ g, g = w2.heap.size := ⟨_, rfl⟩
    rw [← hg1] at R1 j3 i3 ⊢
    have Hg1 := hide hg1
    replace hbulk := hide hbulk
    clear hg1 P3 O2
    go_wp2_with fail
    go_loopw [29, 7, 8] (fun i v7 v8 wr => ∃ (k : Nat) (c out : List Int) (u7 u8 : Value), k ≤ n ∧ i = .int .i64 k ∧ u7 = v7 ∧ u8 = v8 ∧ RingC wr (g + 1) g sz c ∧ OwnB wr (g + 2) u7 (out ++ c) ∧ OwnB wr (g + 2) u8 out ∧ Apart u7 u8 ∧ Only [] w wr ∧ g + 1 < wr.heap.size ∧ (out ++ c).length ≤ bulk (os.take k)) (fun i _ _ _ => n - (intOf i).toNat)
    case atStart => exact ⟨0, [], [], _, _, by omega, rfl, rfl, rfl, R1, ownB_nil _ _, ownB_nil _ _, (fun x hx => by cases hx), O3, j3, by simp⟩
    case round =>
      clear R1 O3 j3
      obtain ⟨k, c, out, v7, v8, hk, rfl, rfl, rfl, R, I7, I8, sep, O, j6, hlen⟩ := hrel
      replace hlen := hide hlen
      by_cases hlt : k < n
      · have hn := HN.out
        obtain ⟨o, ho⟩ : ∃ o, os[k]? = some o := ⟨_, List.getElem?_eq_getElem (by omega)⟩
        obtain ⟨q, off, rfl, hq, hc⟩ := HS.out (by omega)
        obtain ⟨c0', c1', c2', ok⟩ := hc k o ho
        have hql : q < wr.heap.size := Nat.lt_of_lt_of_le hq O.size
        have hkk := O.block q hq (by simp)
        have e0 : wr.cell? ⟨q, off + k * 3, none⟩ = some (.int .i64 o.kind) := (World.cell?_of_block (w := w) hkk).trans c0'
        have e1 : wr.cell? ⟨q, off + k * 3 + 1, none⟩ = some (.int .i64 o.n) := (World.cell?_of_block (w := w) hkk).trans c1'
        have e2 : wr.cell? ⟨q, off + k * 3 + 2, none⟩ = some (.slice o.A o.b.length o.cap) := (World.cell?_of_block (w := w) hkk).trans c2'
        obtain ⟨ok0, ok1, ok2, _⟩ := ok
        have okl : ∀ a, o.A = some a → 0 < o.b.length → a.block < w.heap.size := by
          intro a ha h0
          obtain ⟨b, f, e, hl, _⟩ := ok0 h0
          rw [ha] at e; injection e with e; rw [e]; exact hl
        replace okl := hide okl
        have hcl := R.le
        have hB : bulk (os.take (k + 1)) = bulk (os.take k) + min o.b.length 100000 := bulk_snoc os k o ho
        have hBm : bulk (os.take (k + 1)) ≤ 100000 := by
          have : bulk (os.take (k + 1)) ≤ bulk os := bulk_le os (k + 1)
          have := hbulk.out
          omega
        replace hB := hide hB
        replace hBm := hide hBm
        clear hc hkk c0' c1' c2' hn
        go_wp2_with fail
        have Oq : Only [] wr (wr.alloc (.cells #[.int .i64 o.kind, .int .i64 o.n, .slice o.A o.b.length o.cap] 82)) := (Only.refl _ _).alloc _
        replace O := O.alloc (.cells #[.int .i64 o.kind, .int .i64 o.n, .slice o.A o.b.length o.cap] 82)
        have ca := Blk.new wr 82 [.int .i64 o.kind, .int .i64 o.n, .slice o.A o.b.length o.cap]
        replace R := R.only Oq (by simp) (by simp)
        replace I7 := I7.only Oq (by simp)
        replace I8 := I8.only Oq (by simp)
        have zo : wr.heap.size < (wr.alloc (.cells #[.int .i64 o.kind, .int .i64 o.n, .slice o.A o.b.length o.cap] 82)).heap.size := by simp
        obtain ⟨wa, hwa⟩ : ∃ wa, wa = wr.alloc (.cells #[.int .i64 o.kind, .int .i64 o.n, .slice o.A o.b.length o.cap] 82) := ⟨_, rfl⟩
        replace ca : Blk wa wr.heap.size 82 [.int .i64 o.kind, .int .i64 o.n, .slice o.A o.b.length o.cap] := by rw [hwa]; exact ca
        rw [← hwa] at O R I7 I8 zo ⊢
        clear hwa Oq
        go_call (len_c R) as e w' ⟨rfl, rfl⟩
        go_wp2_with fail
        have X1 : Calls Try.prog 44 #[.pointer (some ⟨g + 1, 0, none⟩), .int .i64 c.length] wa fun e w' => ∃ v, e = .returned v ∧ OwnB w' wa.heap.size v c ∧ Only [] wa w' := by
          have := peek_c (c.length : Int) R
          have e : some_ c.length c.length = c.length := by unfold some_; omega
          rw [e, List.take_length] at this
          exact this.mono fun e w' ⟨v, h1, h2, h3⟩ => ⟨v, h1, h2.own (by unfold maxLen; omega), h3⟩
        go_call X1 as e wb ⟨v1, rfl, V1, P1⟩
        replace R := R.only P1 (by simp) (by simp)
        replace I7 := I7.only P1 (by simp)
        replace I8 := I8.only P1 (by simp)
        replace ca := ca.only P1 (by simp)
        replace O := O.trans P1 (by simp)
        have zb := P1.size
        clear X1 P1
        have ca0 := ca.cell 0
        have ca1 := ca.cell 1
        have ca2 := ca.cell 2
        have okr := ok0.only O
        obtain ⟨A1, ck, rfl, G1, q1, m1, aA1⟩ := V1.rd
        have D1 : Calls Try.prog 40 #[.pointer (some ⟨g + 1, 0, none⟩), .agg #[.int .i64 o.kind, .int .i64 o.n, .slice o.A o.b.length o.cap]] wb (DoPost wb (g + 1) g sz c o.kind o.n o.b) :=
          do_any (g + 1) g sz c o.kind o.n o.A o.b o.cap wb R (okr.src (by intro a ha h0; have := okl.out a ha h0; simp; omega)) ok1 (Nat.le_trans ok1 ok2)
        go_wp2_with fail
        go_call D1 as e wc ⟨v2, rfl, V2, Rn, P2⟩
        replace R := Rn
        clear D1 ca0 ca1 ca2
        replace I7 := I7.only P2 (by simp)
        replace I8 := I8.only P2 (by simp)
        replace ca := ca.only P2 (by simp; omega)
        replace O := O.trans P2 (by simp; omega)
        replace G1 := G1.onlyL P2 (by intro a ha; have := aA1 a ha; simp; omega)
        have zc := P2.size
        have okr := ok0.only O
        have ca0 := ca.cell 0
        have ca2 := ca.cell 2
        clear P2 V1
        have fin : ∀ (c2 out2 : List Int) (v7' v8' : Value) (w9 : World), RingC w9 (g + 1) g sz c2 → OwnB w9 (g + 2) v7' (out2 ++ c2) → OwnB w9 (g + 2) v8' out2 → Apart v7' v8' → Only [] w w9 → g + 1 < w9.heap.size → (out2 ++ c2).length ≤ (out ++ c).length + min o.b.length 100000 →
            ∃ (k_1 : Nat) (c out : List Int) (u7 u8 : Value), k_1 ≤ n ∧ Value.int .i64 ((k : Int) + 1) = .int .i64 k_1 ∧ u7 = v7' ∧ u8 = v8' ∧ RingC w9 (g + 1) g sz c ∧ OwnB w9 (g + 2) u7 (out ++ c) ∧ OwnB w9 (g + 2) u8 out ∧ Apart u7 u8 ∧ Only [] w w9 ∧ g + 1 < w9.heap.size ∧ (out ++ c).length ≤ bulk (os.take k_1) :=
          fun c2 out2 v7' v8' w9 h1 h2 h3 h4 h5 h6 h7 => ⟨k + 1, c2, out2, _, _, by omega, by go_num, rfl, rfl, h1, h2, h3, h4, h5, h6, by rw [hB.out]; have := hlen.out; omega⟩
        replace fin := hide fin
        replace ok1 := hide ok1
        replace ok2 := hide ok2
        have hlen9 : (out ++ c).length ≤ 100000 := by have := hlen.out; have := hB.out; have := hBm.out; omega
        have zg : g + 2 ≤ wc.heap.size := by omega
        generalize o.kind = kd at V2 R ca0 ca ca2 ⊢
        by_cases k1 : kd = 1
        · subst k1
          obtain ⟨m, hm', hml⟩ : ∃ m, m = o.b.take (fitN sz c.length o.b.length) ∧ m.length = fitN sz c.length o.b.length := ⟨_, rfl, by simp; unfold fitN; omega⟩
          have hN : rdoN sz c 1 o.n o.b = m.length := hml.symm
          have hC : rdoC sz c 1 o.n o.b = c ++ m := by rw [hm']; rfl
          have okm : Rd wc o.A m := by rw [hm']; exact okr.take _
          have hmb : m.length ≤ o.b.length := by rw [hml]; unfold fitN; omega
          have hms : m.length ≤ sz := by rw [hml]; unfold fitN; omega
          have hmr : m.length < o.b.length → sz = (c ++ m).length := by rw [List.length_append, hml]; unfold fitN; omega
          have hmc : m.length ≤ o.cap := Nat.le_trans hmb ok1.out
          rw [hC] at R
          rw [hN]
          replace hmr := hide hmr
          obtain ⟨bl, hbl⟩ : ∃ bl, bl = o.b.length := ⟨_, rfl⟩
          have hbm : bl ≤ 9223372036854775807 := by have := ok1.out; have := ok2.out; unfold maxLen at *; omega
          rw [← hbl] at ca2 hmb hmr fin ⊢
          replace hbl := hide hbl
          clear hm' hml hN hC V2 okr ca
          have le9 : (out ++ (c ++ m)).length ≤ (out ++ c).length + min bl 100000 := by simp only [List.length_append]; omega
          replace le9 := hide le9
          by_cases hshort : m.length < bl
          · have X5 : Calls Try.prog 43 #[.pointer (some ⟨g + 1, 0, none⟩)] wc fun e w' => e = .returned (.int .i64 0) ∧ wc = w' := by
              have := room_c R
              rw [← hmr.out hshort] at this
              simpa using this
            go_wp2_with fail
            go_call X5 as e w' ⟨rfl, rfl⟩
            clear X5
            go_wp2_with (at_builtin; refine wpList_app2 rfl (.tmp 57) (.tmp 61) rfl (g + 2) v7 (out ++ c) rfl I7 o.A o.cap (m) rfl okm (by simp only [List.length_append] at *; omega) (by omega) ?_; intro v9 w9 V9 P9 B9)
            replace V9 := V9.out
            have R9 := R.only P9 (I7.low _ (by omega)) (I7.low _ (by omega))
            have O9 := O.trans P9 (fun x hx => .inr (by have := I7.block x (by simpa using hx); omega))
            have j9 : g + 1 < w9.heap.size := by have := P9.size; omega
            go_roundw
            case rel => exact fin.out (c ++ m) out v9 v8 w9 R9 (by rw [← List.append_assoc]; exact V9) (I8.far P9 sep.notin) (sep.grown I8 B9.out) O9 j9 le9.out
            case measure => simp [intOf]; omega
          · go_wp2_with (at_builtin; refine wpList_app2 rfl (.tmp 57) (.tmp 61) rfl (g + 2) v7 (out ++ c) rfl I7 o.A o.cap (m) rfl okm (by simp only [List.length_append] at *; omega) (by omega) ?_; intro v9 w9 V9 P9 B9)
            replace V9 := V9.out
            have R9 := R.only P9 (I7.low _ (by omega)) (I7.low _ (by omega))
            have O9 := O.trans P9 (fun x hx => .inr (by have := I7.block x (by simpa using hx); omega))
            have j9 : g + 1 < w9.heap.size := by have := P9.size; omega
            go_roundw
            case rel => exact fin.out (c ++ m) out v9 v8 w9 R9 (by rw [← List.append_assoc]; exact V9) (I8.far P9 sep.notin) (sep.grown I8 B9.out) O9 j9 le9.out
            case measure => simp [intOf]; omega
        by_cases k2 : kd = 2
        · subst k2
          have hkl := some_le c.length o.n
          obtain ⟨m, hm'⟩ : ∃ m, m = c.take (some_ c.length o.n) := ⟨_, rfl⟩
          obtain ⟨d, hd'⟩ : ∃ d, d = c.drop (some_ c.length o.n) := ⟨_, rfl⟩
          have hmd : m ++ d = c := by rw [hm', hd']; exact List.take_append_drop _ _
          have hB2 : rdoB c 2 o.n = m := by rw [hm']; rfl
          have hN : rdoN sz c 2 o.n o.b = 0 := rfl
          have hC : rdoC sz c 2 o.n o.b = d := by rw [hd']; rfl
          rw [hC] at R
          rw [hB2] at V2
          rw [hN]
          subst hmd
          clear hm' hd' hB2 hN hC ca hkl
          obtain ⟨A2, kk2, rfl, G2, qq2, mm2, _⟩ := V2.rd
          have le9 : ((out ++ m) ++ d).length ≤ (out ++ (m ++ d)).length + min o.b.length 100000 := by simp only [List.length_append]; omega
          replace le9 := hide le9
          go_wp2_with (at_builtin; refine wpList_app2 rfl (.tmp 65) (.tmp 66) rfl (g + 2) v8 (out) rfl I8 A2 kk2 (m) rfl G2 (by simp only [List.length_append] at *; omega) (by omega) ?_; intro v9 w9 V9 P9 B9)
          replace V9 := V9.out
          have R9 := R.only P9 (I8.low _ (by omega)) (I8.low _ (by omega))
          have O9 := O.trans P9 (fun x hx => .inr (by have := I8.block x (by simpa using hx); omega))
          have j9 : g + 1 < w9.heap.size := by have := P9.size; omega
          go_roundw
          case rel => exact fin.out d (out ++ m) v7 v9 w9 R9 (by rw [List.append_assoc]; exact I7.far P9 sep.symm.notin) V9 (sep.symm.grown I7 B9.out).symm O9 j9 le9.out
          case measure => simp [intOf]; omega
        by_cases k3 : kd = 3
        · subst k3
          have hN : rdoN sz c 3 o.n o.b = 0 := rfl
          have hC : rdoC sz c 3 o.n o.b = c := rfl
          rw [hC] at R
          rw [hN]
          clear hN hC ca V2
          have j9 : g + 1 < wc.heap.size := by omega
          go_wp2_with fail
          go_roundw
          case rel => exact fin.out c out v7 v8 wc R I7 I8 sep O j9 (Nat.le_add_right _ _)
          case measure => simp [intOf]; omega
        by_cases k4 : kd = 4
        · subst k4
          have hkl := some_le c.length o.n
          obtain ⟨m, hm'⟩ : ∃ m, m = c.take (some_ c.length o.n) := ⟨_, rfl⟩
          obtain ⟨d, hd'⟩ : ∃ d, d = c.drop (some_ c.length o.n) := ⟨_, rfl⟩
          have hmd : m ++ d = c := by rw [hm', hd']; exact List.take_append_drop _ _
          have hml : m.length = some_ c.length o.n := by rw [hm']; simp; omega
          have hN : rdoN sz c 4 o.n o.b = m.length := hml.symm
          have hC : rdoC sz c 4 o.n o.b = d := by rw [hd']; rfl
          have okm : Rd wc A1 m := by rw [hm']; exact G1.take _
          have hmk : m.length ≤ ck := by rw [hml]; exact Nat.le_trans hkl q1
          rw [hC] at R
          rw [hN]
          subst hmd
          clear hm' hd' hml hN hC ca hkl V2
          have le9 : ((out ++ m) ++ d).length ≤ (out ++ (m ++ d)).length + min o.b.length 100000 := by simp only [List.length_append]; omega
          replace le9 := hide le9
          go_wp2_with (at_builtin; refine wpList_app2 rfl (.tmp 70) (.tmp 73) rfl (g + 2) v8 (out) rfl I8 A1 ck (m) rfl okm (by simp only [List.length_append] at *; omega) (by omega) ?_; intro v9 w9 V9 P9 B9)
          replace V9 := V9.out
          have R9 := R.only P9 (I8.low _ (by omega)) (I8.low _ (by omega))
          have O9 := O.trans P9 (fun x hx => .inr (by have := I8.block x (by simpa using hx); omega))
          have j9 : g + 1 < w9.heap.size := by have := P9.size; omega
          go_roundw
          case rel => exact fin.out d (out ++ m) v7 v9 w9 R9 (by rw [List.append_assoc]; exact I7.far P9 sep.symm.notin) V9 (sep.symm.grown I7 B9.out).symm O9 j9 le9.out
          case measure => simp [intOf]; omega
        by_cases k5 : kd = 5
        · subst k5
          have hN : rdoN sz c 5 o.n o.b = 0 := rfl
          have hC : rdoC sz c 5 o.n o.b = [] := rfl
          rw [hC] at R
          rw [hN]
          clear hN hC ca V2
          have le9 : ((out ++ c) ++ []).length ≤ (out ++ c).length + min o.b.length 100000 := by simp only [List.length_append]; simp
          replace le9 := hide le9
          go_wp2_with (at_builtin; refine wpList_app2 rfl (.tmp 77) (.tmp 78) rfl (g + 2) v8 (out) rfl I8 A1 ck (c) rfl G1 (by simp only [List.length_append] at *; omega) (by omega) ?_; intro v9 w9 V9 P9 B9)
          replace V9 := V9.out
          have R9 := R.only P9 (I8.low _ (by omega)) (I8.low _ (by omega))
          have O9 := O.trans P9 (fun x hx => .inr (by have := I8.block x (by simpa using hx); omega))
          have j9 : g + 1 < w9.heap.size := by have := P9.size; omega
          go_roundw
          case rel => exact fin.out [] (out ++ c) v7 v9 w9 R9 (by rw [List.append_nil]; exact I7.far P9 sep.symm.notin) V9 (sep.symm.grown I7 B9.out).symm O9 j9 le9.out
          case measure => simp [intOf]; omega
        · have hN : rdoN sz c kd o.n o.b = 0 := by unfold rdoN; rw [if_neg k1, if_neg k4]
          have hC : rdoC sz c kd o.n o.b = c := by unfold rdoC; rw [if_neg k1, if_neg (by omega), if_neg k5]
          rw [hC] at R
          rw [hN]
          have b1 : (kd == 1) = false := beq_eq_false_iff_ne.2 k1
          have b2 : (kd == 2) = false := beq_eq_false_iff_ne.2 k2
          have b4 : (kd == 4) = false := beq_eq_false_iff_ne.2 k4
          have b5 : (kd == 5) = false := beq_eq_false_iff_ne.2 k5
          clear hN hC ca V2 k1 k2 k3 k4 k5
          have j9 : g + 1 < wc.heap.size := by omega
          go_wp2_with fail
          go_roundw
          case rel => exact fin.out c out v7 v8 wc R I7 I8 sep O j9 (Nat.le_add_right _ _)
          case measure => simp [intOf]; omega
      · obtain rfl : k = n := by omega
        have hcl := R.le
        have hlen9 : (out ++ c).length ≤ 100000 := by have := hlen.out; have := hbulk.out; have := bulk_le os k; omega
        have hlo : out.length ≤ 100000 := by simp only [List.length_append] at hlen9; omega
        have zg : g + 2 ≤ wr.heap.size := by omega
        obtain ⟨A7, k7, rfl, G7, q7, m7, _⟩ := I7.rd
        obtain ⟨A8, k8, rfl, G8, q8, m8, a8⟩ := I8.rd
        have V0 : OwnB (wr.alloc (.cells #[] 5)) wr.heap.size (.slice (some ⟨wr.heap.size, 0, none⟩) 0 0) [] := ownB_lit wr _ [] (Nat.le_refl _) (by decide)
        have Oq : Only [] wr (wr.alloc (.cells #[] 5)) := (Only.refl [] wr).alloc _
        have G80 := G8.only Oq
        obtain ⟨L, hL⟩ : ∃ L, L = out ++ c := ⟨_, rfl⟩
        rw [← hL] at G7 hlen9 ⊢
        replace hL := hide hL
        clear G8 I7 I8 hlen sep a8
        go_wp2_with (at_builtin; refine wpList_app2 rfl (.tmp 82) (.tmp 83) rfl wr.heap.size (.slice (some ⟨wr.heap.size, 0, none⟩) 0 0) [] rfl V0 A8 k8 out rfl G80 (by simp; omega) (by simp) ?_; intro v9 w9 V9 P9 B9)
        replace V9 := V9.out
        rw [List.nil_append] at V9
        replace P9 : Only [wr.heap.size] (wr.alloc (.cells #[] 5)) w9 := P9
        have Q9 : Only [] wr w9 := Oq.trans P9 (by simp)
        have R9 := R.only Q9 (by simp) (by simp)
        clear V0 Oq G80 P9 B9
        go_call (len_c R9) as e w' ⟨rfl, rfl⟩
        go_wp2_with fail
        have X1 : Calls Try.prog 44 #[.pointer (some ⟨g + 1, 0, none⟩), .int .i64 c.length] w9 fun e w' => ∃ v, e = .returned v ∧ OwnB w' w9.heap.size v c ∧ Only [] w9 w' := by
          have := peek_c (c.length : Int) R9
          have e : some_ c.length c.length = c.length := by unfold some_; omega
          rw [e, List.take_length] at this
          exact this.mono fun e w' ⟨v, h1, h2, h3⟩ => ⟨v, h1, h2.own (by unfold maxLen; omega), h3⟩
        go_call X1 as e w10 ⟨v1, rfl, V1, P10⟩
        have Q10 := Q9.trans P10 (by simp)
        replace V9 := V9.only P10 (by simp)
        obtain ⟨A1, ck, rfl, G1, q1, m1, aA1⟩ := V1.rd
        clear X1 P10 R9 Q9 V1
        have z10 := Q10.size
        go_wp2_with (at_builtin; refine wpList_app2 rfl (.tmp 84) (.tmp 88) rfl wr.heap.size v9 out rfl V9 A1 ck c rfl G1 (by omega) (by omega) ?_; intro v11 w11 V11 P11 B11)
        replace V11 := V11.out
        rw [← hL.out] at V11
        have Q11 := Q10.trans P11 (fun x hx => .inr (by have := V9.block x (by simpa using hx); omega))
        obtain ⟨A11, c11, rfl, G11, k11, m11, _⟩ := V11.rd
        have O11 := O.trans Q11 (by simp)
        have X3 : Calls Try.prog 36 #[.slice A7 L.length k7, .slice A11 L.length c11] w11 fun e w' => e = .returned (.bool true) ∧ Only [] w11 w' := by
          have := bytes_any w11 A7 A11 L L k7 c11 (G7.only Q11) G11 (by unfold maxLen; omega) (by unfold maxLen; omega)
          rw [show eqB L L = true from decide_eq_true rfl] at this
          exact this
        go_call X3 as e w12 ⟨rfl, P12⟩
        go_wp2_with fail
        go_ret
        exact ⟨rfl, (O11.trans P12 (by simp)).below (Nat.le_refl _) (by simp)⟩
  · have hsz' : size < 1 ∨ 65536 < size := by omega
    go_wp2_with fail
    go_call (new_bad size _ hsz') as e w' ⟨rfl, rfl⟩
    go_wp2_with fail
    go_ret
    exact ⟨rfl, O2.below (Nat.le_refl _) (by simp)⟩
end Go.Proofs.Ytamnnggijmmogaa

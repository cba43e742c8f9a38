/- The law OctetWrites holds: for all fields; no condition. -/
import Derived.Test.YtdmjabfjkkjhbaaDoorOctX
import Derived.Test.YtdmjabfjkkjhbaaDoorRefH
import Derived.Test.YtdmjabfjkkjhbaaDoorRefI
import Derived.Test.YtdmjabfjkkjhbaaDoorRefJ
import Derived.Test.YtdmjabfjkkjhbaaDoorRefM
import Derived.Test.YtdmjabfjkkjhbaaDoorOctT
import Derived.Test.YtdmjabfjkkjhbaaDoorFrameC
import Derived.Test.YtdmjabfjkkjhbaaDoorOpenF
import Derived.Test.YtdmjabfjkkjhbaaDoorTie
import Derived.Test.YtdmjabfjkkjhbaaDoorCards
namespace Go.Proofs.YtdmjabfjkkjhbaaDoor
set_option linter.all false
open Go.ChangeShapes Go.WideShapes Go.ChangeAt Go.RowKit Go.Deep

theorem OwnB.wrote {w : World} {base g n cap : Nat} {l : List Int} (h : OwnB w base (.slice (some ⟨g, 0, none⟩) n cap) l) (i : Nat) (hi : i < l.length) (x : Int) : OwnB (w.setCell ⟨g, i, none⟩ (.int .u8 x)) base (.slice (some ⟨g, 0, none⟩) n cap) (l.set i x) := by
  rcases h.2 with ⟨h', _⟩ | ⟨g', cap', cur, h', hb, hg, hn, hc, hs, ht⟩
  · simp at h'
  · simp only [Value.slice.injEq, Option.some.injEq, Addr.mk.injEq, and_true, true_and] at h'
    obtain ⟨rfl, rfl, rfl⟩ := h'
    refine ⟨by simp [u8s], .inr ⟨g, cap, cur.set! i (.int .u8 x), by simp, hb, ?_, by simpa using hn, hc, by simpa using hs, ?_⟩⟩
    · simp [World.setCell, Array.getElem?_modify, hg]
    · simp at ht hs ⊢
      rw [List.take_set, ht]
      simp [u8s, List.map_set]
theorem OwnB.frozenAt {w : World} {base g n cap : Nat} {l : List Int} (h : OwnB w base (.slice (some ⟨g, 0, none⟩) n cap) l) (j : Nat) : w.frozen? ⟨g, j, none⟩ = false := by
  rcases h.2 with ⟨h', _⟩ | ⟨g', cap', cur, h', hb, hg, _⟩
  · simp at h'
  · simp only [Value.slice.injEq, Option.some.injEq, Addr.mk.injEq, and_true, true_and] at h'
    obtain ⟨rfl, rfl, rfl⟩ := h'
    simp [World.frozen?, hg]
/-- The bytes of a slice of the call's own, each raised by one. -/
def RaiseRel (wc : World) (base n : Nat) (v : Value) (i : Value) (wp : World) : Prop := ∃ (k : Nat) (l : List Int), k ≤ n ∧ i = .int .i64 k ∧ l.length = n ∧ OwnB wp base v l ∧ Only v.ownBlock.toList wc wp
theorem and_hid4 {w w' : World} {q : Nat} {a b c d : Value} (h : Hid (Only [] w w')) (hq : q < w.heap.size) (h0 : w.cell? ⟨q, 0, none⟩ = some a) (h1 : w.cell? ⟨q, 1, none⟩ = some b) (h2 : w.cell? ⟨q, 2, none⟩ = some c) (h3 : w.cell? ⟨q, 3, none⟩ = some d) :
    w'.cell? ⟨q, 0, none⟩ = some a ∧ w'.cell? ⟨q, 1, none⟩ = some b ∧ w'.cell? ⟨q, 2, none⟩ = some c ∧ w'.cell? ⟨q, 3, none⟩ = some d ∧ Hid (Only [] w w') :=
  ⟨cellL h.out hq (by simp) h0, cellL h.out hq (by simp) h1, cellL h.out hq (by simp) h2, cellL h.out hq (by simp) h3, h⟩

set_option maxRecDepth 100000 in
set_option maxHeartbeats 6400000 in
theorem octetWrites_walk (A : Option Addr) (fs : List FD) (c : Nat) (m : Int) (w : World) (hm : w.cell? ⟨0, 0, none⟩ = some (.int .i64 m)) (h : RdF w A fs) (hlc : fs.length ≤ c) (hcm : c ≤ maxLen) (hfit : ∀ f ∈ fs, Fits f) :
    Calls Tryd.prog 5 #[.slice A fs.length c] w fun e w' => e = .returned (.bool true) ∧ Below w.heap.size w w' := by
  unfold maxLen at hcm
  have AL := alive01 w m hm
  have GR := fun (w1 : World) (O : Only [] w w1) => great_any A fs c w1 (h.only O) (by unfold maxLen; omega)
  obtain ⟨n, hn⟩ : ∃ n, n = fs.length := ⟨_, rfl⟩
  rw [← hn] at hlc GR ⊢
  replace hn := hide hn
  replace GR := hide GR
  replace hfit := hide hfit
  go_enter Tryd.func5, Tryd.ntmps5
  go_wp2_with fail
  go_call AL as e w1 ⟨rfl, O1⟩
  clear AL
  have G1 := GR.out w1 O1
  go_wp2_with fail
  go_call G1 as e w2 ⟨P2, b, rfl, hb⟩
  clear G1 GR
  have O2 := O1.trans P2 (by simp)
  cases b with
  | true =>
    clear hb
    go_wp2_with fail
    go_ret
    exact ⟨rfl, O2.below (Nat.le_refl _) (by simp)⟩
  | false =>
    have n100 : n ≤ 100 := (hb rfl).1
    have CP := copy_any A fs c w2 (h.only O2) (by have := hn.out; omega) hfit.out
    rw [← hn.out] at CP
    obtain ⟨res, hres⟩ : ∃ res, writeP (fs.map FD.pf) = res := ⟨_, rfl⟩
    have hrl : res.2.length ≤ 33792 := by rw [← hres]; exact writeP_len
    clear hb
    go_wp2_with fail
    go_call CP as e w3 ⟨P3, A', cap, gs, rfl, hgs, RG, MG⟩
    have O3 := O2.trans P3 (by simp)
    have hgl : gs.length = n := by
      have := congrArg List.length hgs
      rw [List.length_map, List.length_map] at this
      rw [this, hn.out]
    have WR := write_any w3 A' gs cap RG (by omega)
    rw [hgl, hgs, hres] at WR
    have RW := fun (w4 : World) (P : Only [] w w4) => refWrite_any w4 A fs c (h.only P) (by have := hn.out; omega)
    rw [hres, ← hn.out] at RW
    obtain ⟨E, bs⟩ := res
    dsimp only at hrl
    replace hgs := hide hgs
    replace hgl := hide hgl
    replace hres := hide hres
    replace RW := hide RW
    clear CP MG
    go_wp2_with fail
    go_call WR as e w4 ⟨P4, v1, rfl, V1⟩
    have hvb := V1.block
    obtain ⟨A1, k1, rfl, R1, q1, m1, a1⟩ := V1.rd
    have O4 := O3.trans P4 (by simp)
    have RW4 := RW.out w4 O4
    clear WR RW
    go_wp2_with fail
    go_call RW4 as e w5 ⟨P5, v2, rfl, V2⟩
    obtain ⟨A2, k2, rfl, R2, q2, m2, a2⟩ := V2.rd
    have O5 := O4.trans P5 (by simp)
    have BT := bytes_any w5 A1 A2 bs bs k1 k2 (R1.only P5) R2 (by unfold maxLen; omega) (by unfold maxLen; omega)
    rw [show eqB bs bs = true by simp [eqB]] at BT
    have hEE : (E != E) = false := by simp
    obtain ⟨nb, hnb⟩ : ∃ nb, bs.length = nb := ⟨_, rfl⟩
    rw [hnb] at hrl BT hvb ⊢
    dsimp only
    clear RW4 V2
    go_wp2_with fail
    go_call BT as e w6 ⟨rfl, P6⟩
    clear BT
    have O6 := O5.trans P6 (by simp)
    have Q6 : Only [] w3 w6 := (P4.trans P5 (by simp)).trans P6 (by simp)
    have SM := fun (w' : World) (P : Only [] w w') (Q : Only [] w3 w') => same_true A' A gs fs cap c w' (RG.only Q) (h.only P) (by have := hgl.out; unfold maxLen; omega) hgs.out
    rw [hgl.out, ← hn.out] at SM
    replace SM := hide SM
    go_wp2_with fail
    go_call (SM.out w6 O6 Q6) as e w7 ⟨rfl, D7⟩
    have O7 := O6.trans D7.only (by simp)
    have Q7 : Only [] w3 w7 := Q6.trans D7.only (by simp)
    have V7 : OwnB w7 w3.heap.size (.slice A1 bs.length k1) bs := V1.far ((P5.trans P6 (by simp)).trans D7.only (by simp)) (fun x hx => by simp at hx)
    rw [hnb] at V7
    clear V1 R1 R2 a1 a2
    go_wp2_with fail
    go_loopw [44] (fun i wr => ∃ k : Nat, k ≤ n ∧ i = .int .i64 k ∧ Only [] w7 wr) (fun i _ => n - (intOf i).toNat)
    case atStart => exact ⟨0, by omega, rfl, Only.refl _ _⟩
    case round =>
      obtain ⟨wo, rfl⟩ : ∃ wo : World, wo = wr := ⟨_, rfl⟩
      obtain ⟨k, hkn, rfl, O⟩ := hrel
      by_cases hlt : k < n
      · obtain ⟨f, hf⟩ : ∃ f, fs[k]? = some f := ⟨_, List.getElem?_eq_getElem (by have := hn.out; omega)⟩
        obtain ⟨b, off, rfl, hb, hc⟩ := ((h.only O7).only O).cells (by have := hn.out; omega)
        obtain ⟨c0, c1, c2, c3⟩ := hc k f hf
        have okf := ((h.only O7).only O).ok f (List.mem_of_getElem? hf)
        obtain ⟨wa, hwa⟩ : ∃ wa, wa = wo.alloc (.cells #[.int .i64 f.kind, .int .u32 f.n, .slice f.tA f.text.length f.tc, .slice f.lA f.list.length f.lc] 35) := ⟨_, rfl⟩
        have Xa : Only [] wo wa := by rw [hwa]; exact (Only.refl _ _).alloc _
        have Ka : Blk wa wo.heap.size 35 [.int .i64 f.kind, .int .u32 f.n, .slice f.tA f.text.length f.tc, .slice f.lA f.list.length f.lc] := by rw [hwa]; exact Blk.new wo _ _
        have hS1 : ∀ w', Hid (Only [] wa w') → Calls Tryd.prog 20 #[f.val] w' fun e w'' => e = .returned (.int .i64 (sizeP f.pf)) ∧ Only [] w' w'' := fun w' O => size_any f w' ((okf.1.only Xa).only O.out) okf.2
        have hS2 : ∀ w', Hid (Only [] wa w') → Calls Tryd.prog 21 #[f.val] w' fun e w'' => e = .returned (.int .i64 (sizeP f.pf)) ∧ Only [] w' w'' := fun w' O => refSize_any f w' ((okf.1.only Xa).only O.out) okf.2
        obtain ⟨S, hS⟩ : ∃ S, sizeP f.pf = S := ⟨_, rfl⟩
        rw [hS] at hS1 hS2
        have hSS : (S != S) = false := by simp
        unfold FD.val at hS1 hS2
        have d0 : wa.cell? ⟨wo.heap.size, 0, none⟩ = some (.int .i64 f.kind) := Ka.cell 0
        have d1 : wa.cell? ⟨wo.heap.size, 1, none⟩ = some (.int .u32 f.n) := Ka.cell 1
        have d2 : wa.cell? ⟨wo.heap.size, 2, none⟩ = some (.slice f.tA f.text.length f.tc) := Ka.cell 2
        have d3 : wa.cell? ⟨wo.heap.size, 3, none⟩ = some (.slice f.lA f.list.length f.lc) := Ka.cell 3
        have hlta := Ka.lt
        have hO0 : Hid (Only [] wa wa) := hide (Only.refl _ _)
        replace hS1 := hide hS1
        replace hS2 := hide hS2
        replace hS := hide hS
        replace okf := hide okf
        replace hf := hide hf
        clear hc
        go_wp2_with fail
        rw [← hwa]
        replace hwa := hide hwa
        go_region_held3 (fun w' => w'.cell? ⟨wo.heap.size, 0, none⟩ = some (.int .i64 f.kind) ∧ w'.cell? ⟨wo.heap.size, 1, none⟩ = some (.int .u32 f.n) ∧ w'.cell? ⟨wo.heap.size, 2, none⟩ = some (.slice f.tA f.text.length f.tc) ∧ w'.cell? ⟨wo.heap.size, 3, none⟩ = some (.slice f.lA f.list.length f.lc) ∧ Hid (Only [] wa w'))
          ((try go_split_ands
            (refine and_hid4 ?_ hlta d0 d1 d2 d3
             first | (with_reducible assumption) | (exact hide (Only.trans (unhide (by assumption)) P9 (by simp))) | (exact hide (Only.drew (unhide (by assumption)))))))
          (first | (go_at_call 20; (try go_split_ands); go_call (hS1.out _ (by assumption)) as e w9 ⟨rfl, P9⟩) | (go_at_call 21; (try go_split_ands); go_call (hS2.out _ (by assumption)) as e w9 ⟨rfl, P9⟩))
        all_goals (
          (try go_split_ands)
          have PX : Hid (Only [] wa w9) := by assumption
          go_wp2_with fail
          go_roundw
          case rel => exact ⟨k + 1, by omega, by go_num, (O.trans Xa (by simp)).trans PX.out (by simp)⟩
          case measure => simp [intOf]; omega)
      · obtain rfl : k = n := by omega
        have V8 : OwnB wo w3.heap.size (.slice A1 nb k1) bs := V7.far O (fun x hx => by simp at hx)
        have z3 := Q7.size
        have zo := O.size
        have hnb9 : nb ≤ 9223372036854775807 := by omega
        clear V7
        go_wp2_with fail
        go_loopw [56] (fun i wp => RaiseRel wo w3.heap.size nb (.slice A1 nb k1) i wp) (fun i _ => nb - (intOf i).toNat)
        case atStart => exact ⟨0, _, Nat.zero_le _, rfl, hnb, V8, Only.refl _ _⟩
        case round =>
          obtain ⟨wp, rfl⟩ : ∃ wp : World, wp = wr := ⟨_, rfl⟩
          obtain ⟨kp, lp, hkp, rfl, hlp, Vp, Pp⟩ := hrel
          replace hlp := hide hlp
          by_cases hltp : kp < nb
          · obtain ⟨gg, cc, e', hg', hgl'⟩ := Vp.form (by rw [hlp.out]; omega)
            have e'' : A1 = some ⟨gg, 0, none⟩ := by injection e'
            subst e''
            clear e'
            obtain ⟨x', hx'⟩ : ∃ x, lp[kp]? = some x := ⟨_, List.getElem?_eq_getElem (by rw [hlp.out]; exact hltp)⟩
            have cx' : wp.cell? ⟨gg, kp, none⟩ = some (.int .u8 x') := by
              have := World.ownsRow.cells Vp (g := gg) rfl kp (.int .u8 x') (by rw [getElem?_u8s, hx']; rfl)
              simpa [Addr.add_lit] using this
            have fx' : wp.frozen? ⟨gg, kp, none⟩ = false := OwnB.frozenAt Vp kp
            replace hx' := hide hx'
            go_wp2
            go_roundw
            case rel => exact ⟨kp + 1, lp.set kp _, by omega, by go_num, by rw [List.length_set]; exact hlp.out, Vp.wrote kp (by rw [hlp.out]; exact hltp) _, Pp.setCell (p := ⟨gg, kp, none⟩) (.inl (by simp [Value.ownBlock])) _⟩
            case measure => simp [intOf]; omega
          · obtain rfl : kp = nb := by omega
            have Q8 : Only [] w3 wp := (Q7.trans O (by simp)).trans Pp (fun x hx => .inr (hvb x (by simpa using hx)).1)
            have O8 : Only [] w wp := O3.trans Q8 (by simp)
            go_wp2_with fail
            go_call (SM.out wp O8 Q8) as e w9 ⟨rfl, D9⟩
            go_wp2_with fail
            go_ret
            exact ⟨rfl, (O8.trans D9.only (by simp)).below (Nat.le_refl _) (by simp)⟩

theorem mlen {W : World} (h : W.ShapedOpen Tryd.prog) : ∃ m, W.cell? ⟨0, 0, none⟩ = some (.int .i64 m) :=
  cell_of_shapedOpen_int (t := 3) (zero := #[.int .i64 0]) h (of_decide_eq_true (by kernel_rfl)) (by kernel_rfl) rfl (by kernel_rfl) (by kernel_rfl) Tryd.underlying3

set_option maxRecDepth 100000 in
theorem octetWrites_law : LawWalkC Tryd.prog 5 Tryd.f5 := by
  intro H enc W base args ds ps hval hA hsz hshape
  rw [Tryd.params5] at hA hval hsz
  obtain ⟨m, hm⟩ := mlen hshape
  obtain ⟨v0, d0, rfl, rfl, h0⟩ := trodAll_one hA
  obtain ⟨A, fs, c, rfl, hlc, hcm, hR, _, hfit⟩ := openF (hval 0 25 v0 rfl rfl) h0 (light_arg (j := 0) hsz rfl rfl)
  exact octetWrites_walk A fs c m W hm hR hlc hcm hfit

set_option maxRecDepth 100000 in
theorem octetWrites_row : Rows.OctetWritesSaid :=
  OpenClaim.holds_of_wide 5 Tryd.f5 rfl rfl rfl rfl rfl rfl rfl ⟨rfl, rfl, rfl, rfl, rfl⟩ rfl rfl rfl rfl rfl (by kernel_rfl) Tryd.func5 (by kernel_rfl)
    (of_decide_eq_true (by kernel_rfl)) (by unfold Func.isWrapper; rw [if_neg (by decide +kernel)]; exact ⟨rfl, rfl⟩)
    (fun os started H enc _ => law_liftedC own laidOut Tryd.underlying4 5 Tryd.f5 Rows.octetWritesSpec Tryd.func5 (by kernel_rfl) (by kernel_rfl) (by kernel_rfl) rfl
      (fun H ds hl => by
        have hl : ds.length = 1 := hl
        match ds, hl with
        | [d1], _ => rfl)
      (fun w => laidMetH Tryd.prog Rows.octetWritesRow.laid w)
      octetWrites_law os started H enc
      (ChangeSpec.witness_shaped (enc := enc) (C := Tryd.checked) (os := os) (X := fun w _ => laidMetH Tryd.prog Rows.octetWritesRow.laid w) false (World.laidAll Tryd.prog os Rows.octetWritesRow.laid) #[.slice none 0 0] 8 (World.laidAll_os _ _ _)
        (World.shaped_of_ZipB (by kernel_rfl) (by kernel_rfl)) (by kernel_rfl) (by kernel_rfl) (by kernel_rfl)
        (by rw [MakeChecks.laidMetH_plain _ _ _ (by kernel_rfl)]; exact laidMet_laidAll _ (by kernel_rfl) (by kernel_rfl))))

/-- The tied card. -/
theorem octetWrites_holds : Rows.OctetWritesCardSaid :=
  Claim7.holds_tied_plain_at .later [] [.data, .pinned] true (true, "9ca5a9288dacc4b7a82c1f30f08b8fed368f3e6485138822b6e4b460b2353955") false octetWrites_row (fun _ h => by cases h) (by kernel_rfl) (fun _ h => by cases h) octetWrites_row_tie rfl ⟨rfl, rfl⟩ (by kernel_rfl) rfl
    (fun f fn hf hfn => by
      obtain rfl : f = 5 := Option.some.inj ((show Tryd.prog.funcNamed "parlour/parlourlaw01.OctetWrites" = some 5 by kernel_rfl).symm.trans hf) |>.symm
      obtain rfl : fn = Tryd.f5 := (Option.some.inj (Tryd.func5.symm.trans hfn)).symm
      exact ⟨by kernel_rfl, fun j t ht => by
        rw [Tryd.params5] at ht
        have hm : t ∈ [25] := by simpa using Array.mem_of_getElem? ht
        have hall : ([25].all fun u => !Tryd.prog.wantsStandIn u) = true := by kernel_rfl
        exact (show Tryd.prog.wantsStandIn t = false by simpa using List.all_eq_true.1 hall t hm)⟩)
    (by kernel_rfl)
#print axioms octetWrites_holds
end Go.Proofs.YtdmjabfjkkjhbaaDoor

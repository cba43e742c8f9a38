/- The law OctetBack holds: for all fields; no condition. -/
import Derived.Test.YtdmjabfjkkjhbaaDoorOctV
import Derived.Test.YtdmjabfjkkjhbaaDoorOctX
import Derived.Test.YtdmjabfjkkjhbaaDoorRefH
import Derived.Test.YtdmjabfjkkjhbaaDoorRefI
import Derived.Test.YtdmjabfjkkjhbaaDoorRefK
import Derived.Test.YtdmjabfjkkjhbaaDoorAppI
import Derived.Test.YtdmjabfjkkjhbaaDoorFrameC
import Derived.Test.YtdmjabfjkkjhbaaDoorOpenF
import Derived.Test.YtdmjabfjkkjhbaaDoorTie
import Derived.Test.YtdmjabfjkkjhbaaDoorCards
namespace Go.Proofs.YtdmjabfjkkjhbaaDoor
set_option linter.all false
open Go.ChangeShapes Go.WideShapes Go.ChangeAt Go.RowKit Go.Deep

theorem inB_flat {ps : List PF} (h : ∀ p ∈ ps, InB p.text) : InB (ps.flatMap bytesP) := by
  intro x hx
  obtain ⟨p, hp, hx⟩ := List.mem_flatMap.1 hx
  exact bytesP_range (h p hp) x hx
theorem rdF_pf {w : World} {base n cap : Nat} {A : Option Addr} {fs : List FD} {ps : List PF} (h : OwnF w base (.slice A n cap) fs) (hok : ∀ f ∈ fs, f.ok w) (hp : fs.map FD.pf = ps) (hn : ∀ p ∈ ps, 0 ≤ p.n ∧ p.n ≤ 4294967295) : RdF w A fs :=
  h.rdF (fun f hf => ⟨hok f hf, hn f.pf (by rw [← hp]; exact List.mem_map_of_mem hf)⟩)
theorem ownP_n {p : PF} (h : 0 ≤ p.n ∧ p.n ≤ 4294967295) : 0 ≤ (ownP p).n ∧ (ownP p).n ≤ 4294967295 := by
  unfold ownP
  dsimp only
  split
  · exact ⟨Int.le_refl 0, show (0 : Int) ≤ 4294967295 by decide⟩
  · exact h

set_option maxRecDepth 100000 in
set_option maxHeartbeats 6400000 in
theorem octetBack_walk (A : Option Addr) (fs : List FD) (c : Nat) (m : Int) (w : World) (hm : w.cell? ⟨0, 0, none⟩ = some (.int .i64 m)) (h : RdF w A fs) (hlc : fs.length ≤ c) (hcm : c ≤ maxLen) (hb8 : ∀ f ∈ fs, ∀ x ∈ f.text, 0 ≤ x ∧ x < 256) (hfit : ∀ f ∈ fs, Fits f) :
    Calls Tryd.prog 6 #[.slice A fs.length c] w fun e w' => e = .returned (.bool true) ∧ Below w.heap.size w w' := by
  unfold maxLen at hcm
  have AL := alive01 w m hm
  have h0 : 0 < w.heap.size := Nat.pos_of_ne_zero (fun e => by
    have := block_lt_of_cell hm
    simp only at this
    omega)
  have GR := fun (w1 : World) (O : Only [] w w1) => great_any A fs c w1 (h.only O) (by unfold maxLen; omega)
  have hpn : ∀ p ∈ fs.map FD.pf, 0 ≤ p.n ∧ p.n ≤ 4294967295 := fun p hp => by
    obtain ⟨f, hf, rfl⟩ := List.mem_map.1 hp
    exact (h.ok f hf).2
  have hpb : ∀ p ∈ fs.map FD.pf, InB p.text := fun p hp => by
    obtain ⟨f, hf, rfl⟩ := List.mem_map.1 hp
    exact hb8 f hf
  obtain ⟨n, hn⟩ : ∃ n, n = fs.length := ⟨_, rfl⟩
  rw [← hn] at hlc GR ⊢
  replace hn := hide hn
  replace GR := hide GR
  replace hfit := hide hfit
  replace hpn := hide hpn
  replace hpb := hide hpb
  clear hb8
  go_enter Tryd.func6, Tryd.ntmps6
  go_wp2_with fail
  go_call AL as e w1 ⟨rfl, O1⟩
  clear AL
  have G1 := GR.out w1 O1
  go_wp2_with fail
  go_call G1 as e w2 ⟨P2, b, rfl, hb⟩
  clear G1 GR
  have O2 := O1.trans P2 (by simp)
  cases b with
  | true =>
    clear hb
    go_wp2_with fail
    go_ret
    exact ⟨rfl, O2.below (Nat.le_refl _) (by simp)⟩
  | false =>
    have hb := (hb rfl).1
    have n100 : n ≤ 100 := hb
    have W1 := write_any w2 A fs c (h.only O2) (by have := hn.out; omega)
    rw [← hn.out] at W1
    by_cases hok : OkP (fs.map FD.pf)
    · rw [writeP_ok hok] at W1
      obtain ⟨ps, hps⟩ : ∃ ps, fs.map FD.pf = ps := ⟨_, rfl⟩
      rw [hps] at W1 hok
      have hps0 := hps
      rw [hps] at hpn hpb
      obtain ⟨bs, hbs⟩ : ∃ bs, ps.flatMap bytesP = bs := ⟨_, rfl⟩
      have hbl : bs.length ≤ 33792 := by rw [← hbs]; exact hok.2.2
      have back := back_law ps hok hpn.out
      have hrange : InB bs := by rw [← hbs]; exact inB_flat hpb.out
      rw [hbs] at W1 back
      have hpk : ∀ p ∈ ps, 1 ≤ p.kind ∧ p.kind ≤ 6 ∧ faultP p = 0 := fun p hp => by
        have := rowOk_range hok.1 p.kind (List.mem_map_of_mem hp)
        exact ⟨this.1, this.2, hok.2.1 p hp⟩
      replace hps := hide hps
      replace hps0 := hide hps0
      replace hbs := hide hbs
      replace back := hide back
      replace hrange := hide hrange
      replace hpk := hide hpk
      replace hok := hide hok
      go_wp2_with fail
      go_call W1 as e w3 ⟨P3, v1, rfl, V1⟩
      have hvb := V1.block
      obtain ⟨A1, k1, rfl, R1, q1, m1, a1⟩ := V1.rd
      have O3 := O2.trans P3 (by simp)
      have z3 := O3.size
      clear W1 V1
      go_wp2_with fail
      go_loopw [27, 5, 6] (fun i o s wr => ∃ (k : Nat) (v : Value), k ≤ n ∧ i = .int .i64 k ∧ v = o ∧ OwnI wr w3.heap.size v ((ps.take k).map (·.kind)) ∧ s = .int .i64 ((ps.take k).flatMap bytesP).length ∧ Only [] w3 wr) (fun i _ _ _ => n - (intOf i).toNat)
      case atStart => exact ⟨0, _, by omega, rfl, rfl, ownI_nil _ _, rfl, Only.refl _ _⟩
      case round =>
        obtain ⟨wo, rfl⟩ : ∃ wo : World, wo = wr := ⟨_, rfl⟩
        obtain ⟨k, v, hkn, rfl, rfl, V, rfl, O⟩ := hrel
        have hpl : ps.length = n := by rw [← hps.out, List.length_map, hn.out]
        have hob := V.block
        have z0 := O.size
        by_cases hlt : k < n
        · obtain ⟨f, hf⟩ : ∃ f, fs[k]? = some f := ⟨_, List.getElem?_eq_getElem (by have := hn.out; omega)⟩
          have hp : ps[k]? = some f.pf := by rw [← hps.out, List.getElem?_map, hf]; rfl
          obtain ⟨b, off, rfl, hb, hc⟩ := ((h.only O3).only O).cells (by have := hn.out; omega)
          obtain ⟨c0, c1, c2, c3⟩ := hc k f hf
          have okf := (h.only O3).ok f (List.mem_of_getElem? hf)
          obtain ⟨p1, p6, pf0⟩ := hpk.out f.pf (List.mem_of_getElem? hp)
          have hnext : ((ps.take (k + 1)).flatMap bytesP).length = ((ps.take k).flatMap bytesP).length + (bytesP f.pf).length := by
            rw [take_snocG hp, List.flatMap_append, List.length_append]
            simp
          have hT : ((ps.take (k + 1)).flatMap bytesP).length ≤ bs.length := by
            rw [← hbs.out]
            conv => rhs; rw [← List.take_append_drop (k + 1) ps]
            rw [List.flatMap_append, List.length_append]
            omega
          have hkk : (ps.take (k + 1)).map (·.kind) = (ps.take k).map (·.kind) ++ [f.kind] := by
            rw [take_snocG hp, List.map_append]
            rfl
          have hll : ((ps.take k).map (·.kind)).length = k := by rw [List.length_map, List.length_take]; omega
          have X5 : Only [] wo ((wo.alloc (.cells #[.int .i64 f.kind, .int .u32 f.n, .slice f.tA f.text.length f.tc, .slice f.lA f.list.length f.lc] 35)).alloc (.cells #[.int .i64 f.kind] 3)) := ((Only.refl _ _).alloc _).alloc _
          have R5 : RdI ((wo.alloc (.cells #[.int .i64 f.kind, .int .u32 f.n, .slice f.tA f.text.length f.tc, .slice f.lA f.list.length f.lc] 35)).alloc (.cells #[.int .i64 f.kind] 3)) (some ⟨wo.heap.size + 1, 0, none⟩) [f.kind] := by
            have := rdI_new (wo.alloc (.cells #[.int .i64 f.kind, .int .u32 f.n, .slice f.tA f.text.length f.tc, .slice f.lA f.list.length f.lc] 35)) #[.int .i64 f.kind] [f.kind] rfl
            rw [show (wo.alloc (.cells #[.int .i64 f.kind, .int .u32 f.n, .slice f.tA f.text.length f.tc, .slice f.lA f.list.length f.lc] 35)).heap.size = wo.heap.size + 1 by simp] at this
            exact this
          have V5 : OwnI ((wo.alloc (.cells #[.int .i64 f.kind, .int .u32 f.n, .slice f.tA f.text.length f.tc, .slice f.lA f.list.length f.lc] 35)).alloc (.cells #[.int .i64 f.kind] 3)) w3.heap.size v ((ps.take k).map (·.kind)) := V.far X5 (fun x hx => by simp at hx)
          have K5 := (Blk.new wo 35 [.int .i64 f.kind, .int .u32 f.n, .slice f.tA f.text.length f.tc, .slice f.lA f.list.length f.lc]).alloc (.cells #[.int .i64 f.kind] 3)
          have SZ := fun (w6 : World) (P : Only [] w3 w6) => size_any f w6 (okf.1.only P) okf.2
          rw [sizeP_ok (p := f.pf) p1 p6 pf0] at SZ
          obtain ⟨T, hTT⟩ : ∃ T, ((ps.take k).flatMap bytesP).length = T := ⟨_, rfl⟩
          obtain ⟨L, hL⟩ : ∃ L, (bytesP f.pf).length = L := ⟨_, rfl⟩
          rw [hTT, hL] at hnext
          rw [hnext] at hT
          rw [hL] at SZ
          rw [hTT]
          unfold FD.val at SZ
          replace SZ := hide SZ
          replace hnext := hide hnext
          replace hTT := hide hTT
          replace hL := hide hL
          replace hf := hide hf
          replace hp := hide hp
          replace hkk := hide hkk
          replace hll := hide hll
          replace hpl := hide hpl
          clear hc okf p1 p6 pf0
          go_wp2_with (at_builtin; go_must (refine wpList_appI rfl (.tmp 31) (.tmp 34) rfl w3.heap.size v ((ps.take k).map (·.kind)) rfl V5 (some ⟨wo.heap.size + 1, 0, none⟩) 1 [f.kind] _ rfl rfl R5 (by have := hll.out; rw [this]; simp; omega) (by simp; omega) ?_; intro v9 w9 V9 P9; have X9 : Only [] w3 w9 := (O.trans X5 (by simp)).trans P9 (fun x hx => .inr (hob x (by simpa using hx)).1); have K9 := K5.only P9 (fun hx => by have := hob _ (by simpa using hx); omega); have t0 : w9.cell? ⟨wo.heap.size, 0, none⟩ = some (.int .i64 f.kind) := K9.cell 0; have t1 : w9.cell? ⟨wo.heap.size, 1, none⟩ = some (.int .u32 f.n) := K9.cell 1; have t2 : w9.cell? ⟨wo.heap.size, 2, none⟩ = some (.slice f.tA f.text.length f.tc) := K9.cell 2; have t3 : w9.cell? ⟨wo.heap.size, 3, none⟩ = some (.slice f.lA f.list.length f.lc) := K9.cell 3))
          go_call (SZ.out w9 X9) as e w10 ⟨rfl, P10⟩
          have hwr : (T : Int) + (L : Int) ≤ 33792 := by omega
          go_wp2_with fail
          go_roundw
          case rel =>
            refine ⟨k + 1, _, by omega, by go_num, rfl, ?_, by rw [hnext.out]; go_num, X9.trans P10 (by simp)⟩
            rw [hkk.out]
            exact OwnI.far V9.out P10 (fun x hx => by simp at hx)
          case measure => simp [intOf]; omega
        · obtain rfl : k = n := by omega
          rw [List.take_of_length_le (by omega)] at V ⊢
          rw [hbs.out]
          obtain ⟨kA, kc, rfl, RK, _, _, _⟩ := V.rd
          have hkl : (ps.map (·.kind)).length = k := by rw [List.length_map]; exact hpl
          have m4 : wo.cell? ⟨0, 0, none⟩ = some (.int .i64 m) := cellL (O3.trans O (by simp)) h0 (by simp) hm
          have RD := read_any wo kA A1 (ps.map (·.kind)) bs kc k1 m m4 RK (R1.only O) hrange.out (by omega) (by omega) q1 m1 (fun a ha => by
            have := (hvb a.block (by rw [ha]; rfl)).2
            omega)
          rw [back.out, hkl] at RD
          rw [hkl]
          replace hkl := hide hkl
          replace hpl := hide hpl
          clear V RK
          go_wp2_with fail
          go_call RD as e w5 ⟨P5, A5, k5, gs, rfl, hgs, V5, M5⟩
          have O5 := O.trans P5 (by simp)
          have OW := own_any A fs c w5 ((h.only O3).only O5) (by have := hn.out; omega) hfit.out
          rw [← hn.out, hps.out] at OW
          have hgl : gs.length = k := by
            have := congrArg List.length hgs
            rw [List.length_map, List.length_map] at this
            rw [this]; exact hpl.out
          have RG := rdF_pf V5 (fun f hf => (M5 f hf).1.ok) hgs (fun p hp => by
            obtain ⟨p', hp', rfl⟩ := List.mem_map.1 hp
            exact ownP_n (hpn.out p' hp'))
          rw [hgl]
          replace hgs := hide hgs
          replace hgl := hide hgl
          clear RD V5 M5
          go_wp2_with fail
          go_call OW as e w6 ⟨P6, A6, k6, os, rfl, hos, RO⟩
          have hol : os.length = k := by
            have := congrArg List.length hos
            rw [List.length_map, List.length_map] at this
            rw [this]; exact hpl.out
          have SM := same_true A5 A6 gs os k5 k6 w6 (RG.only P6) RO (by have := hgl.out; unfold maxLen; omega) (by rw [hgs.out, hos])
          rw [hgl.out, hol] at SM
          replace hol := hide hol
          replace hos := hide hos
          clear OW
          go_wp2_with fail
          go_call SM as e w7 ⟨rfl, D7⟩
          go_wp2_with fail
          go_ret
          exact ⟨rfl, (((O3.trans O5 (by simp)).trans P6 (by simp)).trans D7.only (by simp)).below (Nat.le_refl _) (by simp)⟩
    · obtain ⟨e, he, hbad⟩ := writeP_bad hok
      rw [hbad] at W1
      have he1 : (e != 0) = true := by simpa using he
      clear hok hbad
      go_wp2_with fail
      go_call W1 as e' w3 ⟨P3, v1, rfl, V1⟩
      obtain ⟨A1, k1, rfl, R1, q1, m1, a1⟩ := V1.rd
      have O3 := O2.trans P3 (by simp)
      clear W1 V1
      go_wp2_with fail
      go_ret
      exact ⟨rfl, O3.below (Nat.le_refl _) (by simp)⟩

theorem mlen {W : World} (h : W.ShapedOpen Tryd.prog) : ∃ m, W.cell? ⟨0, 0, none⟩ = some (.int .i64 m) :=
  cell_of_shapedOpen_int (t := 3) (zero := #[.int .i64 0]) h (of_decide_eq_true (by kernel_rfl)) (by kernel_rfl) rfl (by kernel_rfl) (by kernel_rfl) Tryd.underlying3

set_option maxRecDepth 100000 in
theorem octetBack_law : LawWalkC Tryd.prog 6 Tryd.f6 := by
  intro H enc W base args ds ps hval hA hsz hshape
  rw [Tryd.params6] at hA hval hsz
  obtain ⟨m, hm⟩ := mlen hshape
  obtain ⟨v0, d0, rfl, rfl, h0⟩ := trodAll_one hA
  obtain ⟨A, fs, c, rfl, hlc, hcm, hR, hb8, hfit⟩ := openF (hval 0 25 v0 rfl rfl) h0 (light_arg (j := 0) hsz rfl rfl)
  exact octetBack_walk A fs c m W hm hR hlc hcm hb8 hfit

set_option maxRecDepth 100000 in
theorem octetBack_row : Rows.OctetBackSaid :=
  OpenClaim.holds_of_wide 6 Tryd.f6 rfl rfl rfl rfl rfl rfl rfl ⟨rfl, rfl, rfl, rfl, rfl⟩ rfl rfl rfl rfl rfl (by kernel_rfl) Tryd.func6 (by kernel_rfl)
    (of_decide_eq_true (by kernel_rfl)) (by unfold Func.isWrapper; rw [if_neg (by decide +kernel)]; exact ⟨rfl, rfl⟩)
    (fun os started H enc _ => law_liftedC own laidOut Tryd.underlying4 6 Tryd.f6 Rows.octetBackSpec Tryd.func6 (by kernel_rfl) (by kernel_rfl) (by kernel_rfl) rfl
      (fun H ds hl => by
        have hl : ds.length = 1 := hl
        match ds, hl with
        | [d1], _ => rfl)
      (fun w => laidMetH Tryd.prog Rows.octetBackRow.laid w)
      octetBack_law os started H enc
      (ChangeSpec.witness_shaped (enc := enc) (C := Tryd.checked) (os := os) (X := fun w _ => laidMetH Tryd.prog Rows.octetBackRow.laid w) false (World.laidAll Tryd.prog os Rows.octetBackRow.laid) #[.slice none 0 0] 8 (World.laidAll_os _ _ _)
        (World.shaped_of_ZipB (by kernel_rfl) (by kernel_rfl)) (by kernel_rfl) (by kernel_rfl) (by kernel_rfl)
        (by rw [MakeChecks.laidMetH_plain _ _ _ (by kernel_rfl)]; exact laidMet_laidAll _ (by kernel_rfl) (by kernel_rfl))))

/-- The tied card. -/
theorem octetBack_holds : Rows.OctetBackCardSaid :=
  Claim7.holds_tied_plain_at .later [] [.data, .pinned] true (true, "9ca5a9288dacc4b7a82c1f30f08b8fed368f3e6485138822b6e4b460b2353955") false octetBack_row (fun _ h => by cases h) (by kernel_rfl) (fun _ h => by cases h) octetBack_row_tie rfl ⟨rfl, rfl⟩ (by kernel_rfl) rfl
    (fun f fn hf hfn => by
      obtain rfl : f = 6 := Option.some.inj ((show Tryd.prog.funcNamed "parlour/parlourlaw01.OctetBack" = some 6 by kernel_rfl).symm.trans hf) |>.symm
      obtain rfl : fn = Tryd.f6 := (Option.some.inj (Tryd.func6.symm.trans hfn)).symm
      exact ⟨by kernel_rfl, fun j t ht => by
        rw [Tryd.params6] at ht
        have hm : t ∈ [25] := by simpa using Array.mem_of_getElem? ht
        have hall : ([25].all fun u => !Tryd.prog.wantsStandIn u) = true := by kernel_rfl
        exact (show Tryd.prog.wantsStandIn t = false by simpa using List.all_eq_true.1 hall t hm)⟩)
    (by kernel_rfl)
#print axioms octetBack_holds
end Go.Proofs.YtdmjabfjkkjhbaaDoor

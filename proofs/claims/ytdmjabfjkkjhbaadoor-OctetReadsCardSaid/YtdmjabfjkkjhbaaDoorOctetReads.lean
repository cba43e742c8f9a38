/- The law OctetReads holds: for all kinds and bytes; no condition. -/
import Derived.Test.YtdmjabfjkkjhbaaDoorOctV
import Derived.Test.YtdmjabfjkkjhbaaDoorOctX
import Derived.Test.YtdmjabfjkkjhbaaDoorRefI
import Derived.Test.YtdmjabfjkkjhbaaDoorRefS
import Derived.Test.YtdmjabfjkkjhbaaDoorAppI
import Derived.Test.YtdmjabfjkkjhbaaDoorFrameC
import Derived.Test.YtdmjabfjkkjhbaaDoorOpenF
import Derived.Test.YtdmjabfjkkjhbaaDoorTie
import Derived.Test.YtdmjabfjkkjhbaaDoorCards
namespace Go.Proofs.YtdmjabfjkkjhbaaDoor
set_option linter.all false
open Go.ChangeShapes Go.WideShapes Go.ChangeAt Go.RowKit Go.Deep

theorem rdF_pf {w : World} {base n cap : Nat} {A : Option Addr} {fs : List FD} {ps : List PF} (h : OwnF w base (.slice A n cap) fs) (hok : ∀ f ∈ fs, f.ok w) (hp : fs.map FD.pf = ps) (hn : ∀ p ∈ ps, 0 ≤ p.n ∧ p.n ≤ 4294967295) : RdF w A fs :=
  h.rdF (fun f hf => ⟨hok f hf, hn f.pf (by rw [← hp]; exact List.mem_map_of_mem hf)⟩)
theorem readP_n (ks l : List Int) (hl : InB l) : ∀ p ∈ (readP ks l).2, 0 ≤ p.n ∧ p.n ≤ 4294967295 := by
  intro p hp
  unfold readP at hp
  by_cases hr : rowOk ks = true
  · rw [if_pos hr] at hp
    rcases readFrom_again ks l [] (rowOk_range hr) hl with h | ⟨_, ps, h1, _, h3, _⟩
    · rw [h.2] at hp
      simp at hp
    · rw [h1, List.nil_append] at hp
      exact (h3 p hp).2
  · rw [if_neg hr] at hp
    simp at hp
/-- The blocks of the fields' texts. -/
def texts (fs : List FD) : List Nat := (fs.filter fun f => decide (0 < f.text.length)).filterMap fun f => f.tA.map (·.block)
theorem mem_texts {fs : List FD} {x : Nat} : x ∈ texts fs ↔ ∃ f ∈ fs, 0 < f.text.length ∧ ∃ a, f.tA = some a ∧ a.block = x := by
  unfold texts
  simp only [List.mem_filterMap, List.mem_filter, decide_eq_true_eq, Option.map_eq_some_iff]
  constructor
  · rintro ⟨f, ⟨h1, h2⟩, a, h3, h4⟩; exact ⟨f, h1, h2, a, h3, h4⟩
  · rintro ⟨f, h1, h2, a, h3, h4⟩; exact ⟨f, ⟨h1, h2⟩, a, h3, h4⟩
/-- The texts' bytes are there, and can be written. -/
def Soft (fs : List FD) (w : World) : Prop := ∀ f ∈ fs, ∀ b off, f.tA = some ⟨b, off, none⟩ → ∀ i, i < f.text.length → (∃ x, w.cell? ⟨b, off + i, none⟩ = some (.int .u8 x)) ∧ w.frozen? ⟨b, off + i, none⟩ = false
theorem Soft.set {fs : List FD} {w : World} (h : Soft fs w) (p : Addr) (x : Int) : Soft fs (w.setCell p (.int .u8 x)) := fun f hf b off ha i hi => by
  obtain ⟨h1, h2⟩ := h f hf b off ha i hi
  exact ⟨someInt_setCell h1 p x, by rw [World.frozen?_setCell]; exact h2⟩
theorem Soft.drewN {fs : List FD} {w : World} (h : Soft fs w) (n : Nat) : Soft fs (w.drewN n) := fun f hf b off ha i hi => h f hf b off ha i hi
theorem Soft.drew {fs : List FD} {w : World} (h : Soft fs w) : Soft fs w.drew := fun f hf b off ha i hi => h f hf b off ha i hi
theorem soft_of {fs : List FD} {w : World} {B : Nat} (h : ∀ f ∈ fs, FD.mine w f B) : Soft fs w := fun f hf b off ha i hi => by
  obtain ⟨b', off', e, hlt, hc⟩ := (h f hf).ok.text (by omega)
  rw [ha] at e
  injection e with e
  injection e with e1 e2 _
  subst e1; subst e2
  refine ⟨⟨_, hc i _ (List.getElem?_eq_getElem hi)⟩, ?_⟩
  have := (h f hf).soft _ ha i hi
  rw [Addr.add_lit] at this
  exact this

set_option maxRecDepth 100000 in
set_option maxHeartbeats 6400000 in
theorem octetReads_walk (kA lA : Option Addr) (ks l : List Int) (kc lc : Nat) (m : Int) (w : World) (hm : w.cell? ⟨0, 0, none⟩ = some (.int .i64 m)) (hk : RdI w kA ks) (hkc : ks.length ≤ maxLen) (h : Rd w lA l) (hl : ∀ x ∈ l, 0 ≤ x ∧ x < 256)
    (hlc : l.length ≤ lc) (hlm : lc ≤ maxLen) :
    Calls Tryd.prog 3 #[.slice kA ks.length kc, .slice lA l.length lc] w fun e w' => e = .returned (.bool true) ∧ Below w.heap.size w w' := by
  unfold maxLen at hkc
  have hlm2 := hlm
  unfold maxLen at hlm2
  have AL := alive01 w m hm
  have h0 : 0 < w.heap.size := Nat.pos_of_ne_zero (fun e => by
    have := block_lt_of_cell hm
    simp only at this
    omega)
  obtain ⟨n, hn⟩ : ∃ n, n = ks.length := ⟨_, rfl⟩
  obtain ⟨ln, hln⟩ : ∃ ln, ln = l.length := ⟨_, rfl⟩
  rw [← hn] at hkc ⊢
  rw [← hln] at hlc ⊢
  replace hn := hide hn
  replace hln := hide hln
  go_enter Tryd.func3, Tryd.ntmps3
  go_wp2_with fail
  go_call AL as e w1 ⟨rfl, O1⟩
  clear AL
  by_cases hb1 : (100 : Int) < (n : Int)
  · go_wp2_with fail
    go_ret
    exact ⟨rfl, O1.below (Nat.le_refl _) (by simp)⟩
  by_cases hb2 : (100000 : Int) < (ln : Int)
  · go_wp2_with fail
    go_ret
    exact ⟨rfl, O1.below (Nat.le_refl _) (by simp)⟩
  have n1 : n ≤ 100 := by omega
  have n2 : ln ≤ 100000 := by omega
  have V6 : OwnB (w1.alloc (.cells #[] 5)) w1.heap.size (.slice (some ⟨w1.heap.size, 0, none⟩) 0 0) [] := ownB_lit w1 w1.heap.size [] (Nat.le_refl _) (by simp)
  have R6 : Rd (w1.alloc (.cells #[] 5)) lA l := h.only (O1.alloc _)
  go_wp2_with (at_builtin; first
    | (refine wpList_app3 rfl (.tmp 23) (.tmp 24) rfl w1.heap.size (.slice (some ⟨w1.heap.size, 0, none⟩) 0 0) [] rfl V6 lA lc l ln hln.out.symm rfl R6 (by have := hln.out; simp; omega) (by simp) ?_
       intro v8 w8 V8 P8 G8
       replace V8 := V8.out
       rw [List.nil_append] at V8
       have hvb := V8.block
       obtain ⟨A8, k8, rfl, R8, q8, m8, a8⟩ := V8.rd
       rw [← hln.out] at hvb q8 ⊢
       have X8 : Only [] w1 w8 := ((Only.refl [] w1).alloc _).trans P8 (fun x hx => .inr (by simp [Value.ownBlock] at hx; omega))
       have V10 : OwnI (w8.alloc (.cells #[] 3)) w8.heap.size (.slice (some ⟨w8.heap.size, 0, none⟩) 0 0) [] := ownI_new w8
       have S10 : RdI (w8.alloc (.cells #[] 3)) kA ks := hk.only ((O1.trans X8 (by simp)).alloc _))
    | (go_must (refine wpList_appI rfl (.tmp 26) (.tmp 27) rfl w8.heap.size (.slice (some ⟨w8.heap.size, 0, none⟩) 0 0) [] rfl V10 kA kc ks n hn.out.symm rfl S10 (by have := hn.out; simp; omega) (by simp) ?_
                intro v11 w11 V11 P11
                replace V11 := V11.out
                rw [List.nil_append] at V11
                obtain ⟨A11, k11, rfl, R11, q11, m11, a11⟩ := V11.rd
                rw [← hn.out])))
  have X11 : Only [] w8 w11 := ((Only.refl [] w8).alloc _).trans P11 (fun x hx => .inr (by simp [Value.ownBlock] at hx; omega))
  have O11 : Only [] w w11 := (O1.trans X8 (by simp)).trans X11 (by simp)
  have z11 := X11.size
  have R8' : Rd w11 A8 l := R8.only X11
  have m4 : w11.cell? ⟨0, 0, none⟩ = some (.int .i64 m) := cellL O11 h0 (by simp) hm
  have RD := read_any w11 A11 A8 ks l k11 k8 m m4 R11 R8' hl (by have := hn.out; omega) (by have := hln.out; omega) (by rw [← hln.out]; exact q8) m8 (fun a ha => by
    have := (hvb a.block (by rw [ha]; rfl)).2
    omega)
  have RR := fun (w' : World) (P : Only [] w w') => refRead_any w' kA lA ks l kc lc (hk.only P) (h.only P) hl (by have := hn.out; omega) (by have := hln.out; omega) (by rw [← hln.out]; exact hlc) hlm
  have hpn := readP_n ks l hl
  obtain ⟨res, hres⟩ : ∃ res, readP ks l = res := ⟨_, rfl⟩
  rw [hres] at RD hpn
  rw [hres, ← hn.out, ← hln.out] at RR
  rw [← hn.out, ← hln.out] at RD
  obtain ⟨E, ps⟩ := res
  dsimp only at hpn
  replace hpn := hide hpn
  replace RR := hide RR
  replace hres := hide hres
  clear V6 R6 V10 S10 V11 R11
  go_wp2_with fail
  go_call RD as e w12 ⟨P12, A3, k3, fs, rfl, hfs, V3, M3⟩
  have RR2 := RR.out w12 (O11.trans P12 (by simp))
  clear RD RR
  go_wp2_with fail
  go_call RR2 as e w13 ⟨P13, A4, k4, gs, rfl, hgs, V4, M4⟩
  have RF := (rdF_pf V3 (fun f hf => (M3 f hf).1.ok) hfs hpn.out).only P13
  have RG := rdF_pf V4 M4 hgs hpn.out
  have V3' : OwnF w13 w11.heap.size (.slice A3 fs.length k3) fs := V3.far P13 (fun x hx => by simp at hx)
  have M3' : ∀ f ∈ fs, FD.mine w13 f w11.heap.size := fun f hf => (M3 f hf).1.only P13
  have F3 : ∀ f ∈ fs, f.far w11.heap.size (.slice A3 fs.length k3) := fun f hf => (M3 f hf).2
  obtain ⟨_, _, e3, hk3, hm3, hform⟩ := V3'.form
  injection e3 with e3a _ e3c
  subst e3a; subst e3c
  have SM := same_true A3 A4 fs gs k3 k4 w13 RF RG (by omega) (by rw [show fs.map FD.pf = ps from hfs, show gs.map FD.pf = ps from hgs])
  have hEE : (E != E) = false := by simp
  dsimp only
  obtain ⟨N, hN⟩ : ∃ N, N = fs.length := ⟨_, rfl⟩
  rw [← hN] at SM hk3 ⊢
  replace hN := hide hN
  replace hfs := hide hfs
  replace hgs := hide hgs
  replace M3' := hide M3'
  replace F3 := hide F3
  replace hform := hide hform
  unfold maxLen at hm3
  clear RR2 V3 M3 V4 M4
  go_wp2_with fail
  go_call SM as e w14 ⟨rfl, D14⟩
  clear SM
  have O14 : Only [] w11 w14 := (P12.trans P13 (by simp)).trans D14.only (by simp)
  have S0 : Soft fs w14 := soft_of (fun f hf => (M3'.out f hf).only D14.only)
  go_wp2_with fail
  go_loopw [52] (fun i wr => ∃ k : Nat, k ≤ N ∧ i = .int .i64 k ∧ Soft fs wr ∧ Only (texts fs) w14 wr) (fun i _ => N - (intOf i).toNat)
  case atStart => exact ⟨0, by omega, rfl, S0, Only.refl _ _⟩
  case round =>
    obtain ⟨wo, rfl⟩ : ∃ wo : World, wo = wr := ⟨_, rfl⟩
    obtain ⟨k, hkN, rfl, SF, OT⟩ := hrel
    by_cases hlt : k < N
    · obtain ⟨f, hf⟩ : ∃ f, fs[k]? = some f := ⟨_, List.getElem?_eq_getElem (by have := hN.out; omega)⟩
      have hfm : f ∈ fs := List.mem_of_getElem? hf
      obtain ⟨rb, hA3, hrb1, hrb2, hcells⟩ := hform.out (by have := hN.out; omega)
      have hcell : w13.cell? ⟨rb, k * 4 + 2, none⟩ = some (.slice f.tA f.text.length f.tc) := hcells _ _ (fcells_at fs k f 2 hf (by decide))
      have hrbt : rb ∉ texts fs := fun hm => by
        obtain ⟨f', hf', h0', a, ha, e⟩ := mem_texts.1 hm
        have := ((F3.out f' hf').1 a ha h0').2
        rw [hA3, e] at this
        exact this rfl
      have hr14 : rb < w14.heap.size := Nat.lt_of_lt_of_le hrb2 D14.only.size
      have cr14 : w14.cell? ⟨rb, k * 4 + 2, none⟩ = some (.slice f.tA f.text.length f.tc) := cellL D14.only hrb2 (by simp) hcell
      have cr : wo.cell? ⟨rb, k * 4 + 2, none⟩ = some (.slice f.tA f.text.length f.tc) := cellL OT hr14 hrbt cr14
      have okf := (M3'.out f hfm).ok
      have t1 := okf.tle
      have t2 := okf.tmax
      unfold maxLen at t2
      obtain ⟨Lf, hLf⟩ : ∃ Lf, f.text.length = Lf := ⟨_, rfl⟩
      rw [hLf] at cr cr14 t1
      have htx := okf.text
      subst hA3
      replace hf := hide hf
      replace hLf := hide hLf
      replace okf := hide okf
      clear hcell hcells
      go_wp2_with fail
      go_loopw [61] (fun i wr => ∃ j : Nat, j ≤ Lf ∧ i = .int .i64 j ∧ Soft fs wr ∧ Only (texts fs) w14 wr) (fun i _ => Lf - (intOf i).toNat)
      case atStart => exact ⟨0, by omega, rfl, SF, OT⟩
      case round =>
        obtain ⟨wq, rfl⟩ : ∃ wq : World, wq = wr := ⟨_, rfl⟩
        obtain ⟨j, hj, rfl, SF2, OT2⟩ := hrel
        by_cases hlt2 : j < Lf
        · obtain ⟨b, off, hta, hbb, _⟩ := htx (by rw [hLf.out]; omega)
          obtain ⟨⟨x, cx⟩, fx⟩ := SF2 f hfm b off hta j (by rw [hLf.out]; exact hlt2)
          have cq : wq.cell? ⟨rb, k * 4 + 2, none⟩ = some (.slice f.tA Lf f.tc) := cellL OT2 hr14 hrbt cr14
          rw [hta] at cq
          have hbt : b ∈ texts fs := mem_texts.2 ⟨f, hfm, by rw [hLf.out]; omega, _, hta, rfl⟩
          have i0 : (j : Int) < (Lf : Int) := by omega
          have i1 : (0 : Int) ≤ (j : Int) := by omega
          have i2 : (k : Int) < (N : Int) := by omega
          have i3 : (0 : Int) ≤ (k : Int) := by omega
          replace hta := hide hta
          go_wp2_with fail
          go_region
          go_wp2_with fail
          go_roundw
          case rel => exact ⟨j + 1, by omega, by go_num, Soft.drew (SF2.set ⟨b, off + j, none⟩ _), (OT2.setCell (p := ⟨b, off + j, none⟩) (.inl hbt) _).drew⟩
          case measure => simp [intOf]; omega
        · obtain rfl : j = Lf := by omega
          go_wp2_with fail
          go_roundw
          case rel => exact ⟨k + 1, by omega, by go_num, SF2, OT2⟩
          case measure => simp [intOf]; omega
    · obtain rfl : k = N := by omega
      have O15 : Only [] w11 wo := O14.trans OT (fun x hx => .inr (by
        obtain ⟨f', hf', _, a, ha, e⟩ := mem_texts.1 hx
        have := (M3'.out f' hf').new.1 a ha
        omega))
      have BT := bytes_any wo A8 lA l l k8 lc (R8'.only O15) (h.only (O11.trans O15 (by simp))) (by have := hln.out; unfold maxLen; omega) (by have := hln.out; unfold maxLen; omega)
      rw [show eqB l l = true by simp [eqB], ← hln.out] at BT
      go_wp2_with fail
      go_call BT as e w16 ⟨rfl, P16⟩
      go_wp2_with fail
      go_ret
      exact ⟨rfl, ((O11.trans O15 (by simp)).trans P16 (by simp)).below (Nat.le_refl _) (by simp)⟩

theorem mlen {W : World} (h : W.ShapedOpen Tryd.prog) : ∃ m, W.cell? ⟨0, 0, none⟩ = some (.int .i64 m) :=
  cell_of_shapedOpen_int (t := 3) (zero := #[.int .i64 0]) h (of_decide_eq_true (by kernel_rfl)) (by kernel_rfl) rfl (by kernel_rfl) (by kernel_rfl) Tryd.underlying3

set_option maxRecDepth 100000 in
theorem octetReads_law : LawWalkC Tryd.prog 3 Tryd.f3 := by
  intro H enc W base args ds ps hval hA hsz hshape
  rw [Tryd.params3] at hA hval hsz
  obtain ⟨m, hm⟩ := mlen hshape
  obtain ⟨v0, v1, d0, d1, p0, p1, rfl, rfl, rfl, h0, h1⟩ := trodAll_two hA
  obtain ⟨kA, ks, kc, rfl, hkc, hkm, hk, _, _⟩ := open_sl Tryd.underlying22 Tryd.underlying3 (by kernel_rfl) (hval 0 22 v0 rfl rfl) h0
  obtain ⟨lA, l, lc, rfl, hlc, hlm, hl, hw, _⟩ := open_sl Tryd.underlying23 Tryd.underlying5 (by kernel_rfl) (hval 1 23 v1 rfl rfl) h1
  exact octetReads_walk kA lA ks l kc lc m W hm hk (Nat.le_trans hkc hkm) hl (fun x hx => by have := wf_u8 (hw x hx); omega) hlc hlm

set_option maxRecDepth 100000 in
theorem octetReads_row : Rows.OctetReadsSaid :=
  OpenClaim.holds_of_wide 3 Tryd.f3 rfl rfl rfl rfl rfl rfl rfl ⟨rfl, rfl, rfl, rfl, rfl⟩ rfl rfl rfl rfl rfl (by kernel_rfl) Tryd.func3 (by kernel_rfl)
    (of_decide_eq_true (by kernel_rfl)) (by unfold Func.isWrapper; rw [if_neg (by decide +kernel)]; exact ⟨rfl, rfl⟩)
    (fun os started H enc _ => law_liftedC own laidOut Tryd.underlying4 3 Tryd.f3 Rows.octetReadsSpec Tryd.func3 (by kernel_rfl) (by kernel_rfl) (by kernel_rfl) rfl
      (fun H ds hl => by
        have hl : ds.length = 2 := hl
        match ds, hl with
        | [d1, d2], _ => rfl)
      (fun w => laidMetH Tryd.prog Rows.octetReadsRow.laid w)
      octetReads_law os started H enc
      (ChangeSpec.witness_shaped (enc := enc) (C := Tryd.checked) (os := os) (X := fun w _ => laidMetH Tryd.prog Rows.octetReadsRow.laid w) false (World.laidAll Tryd.prog os Rows.octetReadsRow.laid) #[.slice none 0 0, .slice none 0 0] 8 (World.laidAll_os _ _ _)
        (World.shaped_of_ZipB (by kernel_rfl) (by kernel_rfl)) (by kernel_rfl) (by kernel_rfl) (by kernel_rfl)
        (by rw [MakeChecks.laidMetH_plain _ _ _ (by kernel_rfl)]; exact laidMet_laidAll _ (by kernel_rfl) (by kernel_rfl))))

/-- The tied card. -/
theorem octetReads_holds : Rows.OctetReadsCardSaid :=
  Claim7.holds_tied_plain_at .later [] [.data, .pinned] true (true, "9ca5a9288dacc4b7a82c1f30f08b8fed368f3e6485138822b6e4b460b2353955") false octetReads_row (fun _ h => by cases h) (by kernel_rfl) (fun _ h => by cases h) octetReads_row_tie rfl ⟨rfl, rfl⟩ (by kernel_rfl) rfl
    (fun f fn hf hfn => by
      obtain rfl : f = 3 := Option.some.inj ((show Tryd.prog.funcNamed "parlour/parlourlaw01.OctetReads" = some 3 by kernel_rfl).symm.trans hf) |>.symm
      obtain rfl : fn = Tryd.f3 := (Option.some.inj (Tryd.func3.symm.trans hfn)).symm
      exact ⟨by kernel_rfl, fun j t ht => by
        rw [Tryd.params3] at ht
        have hm : t ∈ [22, 23] := by simpa using Array.mem_of_getElem? ht
        have hall : ([22, 23].all fun u => !Tryd.prog.wantsStandIn u) = true := by kernel_rfl
        exact (show Tryd.prog.wantsStandIn t = false by simpa using List.all_eq_true.1 hall t hm)⟩)
    (by kernel_rfl)
#print axioms octetReads_holds
end Go.Proofs.YtdmjabfjkkjhbaaDoor

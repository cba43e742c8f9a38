/- The law OctetAgain holds: for all kinds and bytes; no condition. -/
import Derived.Test.YtdmjabfjkkjhbaaDoorOctV
import Derived.Test.YtdmjabfjkkjhbaaDoorOctX
import Derived.Test.YtdmjabfjkkjhbaaDoorOctW
import Derived.Test.YtdmjabfjkkjhbaaDoorQuiet
import Derived.Test.YtdmjabfjkkjhbaaDoorFrameC
import Derived.Test.YtdmjabfjkkjhbaaDoorOpenF
import Derived.Test.YtdmjabfjkkjhbaaDoorTie
import Derived.Test.YtdmjabfjkkjhbaaDoorCards
namespace Go.Proofs.YtdmjabfjkkjhbaaDoor
set_option linter.all false
open Go.ChangeShapes Go.WideShapes Go.ChangeAt Go.RowKit Go.Deep

/-- A slice's part, as the model gives it: where nothing is left, the place is the old one. -/
theorem part_of {w : World} {A : Option Addr} {l : List Int} (c T L : Nat) (h : Rd w A l) (hT : T + L ≤ l.length) (hc : l.length ≤ c) :
    ∃ A9 c9, ((c = T ∧ A9 = A ∧ c9 = 0) ∨ (¬ c = T ∧ A9 = (A.map fun x => x.add T) ∧ c9 = c - T)) ∧ Rd w A9 ((l.drop T).take L) := by
  by_cases hck : c = T
  · refine ⟨A, 0, .inl ⟨hck, rfl, rfl⟩, ?_⟩
    obtain rfl : L = 0 := by omega
    rw [List.take_zero]
    exact RdG.nil (mk := .int .u8)
  · exact ⟨_, _, .inr ⟨hck, rfl, rfl⟩, RdG.take (mk := .int .u8) (RdG.drop (mk := .int .u8) h T) L⟩
theorem and_hid2 {w w' : World} {q i q' i' : Nat} {v v' : Value} (h : Hid (Only [] w w')) (hq : q < w.heap.size) (hc : w.cell? ⟨q, i, none⟩ = some v) (hq' : q' < w.heap.size) (hc' : w.cell? ⟨q', i', none⟩ = some v') : w'.cell? ⟨q, i, none⟩ = some v ∧ w'.cell? ⟨q', i', none⟩ = some v' ∧ Hid (Only [] w w') := ⟨cellL h.out hq (by simp) hc, cellL h.out hq' (by simp) hc', h⟩
theorem map_nil_len {fs : List FD} {ps : List PF} (h : fs.map FD.pf = ps) (h0 : ps = []) : fs = [] := by
  rw [h0] at h
  exact List.map_eq_nil_iff.1 h

set_option maxRecDepth 100000 in
set_option maxHeartbeats 6400000 in
theorem octetAgain_walk (kA lA : Option Addr) (ks l : List Int) (kc lc : Nat) (m : Int) (w : World) (hm : w.cell? ⟨0, 0, none⟩ = some (.int .i64 m)) (hk : RdI w kA ks) (hkc : ks.length ≤ maxLen) (h : Rd w lA l) (hl : ∀ x ∈ l, 0 ≤ x ∧ x < 256)
    (hlc : l.length ≤ lc) (hlm : lc ≤ maxLen) (hal : ∀ a, lA = some a → a.block < w.heap.size) :
    Calls Tryd.prog 7 #[.slice kA ks.length kc, .slice lA l.length lc] w fun e w' => e = .returned (.bool true) ∧ Below w.heap.size w w' := by
  unfold maxLen at hlm hkc
  have AL := alive01 w m hm
  have h0 : 0 < w.heap.size := Nat.pos_of_ne_zero (fun e => by
    have := block_lt_of_cell hm
    simp only at this
    omega)
  obtain ⟨n, hn⟩ : ∃ n, n = ks.length := ⟨_, rfl⟩
  obtain ⟨ln, hln⟩ : ∃ ln, ln = l.length := ⟨_, rfl⟩
  rw [← hn] at hkc ⊢
  rw [← hln] at hlc ⊢
  replace hn := hide hn
  replace hln := hide hln
  go_enter Tryd.func7, Tryd.ntmps7
  go_wp2_with fail
  go_call AL as e w1 ⟨rfl, O1⟩
  clear AL
  by_cases hbig : 100 < n ∨ 33792 < ln
  · rcases hbig with hb | hb
    · have hb1 : (100 : Int) < (n : Int) := by omega
      go_wp2_with fail
      go_ret
      exact ⟨rfl, O1.below (Nat.le_refl _) (by simp)⟩
    · by_cases hb2 : 100 < n
      · have hb1 : (100 : Int) < (n : Int) := by omega
        go_wp2_with fail
        go_ret
        exact ⟨rfl, O1.below (Nat.le_refl _) (by simp)⟩
      · have hb1 : ¬ (100 : Int) < (n : Int) := by omega
        have hb3 : (33792 : Int) < (ln : Int) := by omega
        go_wp2_with fail
        go_ret
        exact ⟨rfl, O1.below (Nat.le_refl _) (by simp)⟩
  have n1 : n ≤ 100 := by omega
  have n2 : ln ≤ 33792 := by omega
  have hb1 : ¬ (100 : Int) < (n : Int) := by omega
  have hb2 : ¬ (33792 : Int) < (ln : Int) := by omega
  clear hbig
  have m1 : w1.cell? ⟨0, 0, none⟩ = some (.int .i64 m) := cellL O1 h0 (by simp) hm
  have hR := h.only O1
  have W1 := read_any w1 kA lA ks l kc lc m m1 (hk.only O1) hR hl (by have := hn.out; omega) (by have := hln.out; omega) (by rw [← hln.out]; exact hlc) (by unfold maxLen; exact hlm) (fun a ha => Nat.lt_of_lt_of_le (hal a ha) O1.size)
  rw [← hn.out, ← hln.out] at W1
  have law := again_law ks l hl (by have := hln.out; omega)
  obtain ⟨res, hres⟩ : ∃ res, readP ks l = res := ⟨_, rfl⟩
  rw [hres] at W1 law
  obtain ⟨E, ps⟩ := res
  dsimp only at law
  replace law := hide law
  replace hres := hide hres
  go_wp2_with fail
  go_call W1 as e w2 ⟨P2, A3, k3, fs, rfl, hpf, V3, M3⟩
  clear W1
  have O2 := O1.trans P2 (by simp)
  by_cases hE : E = 0
  · subst hE
    obtain ⟨hkinds, hok, hps, hparts⟩ : ps.map (·.kind) = ks ∧ OkP ps ∧ (∀ p ∈ ps, 1 ≤ p.kind ∧ p.kind ≤ 6 ∧ faultP p = 0 ∧ 0 ≤ p.n ∧ p.n ≤ 4294967295) ∧ Parts ps l := by
      rcases law.out with h | h
      · exact absurd rfl h.1
      · exact h.2
    have hfl : fs.length = n := by
      have h1 := congrArg List.length hpf
      have h2 := congrArg List.length hkinds
      rw [List.length_map] at h1 h2
      rw [hn.out, ← h2, ← h1]
    have hfn : ∀ f ∈ fs, 0 ≤ f.n ∧ f.n ≤ 4294967295 := fun f hf => by
      have : f.pf ∈ ps := by
        have hpf' : fs.map FD.pf = ps := hpf
        rw [← hpf']
        exact List.mem_map_of_mem hf
      exact (hps _ this).2.2.2
    have RF : RdF w2 A3 fs := V3.rdF (fun f hf => ⟨(M3 f hf).1.ok, hfn f hf⟩)
    have W2 := write_any w2 A3 fs k3 RF (by omega)
    have hpf' : fs.map FD.pf = ps := hpf
    rw [hpf', writeP_ok hok] at W2
    obtain ⟨cs, hcs⟩ : ∃ cs, ps.flatMap bytesP = cs := ⟨_, rfl⟩
    rw [hcs] at W2
    have hclen : cs.length = ln := by rw [← hcs, hparts.len, hln.out]
    rw [hfl] at W2 ⊢
    replace hfl := hide hfl
    replace hcs := hide hcs
    replace hps := hide hps
    replace hkinds := hide hkinds
    replace hpf' := hide hpf'
    clear hpf law hok
    go_wp2_with fail
    go_call W2 as e w3 ⟨P3, v3, rfl, V4⟩
    clear W2
    have O3 := O2.trans P3 (by simp)
    obtain ⟨A2, k2, rfl, R2, q2, m2, a2⟩ := V4.rd
    rw [hclen] at q2 ⊢
    replace hclen := hide hclen
    have RF3 := RF.only P3
    unfold maxLen at m2
    have z3 := O3.size
    clear V3 V4 M3 RF hfn
    go_wp2_with fail
    go_loopw [57, 9] (fun i at_ wr => ∃ k : Nat, k ≤ n ∧ i = .int .i64 k ∧ at_ = .int .i64 ((ps.take k).flatMap bytesP).length ∧ Only [] w3 wr) (fun i _ _ => n - (intOf i).toNat)
    case atStart => exact ⟨0, by omega, rfl, rfl, Only.refl _ _⟩
    case round =>
      obtain ⟨wo, rfl⟩ : ∃ wo : World, wo = wr := ⟨_, rfl⟩
      obtain ⟨k, hkn, rfl, rfl, O⟩ := hrel
      by_cases hlt : k < n
      · obtain ⟨f, hf⟩ : ∃ f, fs[k]? = some f := ⟨_, List.getElem?_eq_getElem (by have := hfl.out; omega)⟩
        have hp : ps[k]? = some f.pf := by rw [← hpf'.out, List.getElem?_map, hf]; rfl
        obtain ⟨b, off, rfl, hb, hc⟩ := (RF3.only O).cells (by have := hfl.out; omega)
        obtain ⟨c0, c1, c2, c3⟩ := hc k f hf
        have hokf := ((RF3.only O).ok f (List.mem_of_getElem? hf))
        obtain ⟨p1, p6, pf0, _⟩ := hps.out f.pf (List.mem_of_getElem? hp)
        obtain ⟨hM, hC, hT⟩ := hparts.at_ k f.pf hp
        rw [hcs.out] at hC
        have hnext : ((ps.take (k + 1)).flatMap bytesP).length = ((ps.take k).flatMap bytesP).length + (bytesP f.pf).length := by
          rw [take_snocG hp, List.flatMap_append, List.length_append]
          simp
        obtain ⟨kb, ko, kx, rfl, hkb, hkx, hkcell⟩ := ((hk.only O3).only O).at k (by have := hn.out; omega)
        have hkk : f.kind = kx := by
          have := hkinds.out
          rw [← this, List.getElem?_map, hp] at hkx
          simpa [FD.pf] using hkx
        subst hkk
        obtain ⟨w5, hw5⟩ : ∃ w5, w5 = wo.alloc (.cells #[.int .i64 f.kind, .int .u32 f.n, .slice f.tA f.text.length f.tc, .slice f.lA f.list.length f.lc] 35) := ⟨_, rfl⟩
        have P5 : Only [] wo w5 := by rw [hw5]; exact (Only.refl _ _).alloc _
        have K5 : Blk w5 wo.heap.size 35 f.cells := by rw [hw5]; exact Blk.new wo _ _
        have SZ := size_any f w5 (hokf.1.only P5) hokf.2
        rw [sizeP_ok (p := f.pf) p1 p6 pf0] at SZ
        obtain ⟨T, hTT⟩ : ∃ T, ((ps.take k).flatMap bytesP).length = T := ⟨_, rfl⟩
        obtain ⟨L, hL⟩ : ∃ L, (bytesP f.pf).length = L := ⟨_, rfl⟩
        rw [hTT, hL] at hM hC hT
        rw [hTT, hL] at hnext
        rw [hL] at SZ
        rw [hTT]
        rw [← hln.out] at hT
        have hm1 : Match f.pf ((l.drop T).take L) := hM
        unfold FD.val at SZ
        replace hM := hide hM
        replace hC := hide hC
        replace hm1 := hide hm1
        replace hnext := hide hnext
        replace hTT := hide hTT
        replace hL := hide hL
        replace hf := hide hf
        replace hp := hide hp
        replace hkx := hide hkx
        clear hc hokf p1 p6 pf0
        go_wp2_with fail
        rw [← hw5]
        replace hw5 := hide hw5
        go_call SZ as e w6 ⟨rfl, P6⟩
        clear SZ
        have z5 := K5.lt
        have z6 := P6.size
        have K6 := K5.only P6 (by simp)
        have O6 : Only [] w3 w6 := (O.trans P5 (by simp)).trans P6 (by simp)
        have d0 : w6.cell? ⟨wo.heap.size, 0, none⟩ = some (.int .i64 f.kind) := K6.cell 0
        have d1 : w6.cell? ⟨kb, ko + k, none⟩ = some (.int .i64 f.kind) := cellL (P5.trans P6 (by simp)) hkb (by simp) hkcell
        clear c0 c1 c2 c3 hkcell
        by_cases hk2 : f.kind = 2
        · have hmm := hm1.out
          unfold Match at hmm
          rw [if_pos (show f.pf.kind = 2 from hk2)] at hmm
          obtain ⟨x, hx1, hx2⟩ := hmm
          have hL1 : L = 1 := by rw [← hL.out, hx2]; rfl
          subst hL1
          obtain ⟨bb, bo, xx, hA1, hbb, hxx, cx⟩ := RdG.at (mk := .int .u8) (((h.only O3)).only O6) T (by rw [← hln.out]; omega)
          obtain ⟨cb, co, yy, hA2, hcb, hyy, cy⟩ := RdG.at (mk := .int .u8) (R2.only O6) T (by rw [hclen.out]; omega)
          have hxe : xx = x := by
            have := congrArg (fun z : List Int => z[0]?) hx1
            simp [List.getElem?_take, List.getElem?_drop, hxx] at this
            exact this
          have hye : yy = if x = 0 then 0 else 1 := by
            have h1 := hC.out
            rw [hx2] at h1
            have := congrArg (fun z : List Int => z[0]?) h1
            simp [List.getElem?_take, List.getElem?_drop, hyy] at this
            exact this
          subst hxe
          subst hA1
          subst hA2
          replace hx1 := hide hx1
          replace hx2 := hide hx2
          replace hxx := hide hxx
          replace hyy := hide hyy
          rw [hk2] at d0 d1
          have hlt1 : (T : Int) < (ln : Int) := by omega
          have hT0 : (0 : Int) ≤ (T : Int) := by omega
          by_cases hx0 : xx = 0
          · rw [if_pos hx0] at hye
            subst hx0
            subst hye
            go_wp2_with fail
            go_quiet (fail)
            go_wp2_with fail
            go_roundw
            case rel => exact ⟨k + 1, by omega, by go_num, by rw [hnext.out]; go_num, O6.drewN _⟩
            case measure => simp [intOf]; omega
          · rw [if_neg hx0] at hye
            subst hye
            have hx3 : (xx != 0) = true := by simpa using hx0
            go_wp2_with fail
            go_quiet (fail)
            go_wp2_with fail
            go_roundw
            case rel => exact ⟨k + 1, by omega, by go_num, by rw [hnext.out]; go_num, O6.drewN _⟩
            case measure => simp [intOf]; omega
        · have hmm := hm1.out
          unfold Match at hmm
          rw [if_neg (show ¬ f.pf.kind = 2 from hk2)] at hmm
          have hk3 : (f.kind != 2) = true := by simpa using hk2
          have hk4 : (f.kind == 2) = false := by simpa using hk2
          obtain ⟨l9, hl9⟩ : ∃ l9, (l.drop T).take L = l9 := ⟨_, rfl⟩
          have hl9n : l9.length = L := by rw [← hl9, List.length_take, List.length_drop, ← hln.out]; omega
          obtain ⟨A9, c9, hcA, R9⟩ := part_of lc T L ((h.only O3).only O6) (by rw [← hln.out]; exact hT) (by rw [← hln.out]; exact hlc)
          obtain ⟨B9, d9, hcB, Q9⟩ := part_of k2 T L (R2.only O6) (by rw [hclen.out]; exact hT) (by rw [hclen.out]; exact q2)
          have he9 : (cs.drop T).take L = l9 := by rw [hC.out, hmm, hl9]
          rw [hl9] at R9
          rw [he9] at Q9
          have hX : ∀ n, Calls Tryd.prog 15 #[.slice A9 L c9, .slice B9 L d9] (w6.drewN n) fun e w'' => e = .returned (.bool true) ∧ ∃ q, w'' = (w6.drewN n).drewN q := fun n => by
            have O := (Only.refl [] w6).drewN n
            have := bytes_q (w6.drewN n) A9 B9 l9 l9 c9 d9 (R9.only O) (Q9.only O) (by unfold maxLen; omega) (by unfold maxLen; omega)
            rw [hl9n, show eqB l9 l9 = true by simp [eqB]] at this
            exact this
          replace hX := hide hX
          replace hl9 := hide hl9
          replace hl9n := hide hl9n
          replace he9 := hide he9
          replace hmm := hide hmm
          have hwr : IntKind.i64.wrap ((T : Int) + (L : Int)) = (T : Int) + (L : Int) := IntWalk.i64_in _ (by omega)
          have hTL0 : (T : Int) ≤ (T : Int) + (L : Int) := by omega
          have hTL3 : (0 : Int) ≤ (T : Int) + (L : Int) := by omega
          have hTL1 : (T : Int) + (L : Int) ≤ (lc : Int) := by omega
          have hTL2 : (T : Int) + (L : Int) ≤ (k2 : Int) := by omega
          have z7 : wo.heap.size < w6.heap.size := by omega
          have z8 : kb < w6.heap.size := by omega
          clear R9 Q9 hC
          rcases hcA with ⟨hcA, rfl, rfl⟩ | ⟨hcA, rfl, rfl⟩ <;> rcases hcB with ⟨hcB, rfl, rfl⟩ | ⟨hcB, rfl, rfl⟩
          all_goals (
            go_wp2_with fail
            go_quiet (first | (go_at_call 15; exact Calls.quiet_of (hX.out _)))
            go_wp2_with fail
            try subst hcA
            try subst hcB
            go_roundw
            case rel => exact ⟨k + 1, by omega, by go_num, by rw [hnext.out]; first | go_num | (congr 1; omega), O6.drewN _⟩
            case measure => simp [intOf]; omega)
      · obtain rfl : k = n := by omega
        go_wp2_with fail
        go_ret
        exact ⟨rfl, (O3.trans O (by simp)).below (Nat.le_refl _) (by simp)⟩
  · have hps : ps = [] := by
      rcases law.out with h | h
      · exact h.2
      · exact absurd h.1 hE
    obtain rfl := map_nil_len hpf hps
    have hE2 : (E != 0) = true := by simpa using hE
    go_wp2_with fail
    go_ret
    exact ⟨rfl, O2.below (Nat.le_refl _) (by simp)⟩

theorem mlen {W : World} (h : W.ShapedOpen Tryd.prog) : ∃ m, W.cell? ⟨0, 0, none⟩ = some (.int .i64 m) :=
  cell_of_shapedOpen_int (t := 3) (zero := #[.int .i64 0]) h (of_decide_eq_true (by kernel_rfl)) (by kernel_rfl) rfl (by kernel_rfl) (by kernel_rfl) Tryd.underlying3

set_option maxRecDepth 100000 in
theorem octetAgain_law : LawWalkC Tryd.prog 7 Tryd.f7 := by
  intro H enc W base args ds ps hval hA hsz hshape
  rw [Tryd.params7] at hA hval hsz
  obtain ⟨m, hm⟩ := mlen hshape
  obtain ⟨v0, v1, d0, d1, p0, p1, rfl, rfl, rfl, h0, h1⟩ := trodAll_two hA
  obtain ⟨kA, ks, kc, rfl, hkc, hkm, hk, _, _⟩ := open_sl Tryd.underlying22 Tryd.underlying3 (by kernel_rfl) (hval 0 22 v0 rfl rfl) h0
  obtain ⟨lA, l, lc, rfl, hlc, hlm, hl, hw, hal⟩ := open_sl Tryd.underlying23 Tryd.underlying5 (by kernel_rfl) (hval 1 23 v1 rfl rfl) h1
  exact octetAgain_walk kA lA ks l kc lc m W hm hk (Nat.le_trans hkc hkm) hl (fun x hx => by have := wf_u8 (hw x hx); omega) hlc hlm hal

set_option maxRecDepth 100000 in
theorem octetAgain_row : Rows.OctetAgainSaid :=
  OpenClaim.holds_of_wide 7 Tryd.f7 rfl rfl rfl rfl rfl rfl rfl ⟨rfl, rfl, rfl, rfl, rfl⟩ rfl rfl rfl rfl rfl (by kernel_rfl) Tryd.func7 (by kernel_rfl)
    (of_decide_eq_true (by kernel_rfl)) (by unfold Func.isWrapper; rw [if_neg (by decide +kernel)]; exact ⟨rfl, rfl⟩)
    (fun os started H enc _ => law_liftedC own laidOut Tryd.underlying4 7 Tryd.f7 Rows.octetAgainSpec Tryd.func7 (by kernel_rfl) (by kernel_rfl) (by kernel_rfl) rfl
      (fun H ds hl => by
        have hl : ds.length = 2 := hl
        match ds, hl with
        | [d1, d2], _ => rfl)
      (fun w => laidMetH Tryd.prog Rows.octetAgainRow.laid w)
      octetAgain_law os started H enc
      (ChangeSpec.witness_shaped (enc := enc) (C := Tryd.checked) (os := os) (X := fun w _ => laidMetH Tryd.prog Rows.octetAgainRow.laid w) false (World.laidAll Tryd.prog os Rows.octetAgainRow.laid) #[.slice none 0 0, .slice none 0 0] 8 (World.laidAll_os _ _ _)
        (World.shaped_of_ZipB (by kernel_rfl) (by kernel_rfl)) (by kernel_rfl) (by kernel_rfl) (by kernel_rfl)
        (by rw [MakeChecks.laidMetH_plain _ _ _ (by kernel_rfl)]; exact laidMet_laidAll _ (by kernel_rfl) (by kernel_rfl))))

/-- The tied card. -/
theorem octetAgain_holds : Rows.OctetAgainCardSaid :=
  Claim7.holds_tied_plain_at .later [] [.data, .pinned] true (true, "9ca5a9288dacc4b7a82c1f30f08b8fed368f3e6485138822b6e4b460b2353955") false octetAgain_row (fun _ h => by cases h) (by kernel_rfl) (fun _ h => by cases h) octetAgain_row_tie rfl ⟨rfl, rfl⟩ (by kernel_rfl) rfl
    (fun f fn hf hfn => by
      obtain rfl : f = 7 := Option.some.inj ((show Tryd.prog.funcNamed "parlour/parlourlaw01.OctetAgain" = some 7 by kernel_rfl).symm.trans hf) |>.symm
      obtain rfl : fn = Tryd.f7 := (Option.some.inj (Tryd.func7.symm.trans hfn)).symm
      exact ⟨by kernel_rfl, fun j t ht => by
        rw [Tryd.params7] at ht
        have hm : t ∈ [22, 23] := by simpa using Array.mem_of_getElem? ht
        have hall : ([22, 23].all fun u => !Tryd.prog.wantsStandIn u) = true := by kernel_rfl
        exact (show Tryd.prog.wantsStandIn t = false by simpa using List.all_eq_true.1 hall t hm)⟩)
    (by kernel_rfl)
#print axioms octetAgain_holds
end Go.Proofs.YtdmjabfjkkjhbaaDoor

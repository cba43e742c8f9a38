/- The law OctetJoins holds: for all fields and every cut; no condition. -/
import Derived.Test.YtdmjabfjkkjhbaaDoorOctW
import Derived.Test.YtdmjabfjkkjhbaaDoorAppG
import Derived.Test.YtdmjabfjkkjhbaaDoorOctT
import Derived.Test.YtdmjabfjkkjhbaaDoorRefH
import Derived.Test.YtdmjabfjkkjhbaaDoorFrameC
import Derived.Test.YtdmjabfjkkjhbaaDoorOpenF
import Derived.Test.YtdmjabfjkkjhbaaDoorTie
import Derived.Test.YtdmjabfjkkjhbaaDoorCards
namespace Go.Proofs.YtdmjabfjkkjhbaaDoor
set_option linter.all false
open Go.ChangeShapes Go.WideShapes Go.ChangeAt Go.RowKit Go.Deep

theorem RdF.take {w : World} {A : Option Addr} {fs : List FD} (h : RdF w A fs) (k : Nat) : RdF w A (fs.take k) := by
  refine ⟨fun h0 => ?_, fun f hf => h.ok f (List.mem_of_mem_take hf)⟩
  rw [List.length_take] at h0
  obtain ⟨b, off, e, hb, hc⟩ := h.cells (by omega)
  refine ⟨b, off, e, hb, fun i f hi => hc i f ?_⟩
  rw [List.getElem?_take] at hi
  split at hi
  · exact hi
  · cases hi
theorem RdF.drop {w : World} {A : Option Addr} {fs : List FD} (h : RdF w A fs) (k : Nat) : RdF w (A.map fun x => x.add (k * 4)) (fs.drop k) := by
  refine ⟨fun h0 => ?_, fun f hf => h.ok f (List.mem_of_mem_drop hf)⟩
  rw [List.length_drop] at h0
  obtain ⟨b, off, rfl, hb, hc⟩ := h.cells (by omega)
  refine ⟨b, off + k * 4, ?_, hb, fun i f hi => ?_⟩
  · simp only [Option.map_some, Addr.add_lit]
  · rw [List.getElem?_drop] at hi
    obtain ⟨c0, c1, c2, c3⟩ := hc (k + i) f hi
    have e : off + (k + i) * 4 = off + k * 4 + i * 4 := by omega
    rw [e] at c0 c1 c2 c3
    exact ⟨c0, c1, c2, c3⟩

set_option maxRecDepth 100000 in
set_option maxHeartbeats 3200000 in
theorem octetJoins_walk (A : Option Addr) (fs : List FD) (c : Nat) (cut m : Int) (w : World) (hm : w.cell? ⟨0, 0, none⟩ = some (.int .i64 m)) (h : RdF w A fs) (hlc : fs.length ≤ c) (hcm : c ≤ maxLen) (hcut : 0 ≤ cut ∧ cut ≤ 255) :
    Calls Tryd.prog 4 #[.slice A fs.length c, .int .u8 cut] w fun e w' => e = .returned (.bool true) ∧ Below w.heap.size w w' := by
  unfold maxLen at hcm
  have AL := alive01 w m hm
  have GR := fun (w1 : World) (O : Only [] w w1) => great_any A fs c w1 (h.only O) (by unfold maxLen; omega)
  obtain ⟨n, hn⟩ : ∃ n, n = fs.length := ⟨_, rfl⟩
  rw [← hn] at hlc GR ⊢
  replace hn := hide hn
  replace GR := hide GR
  go_enter Tryd.func4, Tryd.ntmps4
  go_wp2_with fail
  go_call AL as e w1 ⟨rfl, O1⟩
  clear AL
  have G1 := GR.out w1 O1
  go_wp2_with fail
  go_call G1 as e w2 ⟨P2, b, rfl, hb⟩
  clear G1
  have O2 := O1.trans P2 (by simp)
  cases b with
  | true =>
    clear hb
    go_wp2_with fail
    go_ret
    exact ⟨rfl, O2.below (Nat.le_refl _) (by simp)⟩
  | false =>
    have hb := (hb rfl).1
    obtain ⟨k, hat⟩ : ∃ k : Nat, (k : Int) = cut % ((n : Int) + 1) := ⟨(cut % ((n : Int) + 1)).toNat, by have := Int.emod_nonneg cut (b := (n : Int) + 1) (by omega); omega⟩
    have hkn : k ≤ n := by have := Int.emod_lt_of_pos cut (show (0 : Int) < (n : Int) + 1 by omega); omega
    have hc1 : 0 ≤ cut % ((n : Int) + 1) := by omega
    have hc2 : cut % ((n : Int) + 1) ≤ (c : Int) := by omega
    have hc3 : cut % ((n : Int) + 1) ≤ (n : Int) := by omega
    have W1 := write_any w2 A fs c (h.only O2) (by have := hn.out; omega)
    obtain ⟨r, hr⟩ : ∃ r, writeP (fs.map FD.pf) = r := ⟨_, rfl⟩
    rw [hr, ← hn.out] at W1
    obtain ⟨e1, all⟩ := r
    replace hr := hide hr
    replace hat := hide hat
    go_wp2_with fail
    go_call W1 as e w3 ⟨P3, v1, rfl, V1⟩
    obtain ⟨A1, k1, rfl, R1, q1, m1, a1⟩ := V1.rd
    have O3 := O2.trans P3 (by simp)
    have b1 : all.length ≤ 33792 := by have := writeP_len (ps := fs.map FD.pf); rw [hr.out] at this; exact this
    clear W1 V1
    rw [← hat.out]
    clear hc1 hc2 hc3
    have l2 : (fs.take k).length = k := by rw [List.length_take, ← hn.out]; omega
    have l3 : (fs.drop k).length = n - k := by rw [List.length_drop, ← hn.out]
    have W2 := write_any w3 A (fs.take k) c ((h.only O3).take k) (by omega)
    obtain ⟨r2, hr2⟩ : ∃ r, writeP ((fs.take k).map FD.pf) = r := ⟨_, rfl⟩
    rw [hr2, l2] at W2
    obtain ⟨e2, ta⟩ := r2
    have b2 : ta.length ≤ 33792 := by have := writeP_len (ps := (fs.take k).map FD.pf); rw [hr2] at this; exact this
    replace hr2 := hide hr2
    replace l2 := hide l2
    replace l3 := hide l3
    go_wp2_with fail
    go_call W2 as e w4 ⟨P4, v2, rfl, V2⟩
    obtain ⟨A2, k2, rfl, R2, q2, m2, a2⟩ := V2.rd
    have O4 := O3.trans P4 (by simp)
    clear W2 V2
    obtain ⟨A9, c9, hca, R9⟩ : ∃ A9 c9, ((c = k ∧ A9 = A ∧ c9 = 0) ∨ (¬ c = k ∧ A9 = (A.map fun x => x.add (k * 4)) ∧ c9 = c - k)) ∧ RdF w4 A9 (fs.drop k) := by
      by_cases hck : c = k
      · refine ⟨A, 0, .inl ⟨hck, rfl, rfl⟩, fun h0 => ?_, ((h.only O4).drop k).ok⟩
        rw [l3.out] at h0
        omega
      · exact ⟨_, _, .inr ⟨hck, rfl, rfl⟩, (h.only O4).drop k⟩
    have W3 := write_any w4 A9 (fs.drop k) c9 R9 (by have := l3.out; omega)
    obtain ⟨r3, hr3⟩ : ∃ r, writeP ((fs.drop k).map FD.pf) = r := ⟨_, rfl⟩
    rw [hr3, l3.out] at W3
    obtain ⟨e3, tb⟩ := r3
    have b3 : tb.length ≤ 33792 := by have := writeP_len (ps := (fs.drop k).map FD.pf); rw [hr3] at this; exact this
    replace hr3 := hide hr3
    clear R9
    have law := joins_law (fs.map FD.pf) k (by rw [List.length_map, ← hn.out]; exact hkn)
    rw [← List.map_take, ← List.map_drop, hr.out, hr2.out, hr3.out] at law
    dsimp only at law
    replace law := hide law
    obtain ⟨kd, hkd⟩ : ∃ kd : Int, 0 < k → kd = ((fs.map FD.pf).map (·.kind)).getD (k - 1) 0 ∧ w4.cell? ⟨0, 0, none⟩ = w4.cell? ⟨0, 0, none⟩ := ⟨_, fun _ => ⟨rfl, rfl⟩⟩
    rcases hca with ⟨hck, rfl, rfl⟩ | ⟨hck, rfl, rfl⟩
    all_goals (
      go_wp2_with fail
      go_call W3 as e w5 ⟨P5, v3, rfl, V3⟩
      obtain ⟨A3, k3, rfl, R3, q3, m3, a3⟩ := V3.rd
      have O5 := O4.trans P5 (by simp)
      clear W3 V3
      by_cases he : e1 = 0
      · subst he
        have law := law.out
        rw [if_pos rfl] at law
        obtain ⟨rfl, rfl, hall⟩ := law
        replace hall := hide hall
        have z5 := O5.size
        have V6 : OwnB (w5.alloc (.cells #[] 5)) w5.heap.size (.slice (some ⟨w5.heap.size, 0, none⟩) 0 0) [] := ownB_lit w5 w5.heap.size [] (Nat.le_refl _) (by simp)
        have O6 : Only [] w5 (w5.alloc (.cells #[] 5)) := (Only.refl _ _).alloc _
        have R6 := ((R2.only P5).only O6)
        have R7 := R3.only O6
        have l7 : ta.length ≤ 140737488355328 := by omega
        go_wp2_with (at_builtin; first | (refine wpList_app3g (by rfl) (.tmp 51) (.tmp 52) rfl w5.heap.size (.slice (some ⟨w5.heap.size, 0, none⟩) 0 0) [] rfl V6 A2 k2 ta _ rfl rfl R6 (by simpa using l7) (by simp) ?_; intro v8 w8 V8 P8 G8) | (go_must (refine wpList_app3g (by rfl) (.tmp 53) (.tmp 54) rfl w5.heap.size v8 _ rfl V8.out A3 k3 tb _ rfl rfl (RdG.onlyL (mk := .int .u8) R7 P8 (fun a ha h0 hm => by simp [Value.ownBlock] at hm; have := RdG.lt (mk := .int .u8) R3 h0 a ha; omega)) (by simp; omega) (by have := P8.size; simp at this; omega) ?_; intro v9 w9 V9 P9 G9)))
        obtain ⟨A8, k8, rfl, R8, q8, m8, a8⟩ := V9.out.rd
        have O7 : Only [] w5 w8 := O6.trans P8 (fun x hx => .inr (by simp [Value.ownBlock] at hx; omega))
        have z8 := P8.size
        have O8 : Only [] w5 w9 := O7.trans P9 (fun x hx => .inr ((OwnB.block V8.out) x (by simpa using hx)).1)
        have BT := bytes_any w9 A1 A8 all ([] ++ ta ++ tb) k1 k8 (((R1.only P4).only P5).only O8) R8 (by unfold maxLen; omega) (by simp [maxLen]; omega)
        have heq : eqB all ([] ++ ta ++ tb) = true := by
          rw [hall.out]
          simp [eqB]
        rw [heq] at BT
        go_wp2_with fail
        go_call BT as e w10 ⟨rfl, O10⟩
        clear BT
        go_wp2_with fail
        go_ret
        exact ⟨rfl, ((O5.trans O8 (by simp)).trans O10 (by simp)).below (Nat.le_refl _) (by simp)⟩
      · have law := law.out
        rw [if_neg he] at law
        have he1 : (e1 == 0) = false := by simpa using he
        have fin := O5.below (Nat.le_refl _) (by simp)
        by_cases h2 : e2 = 0
        · subst h2
          by_cases h3 : e3 = 0
          · subst h3
            by_cases h4 : 33792 < ta.length + tb.length
            · have h5 : (33792 : Int) < (ta.length : Int) + (tb.length : Int) := by omega
              clear law
              go_wp2_with fail
              go_ret
              exact ⟨rfl, fin⟩
            · have h5 : ¬ (33792 : Int) < (ta.length : Int) + (tb.length : Int) := by omega
              obtain ⟨hk0, h6⟩ : 0 < k ∧ ((fs.map FD.pf).map (·.kind)).getD (k - 1) 0 = 6 := by
                rcases law with h | h | h | h
                · exact absurd rfl h
                · exact absurd rfl h
                · exact absurd h h4
                · exact h
              obtain ⟨f, hf⟩ : ∃ f, fs[k - 1]? = some f := ⟨_, List.getElem?_eq_getElem (by have := hn.out; omega)⟩
              have hk6 : f.kind = 6 := by
                rw [List.getD_eq_getElem?_getD] at h6
                simpa [hf, FD.pf] using h6
              obtain ⟨b, off, hA, hb2, hc⟩ := (h.only O5).cells (by have := hn.out; omega)
              obtain ⟨c0, c1, c2, c3⟩ := hc (k - 1) f hf
              rw [hk6] at c0
              obtain ⟨j, rfl⟩ : ∃ j, k = j + 1 := ⟨k - 1, by omega⟩
              rw [Nat.add_sub_cancel] at c0
              subst hA
              clear law c1 c2 c3 hc hf h6 hk6
              go_wp2_with fail
              go_ret
              exact ⟨rfl, fin⟩
          · have h4 : (e3 != 0) = true := by simpa using h3
            clear law
            go_wp2_with fail
            go_ret
            exact ⟨rfl, fin⟩
        · have h4 : (e2 != 0) = true := by simpa using h2
          clear law
          go_wp2_with fail
          go_ret
          exact ⟨rfl, fin⟩)

theorem mlen {W : World} (h : W.ShapedOpen Tryd.prog) : ∃ m, W.cell? ⟨0, 0, none⟩ = some (.int .i64 m) :=
  cell_of_shapedOpen_int (t := 3) (zero := #[.int .i64 0]) h (of_decide_eq_true (by kernel_rfl)) (by kernel_rfl) rfl (by kernel_rfl) (by kernel_rfl) Tryd.underlying3

set_option maxRecDepth 100000 in
theorem octetJoins_law : LawWalkC Tryd.prog 4 Tryd.f4 := by
  intro H enc W base args ds ps hval hA hsz hshape
  rw [Tryd.params4] at hA hval hsz
  obtain ⟨m, hm⟩ := mlen hshape
  obtain ⟨v0, v1, d0, d1, p0, p1, rfl, rfl, rfl, h0, h1⟩ := trodAll_two hA
  obtain ⟨A, fs, c, rfl, hlc, hcm, hR, _⟩ := openF (hval 0 25 v0 rfl rfl) h0 (light_arg (j := 0) hsz rfl rfl)
  obtain ⟨cut, rfl, rfl, rfl, wc⟩ := open_int Tryd.underlying5 (hval 1 5 v1 rfl rfl) h1
  exact octetJoins_walk A fs c cut m W hm hR hlc hcm (wf_u8 wc)

set_option maxRecDepth 100000 in
theorem octetJoins_row : Rows.OctetJoinsSaid :=
  OpenClaim.holds_of_wide 4 Tryd.f4 rfl rfl rfl rfl rfl rfl rfl ⟨rfl, rfl, rfl, rfl, rfl⟩ rfl rfl rfl rfl rfl (by kernel_rfl) Tryd.func4 (by kernel_rfl)
    (of_decide_eq_true (by kernel_rfl)) (by unfold Func.isWrapper; rw [if_neg (by decide +kernel)]; exact ⟨rfl, rfl⟩)
    (fun os started H enc _ => law_liftedC own laidOut Tryd.underlying4 4 Tryd.f4 Rows.octetJoinsSpec Tryd.func4 (by kernel_rfl) (by kernel_rfl) (by kernel_rfl) rfl
      (fun H ds hl => by
        have hl : ds.length = 2 := hl
        match ds, hl with
        | [d1, d2], _ => rfl)
      (fun w => laidMetH Tryd.prog Rows.octetJoinsRow.laid w)
      octetJoins_law os started H enc
      (ChangeSpec.witness_shaped (enc := enc) (C := Tryd.checked) (os := os) (X := fun w _ => laidMetH Tryd.prog Rows.octetJoinsRow.laid w) false (World.laidAll Tryd.prog os Rows.octetJoinsRow.laid) #[.slice none 0 0, .int .u8 0] 8 (World.laidAll_os _ _ _)
        (World.shaped_of_ZipB (by kernel_rfl) (by kernel_rfl)) (by kernel_rfl) (by kernel_rfl) (by kernel_rfl)
        (by rw [MakeChecks.laidMetH_plain _ _ _ (by kernel_rfl)]; exact laidMet_laidAll _ (by kernel_rfl) (by kernel_rfl))))

/-- The tied card. -/
theorem octetJoins_holds : Rows.OctetJoinsCardSaid :=
  Claim7.holds_tied_plain_at .later [] [.data, .pinned] true (true, "9ca5a9288dacc4b7a82c1f30f08b8fed368f3e6485138822b6e4b460b2353955") false octetJoins_row (fun _ h => by cases h) (by kernel_rfl) (fun _ h => by cases h) octetJoins_row_tie rfl ⟨rfl, rfl⟩ (by kernel_rfl) rfl
    (fun f fn hf hfn => by
      obtain rfl : f = 4 := Option.some.inj ((show Tryd.prog.funcNamed "parlour/parlourlaw01.OctetJoins" = some 4 by kernel_rfl).symm.trans hf) |>.symm
      obtain rfl : fn = Tryd.f4 := (Option.some.inj (Tryd.func4.symm.trans hfn)).symm
      exact ⟨by kernel_rfl, fun j t ht => by
        rw [Tryd.params4] at ht
        have hm : t ∈ [25, 5] := by simpa using Array.mem_of_getElem? ht
        have hall : ([25, 5].all fun u => !Tryd.prog.wantsStandIn u) = true := by kernel_rfl
        exact (show Tryd.prog.wantsStandIn t = false by simpa using List.all_eq_true.1 hall t hm)⟩)
    (by kernel_rfl)
#print axioms octetJoins_holds
end Go.Proofs.YtdmjabfjkkjhbaaDoor

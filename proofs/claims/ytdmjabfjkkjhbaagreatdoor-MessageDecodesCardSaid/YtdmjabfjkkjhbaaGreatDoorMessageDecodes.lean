/- The law MessageDecodes holds: for all bytes; no condition. -/
import Derived.Test.YtdmjabfjkkjhbaaGreatDoorMsgX
import Derived.Test.YtdmjabfjkkjhbaaGreatDoorOpenM
import Derived.Test.YtdmjabfjkkjhbaaGreatDoorFrameC
import Derived.Test.YtdmjabfjkkjhbaaGreatDoorTie
import Derived.Test.YtdmjabfjkkjhbaaGreatDoorCards
namespace Go.Proofs.YtdmjabfjkkjhbaaGreatDoor
set_option linter.all false
open Go.ChangeShapes Go.WideShapes Go.ChangeAt Go.RowKit Go.Deep
def Soft (fs : List FD) (w : World) : Prop := ∀ f ∈ fs, ∀ b off, f.tA = some ⟨b, off, none⟩ → ∀ i, i < f.text.length → (∃ x, w.cell? ⟨b, off + i, none⟩ = some (.int .u8 x)) ∧ w.frozen? ⟨b, off + i, none⟩ = false
theorem Soft.set {fs : List FD} {w : World} (h : Soft fs w) (p : Addr) (x : Int) : Soft fs (w.setCell p (.int .u8 x)) := fun f hf b off ha i hi => by
  obtain ⟨h1, h2⟩ := h f hf b off ha i hi
  exact ⟨someInt_setCell h1 p x, by rw [World.frozen?_setCell]; exact h2⟩
theorem Soft.drew {fs : List FD} {w : World} (h : Soft fs w) : Soft fs w.drew := fun f hf b off ha i hi => h f hf b off ha i hi
theorem put_same {x y : MD} {f g : FD} (j : Nat) (h : SameM x y) (hp : f.pf = g.pf) : SameM (putM x j f) (putM y j g) := by
  have hn : g.n = f.n := (congrArg PF.n hp).symm
  have ht : g.text = f.text := (congrArg PF.text hp).symm
  match j with
  | 0 => exact { h with code := hn }
  | 1 => exact { h with data := ht }
  | 2 => exact { h with lang := by show strOfNums g.text = strOfNums f.text; rw [ht] }
  | 3 => exact { h with name := by show strOfNums g.text = strOfNums f.text; rw [ht] }
  | 4 => exact { h with want := by show (g.n == 1) = (f.n == 1); rw [hn] }
  | 5 => exact { h with data := ht }
  | 6 => exact { h with sender := hn }
  | 7 => exact { h with window := hn }
  | 8 => exact { h with packet := hn }
  | n + 9 => exact { h with chan := hn }
theorem all_same : ∀ (js : List Nat) (fs gs : List FD) (x y : MD), SameM x y → fs.map FD.pf = gs.map FD.pf → SameM (putAll x js fs) (putAll y js gs)
  | [], fs, gs, x, y, h, _ => by unfold putAll; exact h
  | j :: js, [], [], x, y, h, _ => by unfold putAll; exact h
  | j :: js, [], g :: gs, x, y, _, hp => by simp at hp
  | j :: js, f :: fs, [], x, y, _, hp => by simp at hp
  | j :: js, f :: fs, g :: gs, x, y, h, hp => by
    rw [List.map_cons, List.map_cons] at hp
    injection hp with h1 h2
    exact all_same js fs gs _ _ (put_same j h h1) h2
theorem dec_same {l : List Int} {a b : MD} {E F : Int} (h : DecIs l a E) (g : DecIs l b F) : F = E ∧ SameM a b := by
  unfold DecIs at h g
  cases l with
  | nil => exact ⟨g.1.trans h.1.symm, by rw [h.2, g.2]; exact SameM.refl _⟩
  | cons k t =>
    dsimp only at h g
    cases hr : rowL k with
    | none => rw [hr] at h g; exact ⟨g.1.trans h.1.symm, by rw [h.2, g.2]; exact SameM.refl _⟩
    | some js =>
      rw [hr] at h g
      dsimp only at h g
      by_cases h0 : (readP (1 :: js.map pk) (k :: t)).1 ≠ 0
      · rw [if_pos h0] at h g
        exact ⟨g.1.trans h.1.symm, by rw [h.2, g.2]; exact SameM.refl _⟩
      · rw [if_neg h0] at h g
        obtain ⟨fs, h1, h⟩ := h
        obtain ⟨gs, g1, g⟩ := g
        have hs := all_same js fs.tail gs.tail (firstM k) (firstM k) (SameM.refl _) (by rw [List.map_tail, List.map_tail, h1, g1])
        rw [fits_same hs] at g
        split at h
        · rename_i hf
          rw [if_pos hf] at g
          exact ⟨g.1.trans h.1.symm, by rw [h.2, g.2]; exact hs⟩
        · rename_i hf
          rw [if_neg hf] at g
          exact ⟨g.1.trans h.1.symm, by rw [h.2, g.2]; exact SameM.refl _⟩
set_option maxRecDepth 100000 in
set_option maxHeartbeats 6400000 in
theorem messageDecodes_walk (A : Option Addr) (l : List Int) (c : Nat) (i0 : Int) (w : World) (hm : w.cell? ⟨0, 0, none⟩ = some (.int .i64 i0)) (h : Rd w A l) (hl : InB l) (hlc : l.length ≤ c) (hcm : c ≤ maxLen) :
    Calls Tryz.prog 4 #[.slice A l.length c] w fun e w' => e = .returned (.bool true) ∧ Below w.heap.size w w' := by
  have h0 : 0 < w.heap.size := Nat.pos_of_ne_zero (fun e => by
    have := block_lt_of_cell hm
    simp only at this
    omega)
  have AL := alive03 w i0 hm
  obtain ⟨n, hn⟩ : ∃ n, l.length = n := ⟨_, rfl⟩
  by_cases hbig : 100000 < n
  · rw [hn]
    have hb2 : (100000 : Int) < (n : Int) := by omega
    replace hn := hide hn
    go_enter Tryz.func4, Tryz.ntmps4
    go_wp2_with fail
    go_call AL as e w1 ⟨rfl, P1⟩
    go_wp2_with fail
    go_ret
    exact ⟨rfl, P1.below (Nat.le_refl _) (by simp)⟩
  · have hb2 : ¬ (100000 : Int) < (n : Int) := by omega
    rw [hn] at hlc ⊢
    replace hn := hide hn
    replace hl := hide hl
    go_enter Tryz.func4, Tryz.ntmps4
    go_wp2_with fail
    go_call AL as e w1 ⟨rfl, O1⟩
    clear AL
    have V6 : OwnB (w1.alloc (.cells #[] 5)) w1.heap.size (.slice (some ⟨w1.heap.size, 0, none⟩) 0 0) [] := ownB_lit w1 w1.heap.size [] (Nat.le_refl _) (by simp)
    have R6 : Rd (w1.alloc (.cells #[] 5)) A l := h.only (O1.alloc _)
    go_wp2_with (at_builtin; go_must (refine wpList_app3 rfl (.tmp 14) (.tmp 15) rfl w1.heap.size (.slice (some ⟨w1.heap.size, 0, none⟩) 0 0) [] rfl V6 A c l n hn.out rfl R6 (by have := hn.out; simp; omega) (by simp) ?_; intro v8 w8 V8 P8 G8; replace V8 := V8.out; rw [List.nil_append] at V8; have hvb := V8.block; obtain ⟨A8, k8, rfl, R8, q8, m8, low8⟩ := V8.rd; rw [hn.out] at hvb q8 ⊢; have X8 : Only [] w1 w8 := ((Only.refl [] w1).alloc _).trans P8 (fun x hx => .inr (by simp [Value.ownBlock] at hx; omega))))
    have O8 : Only [] w w8 := O1.trans X8 (by simp)
    have DC := decode_soft A8 l k8 i0 w8 (cellL O8 h0 (by simp) hm) R8 hl.out (by have := hn.out; omega) (by have := hn.out; omega) m8 (fun a ha => (hvb a.block (by rw [ha]; rfl)).2)
    rw [hn.out] at DC
    clear V6 R6 V8
    go_wp2_with fail
    go_call DC as e w9 ⟨P9, m, E, rfl, ok, new, soft, hD⟩
    clear DC
    obtain ⟨w10, hw10⟩ : ∃ w10, w10 = w9.alloc (.cells #[.int .i64 m.kind, .int .u32 m.chan, .int .u32 m.sender, .int .u32 m.window, .int .u32 m.packet, .int .u32 m.code, .string m.name, .string m.lang, .bool m.want, .slice m.dA m.data.length m.dc] 25) := ⟨_, rfl⟩
    have P10 : Only [] w9 w10 := by rw [hw10]; exact (Only.refl _ _).alloc _
    have K10 : Blk w10 w9.heap.size 25 m.cells := by rw [hw10]; exact Blk.new w9 _ _
    have O10 : Only [] w w10 := (O8.trans P9 (by simp)).trans P10 (by simp)
    have RD := rdec_any A l c w10 (h.only O10) hl.out (by have := hn.out; omega) (by have := hn.out; omega) hcm
    rw [hn.out] at RD
    unfold MD.val
    go_wp2_with fail
    rw [← hw10]
    replace hw10 := hide hw10
    go_call RD as e w11 ⟨P11, m2, E2, rfl, ok2, hD2⟩
    clear RD
    obtain ⟨rfl, same⟩ := dec_same hD hD2
    clear hD hD2
    obtain ⟨w12, hw12⟩ : ∃ w12, w12 = w11.alloc (.cells #[.int .i64 m2.kind, .int .u32 m2.chan, .int .u32 m2.sender, .int .u32 m2.window, .int .u32 m2.packet, .int .u32 m2.code, .string m2.name, .string m2.lang, .bool m2.want, .slice m2.dA m2.data.length m2.dc] 25) := ⟨_, rfl⟩
    have P12 : Only [] w11 w12 := by rw [hw12]; exact (Only.refl _ _).alloc _
    have P1012 : Only [] w10 w12 := P11.trans P12 (by simp)
    have K12 := K10.only P1012 (by simp)
    have P912 : Only [] w9 w12 := P10.trans P1012 (by simp)
    have SM := msame_any m m2 w12 (ok.only P912) (ok2.only P12) same
    have hk11 : w9.heap.size < w11.heap.size := by have := K10.lt; have := P11.size; omega
    have K11 := K10.only P11 (by simp)
    have hne : ¬ w9.heap.size = w11.heap.size := by omega
    have hne2 : ¬ w11.heap.size = w9.heap.size := by omega
    have a0 : w11.cell? ⟨w9.heap.size, 0, none⟩ = some (.int .i64 m.kind) := K11.cell 0
    have a1 : w11.cell? ⟨w9.heap.size, 1, none⟩ = some (.int .u32 m.chan) := K11.cell 1
    have a2 : w11.cell? ⟨w9.heap.size, 2, none⟩ = some (.int .u32 m.sender) := K11.cell 2
    have a3 : w11.cell? ⟨w9.heap.size, 3, none⟩ = some (.int .u32 m.window) := K11.cell 3
    have a4 : w11.cell? ⟨w9.heap.size, 4, none⟩ = some (.int .u32 m.packet) := K11.cell 4
    have a5 : w11.cell? ⟨w9.heap.size, 5, none⟩ = some (.int .u32 m.code) := K11.cell 5
    have a6 : w11.cell? ⟨w9.heap.size, 6, none⟩ = some (.string m.name) := K11.cell 6
    have a7 : w11.cell? ⟨w9.heap.size, 7, none⟩ = some (.string m.lang) := K11.cell 7
    have a8 : w11.cell? ⟨w9.heap.size, 8, none⟩ = some (.bool m.want) := K11.cell 8
    have a9 : w11.cell? ⟨w9.heap.size, 9, none⟩ = some (.slice m.dA m.data.length m.dc) := K11.cell 9
    unfold MD.val at SM ⊢
    go_wp2_with fail
    rw [← hw12]
    replace hw12 := hide hw12
    go_call SM as e w13 ⟨rfl, P13⟩
    clear SM
    clear a0 a1 a2 a3 a4 a5 a6 a7 a8 a9
    have P913 : Only [] w9 w13 := P912.trans P13 (by simp)
    have K13 := K12.only P13 (by simp)
    have ok13 := ok.only P913
    have soft13 : MSoft m w13 := soft.onlyL ok P913 (by simp)
    have O9 : Only [] w w9 := O8.trans P9 (by simp)
    have P813 : Only [] w8 w13 := P9.trans P913 (by simp)
    have O13 : Only [] w w13 := O8.trans P813 (by simp)
    have d9 : w13.cell? ⟨w9.heap.size, 9, none⟩ = some (.slice m.dA m.data.length m.dc) := K13.cell 9
    obtain ⟨dn, hdn⟩ : ∃ dn, m.data.length = dn := ⟨_, rfl⟩
    have hdn9 : dn ≤ 9223372036854775807 := by have := ok.dle; have := ok.dmax; unfold maxLen at this; omega
    rw [hdn] at d9
    have SF : Soft [⟨0, 0, m.dA, m.dc, m.data, none, 0, []⟩] w13 := by
      intro f hf b off ha i hi
      simp only [List.mem_singleton] at hf
      subst hf
      dsimp only at ha hi
      refine ⟨?_, ?_⟩
      · obtain ⟨b', off', e, _, hc⟩ := ok13.data (by omega)
        rw [ha] at e
        injection e with e
        injection e with e1 e2
        subst e1
        subst e2
        exact ⟨_, hc i _ (List.getElem?_eq_getElem hi)⟩
      · have := soft13 _ ha i hi
        rwa [Addr.add_lit] at this
    replace hdn := hide hdn
    go_wp2_with fail
    go_loopw [39] (fun i wr => ∃ k : Nat, k ≤ dn ∧ i = .int .i64 k ∧ Soft [⟨0, 0, m.dA, m.dc, m.data, none, 0, []⟩] wr ∧ Only (m.dA.toList.map (·.block)) w13 wr ∧ wr.cell? ⟨w9.heap.size, 9, none⟩ = some (.slice m.dA dn m.dc)) (fun i _ => dn - (intOf i).toNat)
    case atStart => exact ⟨0, Nat.zero_le _, rfl, SF, Only.refl _ _, d9⟩
    case round =>
      obtain ⟨wp, rfl⟩ : ∃ wp : World, wp = wr := ⟨_, rfl⟩
      obtain ⟨k, hk, rfl, S, X, dp⟩ := hrel
      by_cases hlt : k < dn
      · obtain ⟨b, off, hA, hbl, _⟩ := ok.data (by have := hdn.out; omega)
        have hblk : w8.heap.size ≤ b := new _ hA
        have hb9 : b < w9.heap.size := hbl
        obtain ⟨⟨x', cx'⟩, fx'⟩ := S ⟨0, 0, m.dA, m.dc, m.data, none, 0, []⟩ (by simp) b off hA k (by have := hdn.out; dsimp only; omega)
        rw [hA] at dp
        have hq : ¬ w9.heap.size = b := by omega
        have hq2 : ¬ b = w9.heap.size := by omega
        go_wp2_with fail
        go_region
        go_wp2_with fail
        go_roundw
        case rel =>
          refine ⟨k + 1, by omega, by go_num, (S.set ⟨b, off + k, none⟩ _).drew, (X.setCell (p := ⟨b, off + k, none⟩) (.inl (by rw [hA]; simp)) _).drew, ?_⟩
          rw [hA]
          exact cellL ((Only.refl [b] wp).setCell (p := ⟨b, off + k, none⟩) (.inl (by simp)) _) (by have := X.size; have := K13.lt; omega) (by simp; omega) dp
        case measure => simp [intOf]; omega
      · obtain rfl : k = dn := by omega
        have X8 : Only [] w8 wp := P813.trans X (fun x hx => by
          cases hA : m.dA with
          | none => rw [hA] at hx; simp at hx
          | some a => rw [hA] at hx; simp at hx; subst hx; exact .inr (new a hA))
        have OZ : Only [] w wp := O8.trans X8 (by simp)
        have BY := bytes_any wp A8 A l l k8 c (R8.only X8) (h.only OZ) (by have := hn.out; omega) (by have := hn.out; omega)
        rw [show eqB l l = true from decide_eq_true rfl, hn.out] at BY
        go_wp2_with fail
        go_call BY as e w14 ⟨rfl, P14⟩
        go_wp2_with fail
        go_ret
        exact ⟨rfl, (OZ.trans P14 (by simp)).below (Nat.le_refl _) (by simp)⟩

theorem mlen {W : World} (h : W.ShapedOpen Tryz.prog) : ∃ m, W.cell? ⟨0, 0, none⟩ = some (.int .i64 m) :=
  cell_of_shapedOpen_int (t := 3) (zero := #[.int .i64 0]) h (of_decide_eq_true (by kernel_rfl)) (by kernel_rfl) rfl (by kernel_rfl) (by kernel_rfl) Tryz.underlying3

set_option maxRecDepth 100000 in
theorem messageDecodes_law : LawWalkC Tryz.prog 4 Tryz.f4 := by
  intro H enc W base args ds ps hval hA hsz hshape
  rw [Tryz.params4] at hA hval hsz
  obtain ⟨m, hm⟩ := mlen hshape
  obtain ⟨v0, d0, rfl, rfl, h0⟩ := trodAll_one hA
  obtain ⟨A, l, c, rfl, hlc, hcm, hR, hz, _⟩ := open_sl Tryz.underlying23 Tryz.underlying5 (by kernel_rfl) (hval 0 23 v0 rfl rfl) h0
  exact messageDecodes_walk A l c m W hm hR (fun x hx => by have := wf_u8 (hz x hx); omega) hlc hcm

set_option maxRecDepth 100000 in
theorem messageDecodes_row : Rows.MessageDecodesSaid :=
  OpenClaim.holds_of_wide 4 Tryz.f4 rfl rfl rfl rfl rfl rfl rfl ⟨rfl, rfl, rfl, rfl, rfl⟩ rfl rfl rfl rfl rfl (by kernel_rfl) Tryz.func4 (by kernel_rfl)
    (of_decide_eq_true (by kernel_rfl)) (by unfold Func.isWrapper; rw [if_neg (by decide +kernel)]; exact ⟨rfl, rfl⟩)
    (fun os started H enc _ => law_liftedC own laidOut Tryz.underlying4 4 Tryz.f4 Rows.messageDecodesSpec Tryz.func4 (by kernel_rfl) (by kernel_rfl) (by kernel_rfl) rfl
      (fun H ds hl => by
        have hl : ds.length = 1 := hl
        match ds, hl with
        | [d1], _ => rfl)
      (fun w => laidMetH Tryz.prog Rows.messageDecodesRow.laid w)
      messageDecodes_law os started H enc
      (ChangeSpec.witness_shaped (enc := enc) (C := Tryz.checked) (os := os) (X := fun w _ => laidMetH Tryz.prog Rows.messageDecodesRow.laid w) false (World.laidAll Tryz.prog os Rows.messageDecodesRow.laid) #[.slice none 0 0] 8 (World.laidAll_os _ _ _)
        (World.shaped_of_ZipB (by kernel_rfl) (by kernel_rfl)) (by kernel_rfl) (by kernel_rfl) (by kernel_rfl)
        (by rw [MakeChecks.laidMetH_plain _ _ _ (by kernel_rfl)]; exact laidMet_laidAll _ (by kernel_rfl) (by kernel_rfl))))

/-- The tied card. -/
theorem messageDecodes_holds : Rows.MessageDecodesCardSaid :=
  Claim7.holds_tied_plain_at .later [] [.data, .pinned] true (true, "748944305270fcee2e7d9451fc92c9eabb5ad02bf83181437fcea669d262f7da") false messageDecodes_row (fun _ h => by cases h) (by kernel_rfl) (fun _ h => by cases h) messageDecodes_row_tie rfl ⟨rfl, rfl⟩ (by kernel_rfl) rfl
    (fun f fn hf hfn => by
      obtain rfl : f = 4 := Option.some.inj ((show Tryz.prog.funcNamed "parlour/parlourlaw03.MessageDecodes" = some 4 by kernel_rfl).symm.trans hf) |>.symm
      obtain rfl : fn = Tryz.f4 := (Option.some.inj (Tryz.func4.symm.trans hfn)).symm
      exact ⟨by kernel_rfl, fun j t ht => by
        rw [Tryz.params4] at ht
        have hm : t ∈ [23] := by simpa using Array.mem_of_getElem? ht
        have hall : ([23].all fun u => !Tryz.prog.wantsStandIn u) = true := by kernel_rfl
        exact (show Tryz.prog.wantsStandIn t = false by simpa using List.all_eq_true.1 hall t hm)⟩)
    (by kernel_rfl)
#print axioms messageDecodes_holds
end Go.Proofs.YtdmjabfjkkjhbaaGreatDoor

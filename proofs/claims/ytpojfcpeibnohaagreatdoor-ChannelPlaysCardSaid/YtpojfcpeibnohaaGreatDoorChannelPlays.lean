/- The law ChannelPlays holds: from any channel, through any steps, the channel answers what the reference's answers, and no answer shares bytes with what the step was handed; for all arguments; no condition. -/
import Derived.Test.YtpojfcpeibnohaaGreatDoorPlB
import Derived.Test.YtpojfcpeibnohaaGreatDoorPlC
import Derived.Test.YtpojfcpeibnohaaGreatDoorTie
import Derived.Test.YtpojfcpeibnohaaGreatDoorCards
namespace Go.Proofs.YtpojfcpeibnohaaGreatDoor
set_option linter.all false
open Go.ChangeShapes Go.WideShapes Go.ChangeAt Go.RowKit Go.Deep

set_option maxRecDepth 100000
theorem arrN12 {l : List Value} (h : l.length = 12) : ∃ c0 c1 c2 c3 c4 c5 c6 c7 c8 c9 c10 c11, l = [c0, c1, c2, c3, c4, c5, c6, c7, c8, c9, c10, c11] := by
  match l, h with
  | [c0, c1, c2, c3, c4, c5, c6, c7, c8, c9, c10, c11], _ => exact ⟨c0, c1, c2, c3, c4, c5, c6, c7, c8, c9, c10, c11, rfl⟩
section
variable {H : Type} {enc : TypeId × Value → H} {w : World} {base : Nat} {spare : Nat → Bool} {held : Bool}
theorem ch_cells {n : Nat} {l : List Value} {y : DataW H × List MemPlace} (hl : l.length = 12) (h : DataW.trod enc Tryz.prog w base spare held n 52 l = some y) : ∃ x : CH, l = x.cells ∧ x.ok := by
  obtain ⟨n1, hf⟩ := trod_fields Tryz.underlying52 h
  obtain ⟨c0, c1, c2, c3, c4, c5, c6, c7, c8, c9, c10, c11, rfl⟩ := arrN12 hl
  obtain ⟨_, g0⟩ := hf.at_ 0 22 0 1 _ rfl rfl rfl (by kernel_rfl) rfl
  obtain ⟨_, g1⟩ := hf.at_ 1 22 1 1 _ rfl rfl rfl (by kernel_rfl) rfl
  obtain ⟨_, g2⟩ := hf.at_ 2 22 2 1 _ rfl rfl rfl (by kernel_rfl) rfl
  obtain ⟨_, g3⟩ := hf.at_ 3 22 3 1 _ rfl rfl rfl (by kernel_rfl) rfl
  obtain ⟨_, g4⟩ := hf.at_ 4 22 4 1 _ rfl rfl rfl (by kernel_rfl) rfl
  obtain ⟨_, g5⟩ := hf.at_ 5 22 5 1 _ rfl rfl rfl (by kernel_rfl) rfl
  obtain ⟨_, g6⟩ := hf.at_ 6 4 6 1 _ rfl rfl rfl (by kernel_rfl) rfl
  obtain ⟨_, g7⟩ := hf.at_ 7 4 7 1 _ rfl rfl rfl (by kernel_rfl) rfl
  obtain ⟨_, g8⟩ := hf.at_ 8 4 8 1 _ rfl rfl rfl (by kernel_rfl) rfl
  obtain ⟨_, g9⟩ := hf.at_ 9 4 9 1 _ rfl rfl rfl (by kernel_rfl) rfl
  obtain ⟨_, g10⟩ := hf.at_ 10 3 10 1 _ rfl rfl rfl (by kernel_rfl) rfl
  obtain ⟨_, g11⟩ := hf.at_ 11 4 11 1 _ rfl rfl rfl (by kernel_rfl) rfl
  obtain ⟨loc, rfl, u0⟩ := agg_int Tryz.underlying22 g0
  obtain ⟨rem, rfl, u1⟩ := agg_int Tryz.underlying22 g1
  obtain ⟨left, rfl, u2⟩ := agg_int Tryz.underlying22 g2
  obtain ⟨pack, rfl, u3⟩ := agg_int Tryz.underlying22 g3
  obtain ⟨inl, rfl, u4⟩ := agg_int Tryz.underlying22 g4
  obtain ⟨lim, rfl, u5⟩ := agg_int Tryz.underlying22 g5
  obtain ⟨sE, rfl⟩ := agg_boolP Tryz.underlying4 g6
  obtain ⟨sC, rfl⟩ := agg_boolP Tryz.underlying4 g7
  obtain ⟨gE, rfl⟩ := agg_boolP Tryz.underlying4 g8
  obtain ⟨gC, rfl⟩ := agg_boolP Tryz.underlying4 g9
  obtain ⟨owed, rfl, u10⟩ := agg_int Tryz.underlying3 g10
  obtain ⟨told, rfl⟩ := agg_boolP Tryz.underlying4 g11
  exact ⟨⟨loc, rem, left, pack, inl, lim, sE, sC, gE, gC, owed, told⟩, rfl, ⟨wf_u32 u0, wf_u32 u1, wf_u32 u2, wf_u32 u3, wf_u32 u4, wf_u32 u5, wf_i64 u10⟩⟩
theorem open_ch {r : Reach} {b0 : Nat} {v : Value} {d : DataW H} {p : List MemPlace} (hv : Value.okWide Tryz.prog w r b0 52 v) (h : DataW.Trod enc Tryz.prog w base spare held 52 v d p) : ∃ c : CH, v = c.val ∧ c.ok := by
  obtain ⟨cs, rfl, hsz⟩ := okWide_struct Tryz.underlying52 hv
  obtain ⟨l⟩ := cs
  obtain ⟨fuel, hf⟩ := h
  have hcs : (Value.agg ⟨l⟩).cells.toList = l := by simp [Value.cells]
  rw [hcs] at hf
  obtain ⟨c, e, hok⟩ := ch_cells (by simpa using hsz.trans (by kernel_rfl : Tryz.prog.cellsOf 52 = 12)) hf
  exact ⟨c, by rw [e]; rfl, hok⟩
theorem weightsAll_mem {P : Program} {e : TypeId} : ∀ {ds : List (DataW H)} {d : DataW H}, d ∈ ds → ∀ n ∈ d.weights P e, n ∈ DataW.weightsAll P e ds
  | [], _, h, _, _ => by cases h
  | x :: r, d, h, n, hn => by
    simp only [DataW.weightsAll, List.mem_append]
    rcases List.mem_cons.1 h with rfl | h
    · exact .inl hn
    · exact .inr (weightsAll_mem h n hn)
theorem field_weight {P : Program} {R n : Nat} {t : TypeId} {fs : Array Field} {l l' : List Value} {y : DataW H × List MemPlace} (hs : P.underlying t = some (.struct fs)) (h : DataW.trod enc P w base spare held n t l = some y) (hW : ∀ k ∈ y.1.weights P t, k ≤ R) (j : Nat) (T : TypeId) (off k : Nat) (f : Field) (hj : fs[j]? = some f) (hT : f.type = T) (ho : f.offset = off) (hk : P.cellsOf T = k) (hl : (l.drop off).take k = l') :
    ∃ n' y', DataW.trod enc P w base spare held n' T l' = some y' ∧ ∀ q ∈ y'.1.weights P T, q ≤ R := by
  obtain ⟨ys, n', _, hx, _, hyl, hg⟩ := DataW.trod_struct hs h
  have hjl : j < fs.size := (Array.getElem?_eq_some_iff.1 hj).1
  have hjy : j < ys.length := by omega
  have e := hg j f hj
  rw [List.getElem?_eq_getElem hjy, hT, ho, hk, hl] at e
  refine ⟨n', ys[j], e, fun q hq => hW q ?_⟩
  subst hx
  simp only [DataW.weights, hs]
  exact DataW.weights_mem_each (j := j) (t := T) (d := (ys[j]).1) (by simp [hj, hT]) (by simp [hjy]) q hq
theorem bytes_weight {P : Program} {R n : Nat} {t e : TypeId} {A : Option Addr} {len cap : Nat} {y : DataW H × List MemPlace} (ht : P.underlying t = some (.slice e)) (he : P.underlying e = some (.int .u8)) (hc : P.cellsOf e = 1) (hb : P.bytesOf e = 1) (h : DataW.trod enc P w base spare held n t [.slice A len cap] = some y) (hW : ∀ k ∈ y.1.weights P t, k ≤ R) : len ≤ R := by
  rcases Go.ChangeShapes.open_ints ht he hc h with ⟨hcs, _⟩ | ⟨a, l, c', zs, hcs, _, hl, hm, hz, hx, _, _⟩
  · simp at hcs
    omega
  · simp at hcs
    obtain ⟨_, rfl, _⟩ := hcs
    have hlz : len ≤ zs.length := by split at hz <;> omega
    subst hx
    have := hW (((lits IntKind.u8 (zs.take len)).length + (lits IntKind.u8 (zs.drop len)).length) * P.bytesOf e) (by simp only [DataW.weights, ht]; exact List.mem_cons_self)
    rw [hb] at this
    simp [lits] at this
    omega
theorem open_rdXW {P : Program} {R : Nat} {α : Type} {cf : α → List Value} {ok : α → Prop} {t e : TypeId} {size : Nat} {v : Value} {d : DataW H} {p : List MemPlace} (ht : P.underlying t = some (.slice e)) (hC : P.cellsOf e = size) (hW : ∀ k ∈ d.weights P t, k ≤ R)
    {A : Option Addr} {xs : List α} {cap : Nat} (hcl : ∀ x, (cf x).length = size) (h0 : 0 < size) (hv : v = .slice A xs.length cap) (hr : RdX cf w A xs) (hel : ∀ (n : Nat) (x : α) (y : DataW H × List MemPlace), DataW.trod enc P w base spare held n e (cf x) = some y → (∀ k ∈ y.1.weights P e, k ≤ R) → ok x)
    (h : DataW.Trod enc P w base spare held t v d p) : ∀ x ∈ xs, ok x := by
  subst hv
  obtain ⟨fuel, hf⟩ := h
  rcases open_slice ht hf with ⟨hcs, _⟩ | ⟨a, l, c, m, n, D, Pl, hcs, _, hlc, hm, hmm, hx, hi⟩
  · simp [Value.cells] at hcs
    intro x hx
    rw [hcs.2.1] at hx; cases hx
  · simp [Value.cells] at hcs
    obtain ⟨rfl, rfl, rfl⟩ := hcs
    have hlm : xs.length ≤ m := by rw [hmm]; split <;> omega
    intro x hx1
    obtain ⟨i, hi1⟩ := List.mem_iff_getElem?.1 hx1
    have hil := (List.getElem?_eq_some_iff.1 hi1).1
    obtain ⟨cs', hc, ht'⟩ := hi i (by omega)
    obtain ⟨_, hcl', hat⟩ := World.cells?_some hc
    rw [hC] at hcl' hat
    obtain ⟨b, off, e1, _, hcell⟩ := hr (by omega)
    injection e1 with e1
    subst e1
    have hcx := hcl x
    have ecs : cs' = cf x := by
      refine List.ext_getElem? fun j => ?_
      rcases Nat.lt_or_ge j size with hj | hj
      · have h1 := hat j hj
        have h2 := rdX_range hcl hr hi1 j ((cf x)[j]'(by rw [hcl]; exact hj)) (List.getElem?_eq_getElem _)
        rw [Addr.add_lit, Addr.add_lit] at h1
        rw [List.getElem?_eq_getElem (by omega : j < (cf x).length), ← h2, h1]
      · exact (List.getElem?_eq_none (l := cs') (by omega)).trans (List.getElem?_eq_none (l := cf x) (by omega)).symm
    subst ecs
    injection hx with hd hp
    subst hd
    refine hel n x _ ht' fun k hk => hW k ?_
    simp only [DataW.weights, ht, List.mem_cons, List.mem_append]
    exact .inr (.inl (weightsAll_mem (List.mem_map.2 ⟨i, List.mem_range.2 hil, rfl⟩) k hk))
end

set_option maxRecDepth 100000 in
theorem channelPlays_law : LawWalkC Tryz.prog 5 Tryz.f5 := by
  intro H enc W base args ds ps hval hA hsz hshape
  rw [Tryz.params5] at hA hval hsz
  obtain ⟨v0, v1, d0, d1, p0, p1, rfl, rfl, rfl, h0, h1⟩ := trodAll_two hA
  obtain ⟨c0, rfl, hc0⟩ := open_ch (hval 0 52 v0 rfl rfl) h0
  obtain ⟨A, ops, cap, rfl, hl1, hl2, hr, hok⟩ := open_ops (hval 1 23 v1 rfl rfl) h1
  have hby : ∀ o ∈ ops, o.b.length ≤ reachBytes := open_rdXW Tryz.underlying23 (by kernel_rfl : Tryz.prog.cellsOf 41 = 25) (fun k hk => by
    have := List.all_eq_true.1 hsz k (DataW.weights_mem_each (j := 1) rfl rfl k hk)
    simpa using this) opd_len (by decide) rfl hr (fun n o y hy hw => by
    obtain ⟨n', y', h2, h3⟩ := field_weight (l' := [.slice o.bA o.b.length o.bc]) Tryz.underlying41 hy hw 4 33 23 1 _ rfl rfl rfl (by kernel_rfl) rfl
    exact bytes_weight Tryz.underlying33 Tryz.underlying5 (by kernel_rfl) (by kernel_rfl) h2 h3) h1
  exact (plays_walk c0 ops A cap W hc0 hr (Nat.le_trans hl1 hl2) hok (fun o ho => Nat.le_trans (hby o ho) (by decide))).mono fun e w' h => ⟨h.1, h.2.below (Nat.le_refl _) (by simp)⟩

set_option maxRecDepth 100000 in
theorem channelPlays_row : Rows.ChannelPlaysSaid :=
  OpenClaim.holds_of_wide 5 Tryz.f5 rfl rfl rfl rfl rfl rfl rfl ⟨rfl, rfl, rfl, rfl, rfl⟩ rfl rfl rfl rfl rfl (by kernel_rfl) Tryz.func5 (by kernel_rfl)
    (of_decide_eq_true (by kernel_rfl)) (by unfold Func.isWrapper; rw [if_neg (by decide +kernel)]; exact ⟨rfl, rfl⟩)
    (fun os started H enc _ => law_liftedC own laidOut Tryz.underlying4 5 Tryz.f5 Rows.channelPlaysSpec Tryz.func5 (by kernel_rfl) (by kernel_rfl) (by kernel_rfl) rfl
      (fun H ds hl => by
        have hl : ds.length = 2 := hl
        match ds, hl with
        | [d1, d2], _ => rfl)
      (fun w => laidMetH Tryz.prog Rows.channelPlaysRow.laid w)
      channelPlays_law os started H enc
      (ChangeSpec.witness_shaped (enc := enc) (C := Tryz.checked) (os := os) (X := fun w _ => laidMetH Tryz.prog Rows.channelPlaysRow.laid w) false (World.laidAll Tryz.prog os Rows.channelPlaysRow.laid) #[.agg #[.int .u32 0, .int .u32 0, .int .u32 0, .int .u32 0, .int .u32 0, .int .u32 0, .bool false, .bool false, .bool false, .bool false, .int .i64 0, .bool false], .slice none 0 0] 8 (World.laidAll_os _ _ _)
        (World.shaped_of_ZipB (by kernel_rfl) (by kernel_rfl)) (by kernel_rfl) (by kernel_rfl) (by kernel_rfl)
        (by rw [MakeChecks.laidMetH_plain _ _ _ (by kernel_rfl)]; exact laidMet_laidAll _ (by kernel_rfl) (by kernel_rfl))))

/-- The tied card. -/
theorem channelPlays_holds : Rows.ChannelPlaysCardSaid :=
  Claim7.holds_tied_plain_at .later [] [.data, .pinned] true (true, "405df24f2ac5944519c1d4dd020f7ffed222d7188544125e071bb046a53f3742") false channelPlays_row (fun _ h => by cases h) (by kernel_rfl) (fun _ h => by cases h) channelPlays_row_tie rfl ⟨rfl, rfl⟩ (by kernel_rfl) rfl
    (fun f fn hf hfn => by
      obtain rfl : f = 5 := Option.some.inj ((show Tryz.prog.funcNamed "parlour/parlourlaw25.ChannelPlays" = some 5 by kernel_rfl).symm.trans hf) |>.symm
      obtain rfl : fn = Tryz.f5 := (Option.some.inj (Tryz.func5.symm.trans hfn)).symm
      exact ⟨by kernel_rfl, fun j t ht => by
        rw [Tryz.params5] at ht
        have hm : t ∈ [52, 23] := by simpa using Array.mem_of_getElem? ht
        have hall : ([52, 23].all fun u => !Tryz.prog.wantsStandIn u) = true := by kernel_rfl
        exact (show Tryz.prog.wantsStandIn t = false by simpa using List.all_eq_true.1 hall t hm)⟩)
    (by kernel_rfl)
#print axioms channelPlays_holds
end Go.Proofs.YtpojfcpeibnohaaGreatDoor

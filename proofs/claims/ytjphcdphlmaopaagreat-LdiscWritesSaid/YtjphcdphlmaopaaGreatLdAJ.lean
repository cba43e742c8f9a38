/- Layer 16: signals come of three characters alone; for all disciplines and bytes; no condition. -/
import Derived.Test.YtjphcdphlmaopaaGreatLdOpn
namespace Go.Proofs.YtjphcdphlmaopaaGreat
set_option linter.all false
set_option maxRecDepth 100000
open Go.RowKit

theorem Data.only {s : DS} {d : DM} {w w' : World} (h : Data s d w) (O : Only [] w w') : Data s d w' := ⟨h.line.only O, h.lines.only O, h.map, h.raw.only O, h.out.only O⟩
theorem Nx.dat {w00 w0 w : World} {L β : List Nat} {hp : List HB} {F : World → Prop} {d : DM} {s : DS} {g : Nat} (C : Nx w00 w0 L (fun w => Data s d w ∧ F w)) (H : Mem w0 L β hp w) (k : Nat) (hβ : β[k]? = some g) (hk : hp[k]? = some (.b true 53 (discSC d s))) : DAt w g d s := by
  have hgm : g ∈ wrN β hp := wrN_mem.2 ⟨k, _, g, hk, hβ, rfl, rfl⟩
  refine ⟨?_, ((C.keeps.step H).mono fun x hx => by rw [List.mem_singleton.1 hx]; exact hgm).imp fun _ h => h.1⟩
  have := H.at k hk
  rw [nm_get hβ] at this
  exact this
theorem used_put (d : DM) (b : List Int) : usedD (putD d b).1 = usedD d := by
  unfold putD
  split <;> rfl
theorem used_show (d : DM) (b : List Int) : usedD (showD d b) = usedD d := by
  unfold showD
  split <;> exact used_put d _
theorem used_echo (d : DM) (b : List Int) : usedD (echoD d b) = usedD d := by
  unfold echoD
  split
  · exact used_show d b
  · rfl
theorem used_marks (d : DM) : usedD (marksD d) = usedD d := used_put _ _
theorem used_send4 (d : DM) (c : Int) : usedD (send4D d c) = usedD d := by
  unfold send4D
  refine (used_echo _ _).trans ?_
  split <;> rfl
theorem sig_cases (d : DM) (c : Int) : (sigN d c = 0 ∨ d.t.has 50 = true) ∧ (sigN d c = 0 ∨ (sigN d c = 2 ∧ d.t.is 1 c = true) ∨ (sigN d c = 3 ∧ d.t.is 2 c = true) ∨ (sigN d c = 20 ∧ d.t.is 10 c = true)) := by
  unfold sigN
  cases h0 : d.t.has 50 <;> cases h1 : d.t.is 1 c <;> cases h2 : d.t.is 2 c <;> cases h3 : d.t.is 10 c <;> simp
/-- What a signal tells. -/
structure SigOf (d : DM) (c sg : Int) : Prop where
  sigs : (inputD d c).2 = [sg]
  next : d.next = false
  isig : d.t.has 50 = true
  chr : (sg = 2 ∧ d.t.is 1 (stripC d.t c) = true) ∨ (sg = 3 ∧ d.t.is 2 (stripC d.t c) = true) ∨ (sg = 20 ∧ d.t.is 10 (stripC d.t c) = true)
  used : usedD (inputD d c).1 = if d.t.has 57 then usedD d else 0
theorem input_sigs (d : DM) (c : Int) : (inputD d c).2 = [] ∨ ∃ sg, SigOf d c sg := by
  cases h1 : d.next with
  | true => left; unfold inputD; rw [h1]; rfl
  | false =>
    cases h2 : typedU d.t (stripC d.t c) with
    | true => left; unfold inputD; rw [h1, h2]; rfl
    | false =>
      by_cases h3 : sigN d (stripC d.t c) > 0
      · right
        have e : inputD d c = (marksD (sendD { d with idle := 0, st := typedF d.t d.st (stripC d.t c) } (stripC d.t c) (sigN d (stripC d.t c))), [sigN d (stripC d.t c)]) := by
          unfold inputD; rw [h1, h2, if_neg (by decide), if_neg (by decide), if_pos h3]
        obtain ⟨k1, k2⟩ := sig_cases d (stripC d.t c)
        refine ⟨sigN d (stripC d.t c), by rw [e], h1, ?_, ?_, ?_⟩
        · rcases k1 with k | k
          · omega
          · exact k
        · rcases k2 with k | k
          · omega
          · exact k
        · rw [e]
          show usedD (marksD _) = _
          rw [used_marks]
          unfold sendD
          rw [used_send4]
          show usedD (if d.t.has 57 then _ else _) = _
          cases d.t.has 57 with
          | true => rfl
          | false =>
            simp only [Bool.false_eq_true, if_false]
            split <;> rfl
      · left
        unfold inputD
        rw [h1, h2, if_neg (by decide), if_neg (by decide), if_neg h3]
        split <;> rfl
set_option maxHeartbeats 1000000 in
theorem signals_walk (d : DM) (s : DS) (c : Int) (w : World) (hD : DArg w 140737488355328 d s) : Calls Tryz.prog 3 #[.agg (discV d s).toArray, .int .u8 c] w fun e w' => e = .returned (.bool true) ∧ Only [] w w' := by
  refine Hs.enter Tryz.func3 [] [] [] [.g (discSC d s), .c (.v (.int .u8 c))] (Mem.start0 w) (by kernel_rfl) (by kernel_rfl) ?_
  refine Hs.run1 300 (fun _ => by kernel_rfl) fun b0 => ?_
  refine Hs.callV (fun w' H => alive16_any w') (by kernel_rfl) ?_
  refine Hs.run0 300 (fun _ => by kernel_rfl) ?_
  refine Hs.condF (by kernel_rfl) ?_
  refine Hs.run0 300 (fun _ => by kernel_rfl) ?_
  refine Hs.callV (fun w' H => great16_any d s w' (hD.data.only H.only) ⟨hD.line, hD.raw, hD.out, hD.txt⟩) (by kernel_rfl) ?_
  refine Hs.run0 300 (fun _ => by kernel_rfl) ?_
  refine Hs.cond (greatD d) (by kernel_rfl) (fun hg => ?_) (fun hg => ?_)
  · refine Hs.run0 300 (fun _ => by kernel_rfl) ?_
    exact Hs.ret (v := .bool true) Tryz.func3 (by kernel_rfl) fun w' H => ⟨rfl, H.only⟩
  have hf := (few_of ⟨hD.line, hD.raw, hD.out, hD.txt⟩ hg).1
  refine Hs.run0 300 (fun _ => by kernel_rfl) ?_
  refine Hs.callB 1 (fun s1 => discSC d s1) (Nx.start w) (fun w' H => to16_any d s w' (hD.data.only H.only) hf) (fun β x => rfl) (fun x j => disc_wf _ _ _) (by kernel_rfl) (by kernel_rfl) (by kernel_rfl) fun g s1 w1 L1 N1 => ?_
  refine Hs.run0 300 (fun _ => by kernel_rfl) ?_
  refine Hs.callV (fun w' H => dused_any d s1 g w' (N1.dat H 1 rfl (by kernel_rfl)) hf) (by kernel_rfl) ?_
  refine Hs.run0 300 (fun _ => by kernel_rfl) ?_
  have hin := fun w' hd => input_any d s1 g c w' hd hf
  rcases input_sigs d c with hs | ⟨sg, S⟩
  · rw [hs] at hin
    refine Hs.callNI (s := s1) (d := d) (d' := (inputD d c).1) (l := []) 1 0 rfl N1 rfl (by kernel_rfl) (fun w' H hd => hin w' hd) (by kernel_rfl) (by kernel_rfl) (fun _ => (by kernel_rfl)) fun s2 A w2 L2 N2 => ?_
    refine Hs.run0 300 (fun _ => by kernel_rfl) ?_
    refine Hs.condT (by kernel_rfl) ?_
    refine Hs.run0 300 (fun _ => by kernel_rfl) ?_
    exact Hs.ret (v := .bool true) Tryz.func3 (by kernel_rfl) fun w' H => ⟨rfl, N2.only H⟩
  · rw [S.sigs] at hin
    have hu := S.used
    have hdf : Few (inputD d c).1 := inputD_few hf
    generalize (inputD d c).1 = d2 at hin hu hdf
    refine Hs.callNI (s := s1) (d := d) (d' := d2) (l := [sg]) 1 1 rfl N1 rfl (by kernel_rfl) (fun w' H hd => hin w' hd) (by kernel_rfl) (by kernel_rfl) (fun _ => (by kernel_rfl)) fun s2 A w2 L2 N2 => ?_
    replace N2 := N2.imp fun w h => (⟨h.1.1, h.1.2⟩ : Data s2 d2 w ∧ RdX ci64 w A [sg])
    obtain ⟨ib, io, hA, _, _⟩ := N2.keeps.at.2 (Nat.zero_lt_one : 0 < [sg].length)
    subst hA
    refine Hs.run0 300 (fun _ => by kernel_rfl) ?_
    refine Hs.condF (by kernel_rfl) ?_
    refine Hs.run0 300 (fun _ => by kernel_rfl) ?_
    refine Hs.callV (fun w' H => strip_any d.t c w') (by kernel_rfl) ?_
    refine Hs.run0 300 (fun _ => by kernel_rfl) ?_
    refine Hs.idx (b := ib) (off := io) (len := 1) (c := 1) (i := 0) elemInt (by decide) (by kernel_rfl) ?_
    refine Hs.run0 300 (fun _ => by kernel_rfl) ?_
    refine Hs.ldc (E' := 3) (b := ib) (off := io + 0 * 1) (.int .i64 sg) (by kernel_rfl) (fun w' H => i64_cell (N2.now H).2 rfl) (by kernel_rfl) ?_
    have hI := S.isig
    have hN := S.next
    have key : ∀ (op : Nat) (sg0 : Int), 1 ≤ op → op ≤ 18 → d.t.is op (stripC d.t c) = true → ∀ w', Calls Tryz.prog 15 #[d.t.val, .int .i64 op, .int .u8 (stripC d.t c)] w' fun e w'' => e = .returned (.bool true) ∧ Only [] w' w'' := fun op _ h1 h2 h3 w' => by
      have := is_any d.t op (stripC d.t c) h1 h2 w'
      rw [h3] at this
      exact this
    have keyH : ∀ w', Calls Tryz.prog 16 #[d.t.val, .int .i64 50] w' fun e w'' => e = .returned (.bool true) ∧ Only [] w' w'' := fun w' => by
      have := has_any d.t 50 w'
      rw [hI] at this
      exact this
    rcases S.chr with ⟨rfl, hc⟩ | ⟨rfl, hc⟩ | ⟨rfl, hc⟩
    · refine Hs.run0 300 (fun _ => by kernel_rfl) ?_
      refine Hs.condT (by kernel_rfl) ?_
      refine Hs.run0 300 (fun _ => by kernel_rfl) ?_
      refine Hs.rung0 [3, 7] 300 (fun _ => by kernel_rfl) ?_
      refine Hs.callV (fun w' H => key 1 0 (by decide) (by decide) hc w') (by kernel_rfl) ?_
      refine Hs.rung0 [7, 15] 300 (fun _ => by kernel_rfl) ?_
      refine Hs.callV (fun w' H => keyH w') (by kernel_rfl) ?_
      refine Hs.rung0 [15, 21] 300 (fun _ => by kernel_rfl) ?_
      refine Hs.cond d.next (by kernel_rfl) (fun h => absurd (hN.symm.trans h) (by decide)) (fun _ => ?_)
      refine Hs.run0 300 (fun _ => by kernel_rfl) ?_
      refine Hs.callV (fun w' H => has_any d.t 57 w') (by kernel_rfl) ?_
      refine Hs.run0 300 (fun _ => by kernel_rfl) ?_
      refine Hs.cond (d.t.has 57) (by kernel_rfl) (fun h => ?_) (fun h => ?_)
      · rw [h, if_pos rfl] at hu
        refine Hs.run0 300 (fun _ => by kernel_rfl) ?_
        refine Hs.callV (v := .int .i64 (usedD d)) (fun w' H => by
          have := dused_any d2 s2 g w' (N2.dat H 1 rfl (by kernel_rfl)) hdf
          rw [hu] at this
          exact this) (by kernel_rfl) ?_
        refine Hs.run0 300 (fun _ => by kernel_rfl) ?_
        exact Hs.ret (v := .bool ((usedD d : Int) == (usedD d : Int))) Tryz.func3 (by kernel_rfl) fun w' H => ⟨by simp, N2.only H⟩
      · rw [h, if_neg (by decide)] at hu
        refine Hs.run0 300 (fun _ => by kernel_rfl) ?_
        refine Hs.callV (v := .int .i64 0) (fun w' H => by
          have := dused_any d2 s2 g w' (N2.dat H 1 rfl (by kernel_rfl)) hdf
          rw [hu] at this
          exact this) (by kernel_rfl) ?_
        refine Hs.run0 300 (fun _ => by kernel_rfl) ?_
        exact Hs.ret (v := .bool true) Tryz.func3 (by kernel_rfl) fun w' H => ⟨rfl, N2.only H⟩
    · refine Hs.run0 300 (fun _ => by kernel_rfl) ?_
      refine Hs.condF (by kernel_rfl) ?_
      refine Hs.run0 300 (fun _ => by kernel_rfl) ?_
      refine Hs.condT (by kernel_rfl) ?_
      refine Hs.run0 300 (fun _ => by kernel_rfl) ?_
      refine Hs.rung0 [3, 7] 300 (fun _ => by kernel_rfl) ?_
      refine Hs.callV (fun w' H => key 2 0 (by decide) (by decide) hc w') (by kernel_rfl) ?_
      refine Hs.rung0 [7, 15] 300 (fun _ => by kernel_rfl) ?_
      refine Hs.callV (fun w' H => keyH w') (by kernel_rfl) ?_
      refine Hs.rung0 [15, 21] 300 (fun _ => by kernel_rfl) ?_
      refine Hs.cond d.next (by kernel_rfl) (fun h => absurd (hN.symm.trans h) (by decide)) (fun _ => ?_)
      refine Hs.run0 300 (fun _ => by kernel_rfl) ?_
      refine Hs.callV (fun w' H => has_any d.t 57 w') (by kernel_rfl) ?_
      refine Hs.run0 300 (fun _ => by kernel_rfl) ?_
      refine Hs.cond (d.t.has 57) (by kernel_rfl) (fun h => ?_) (fun h => ?_)
      · rw [h, if_pos rfl] at hu
        refine Hs.run0 300 (fun _ => by kernel_rfl) ?_
        refine Hs.callV (v := .int .i64 (usedD d)) (fun w' H => by
          have := dused_any d2 s2 g w' (N2.dat H 1 rfl (by kernel_rfl)) hdf
          rw [hu] at this
          exact this) (by kernel_rfl) ?_
        refine Hs.run0 300 (fun _ => by kernel_rfl) ?_
        exact Hs.ret (v := .bool ((usedD d : Int) == (usedD d : Int))) Tryz.func3 (by kernel_rfl) fun w' H => ⟨by simp, N2.only H⟩
      · rw [h, if_neg (by decide)] at hu
        refine Hs.run0 300 (fun _ => by kernel_rfl) ?_
        refine Hs.callV (v := .int .i64 0) (fun w' H => by
          have := dused_any d2 s2 g w' (N2.dat H 1 rfl (by kernel_rfl)) hdf
          rw [hu] at this
          exact this) (by kernel_rfl) ?_
        refine Hs.run0 300 (fun _ => by kernel_rfl) ?_
        exact Hs.ret (v := .bool true) Tryz.func3 (by kernel_rfl) fun w' H => ⟨rfl, N2.only H⟩
    · refine Hs.run0 300 (fun _ => by kernel_rfl) ?_
      refine Hs.condF (by kernel_rfl) ?_
      refine Hs.run0 300 (fun _ => by kernel_rfl) ?_
      refine Hs.condF (by kernel_rfl) ?_
      refine Hs.run0 300 (fun _ => by kernel_rfl) ?_
      refine Hs.condT (by kernel_rfl) ?_
      refine Hs.run0 300 (fun _ => by kernel_rfl) ?_
      refine Hs.rung0 [3, 7] 300 (fun _ => by kernel_rfl) ?_
      refine Hs.callV (fun w' H => key 10 0 (by decide) (by decide) hc w') (by kernel_rfl) ?_
      refine Hs.rung0 [7, 15] 300 (fun _ => by kernel_rfl) ?_
      refine Hs.callV (fun w' H => keyH w') (by kernel_rfl) ?_
      refine Hs.rung0 [15, 21] 300 (fun _ => by kernel_rfl) ?_
      refine Hs.cond d.next (by kernel_rfl) (fun h => absurd (hN.symm.trans h) (by decide)) (fun _ => ?_)
      refine Hs.run0 300 (fun _ => by kernel_rfl) ?_
      refine Hs.callV (fun w' H => has_any d.t 57 w') (by kernel_rfl) ?_
      refine Hs.run0 300 (fun _ => by kernel_rfl) ?_
      refine Hs.cond (d.t.has 57) (by kernel_rfl) (fun h => ?_) (fun h => ?_)
      · rw [h, if_pos rfl] at hu
        refine Hs.run0 300 (fun _ => by kernel_rfl) ?_
        refine Hs.callV (v := .int .i64 (usedD d)) (fun w' H => by
          have := dused_any d2 s2 g w' (N2.dat H 1 rfl (by kernel_rfl)) hdf
          rw [hu] at this
          exact this) (by kernel_rfl) ?_
        refine Hs.run0 300 (fun _ => by kernel_rfl) ?_
        exact Hs.ret (v := .bool ((usedD d : Int) == (usedD d : Int))) Tryz.func3 (by kernel_rfl) fun w' H => ⟨by simp, N2.only H⟩
      · rw [h, if_neg (by decide)] at hu
        refine Hs.run0 300 (fun _ => by kernel_rfl) ?_
        refine Hs.callV (v := .int .i64 0) (fun w' H => by
          have := dused_any d2 s2 g w' (N2.dat H 1 rfl (by kernel_rfl)) hdf
          rw [hu] at this
          exact this) (by kernel_rfl) ?_
        refine Hs.run0 300 (fun _ => by kernel_rfl) ?_
        exact Hs.ret (v := .bool true) Tryz.func3 (by kernel_rfl) fun w' H => ⟨rfl, N2.only H⟩
end Go.Proofs.YtjphcdphlmaopaaGreat

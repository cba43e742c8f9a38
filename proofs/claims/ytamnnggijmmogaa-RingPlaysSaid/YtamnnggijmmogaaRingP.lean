/- The walks of layer 5's reference, continued: Write; for every ring, no condition. -/
import Derived.Test.YtamnnggijmmogaaRingO
namespace Go.Proofs.Ytamnnggijmmogaa
set_option linter.all false
open Go.RowKit

def RWrite (w : World) (g size base : Nat) (v : Value) (c b : List Int) (e : Ending) (w' : World) : Prop :=
  ∃ v', e = .returned (.int .i64 (fitN size c.length b.length)) ∧ RefV w' g size base v' (c ++ b.take (fitN size c.length b.length)) ∧ Moved w w' g v v'
def WrRel (w : World) (g size base : Nat) (v : Value) (c b : List Int) (f : Nat) (i : Value) (wr : World) : Prop :=
  ∃ (k : Nat) (u : Value), k ≤ f ∧ i = .int .i64 k ∧ RefV wr g size base u (c ++ b.take k) ∧ Moved w wr g v u
theorem ref_put {w wr w2 w9 : World} {g size base g9 n k9 : Nat} {v u : Value} {c c1 : List Int} (hw : base ≤ w.heap.size) (R : RefV wr g size base u c) (M : Moved w wr g v u) (Q : Only [] wr w2) (P : Only u.ownBlock.toList w2 w9)
    (V9 : OwnB w9 base (.slice (some ⟨g9, 0, none⟩) n k9) c1) (G : Where u g9 w2.heap.size) (hl : c1.length ≤ size) :
    RefV (w9.setCell ⟨g, 1, none⟩ (.slice (some ⟨g9, 0, none⟩) n k9)) g size base (.slice (some ⟨g9, 0, none⟩) n k9) c1 ∧ Moved w (w9.setCell ⟨g, 1, none⟩ (.slice (some ⟨g9, 0, none⟩) n k9)) g v (.slice (some ⟨g9, 0, none⟩) n k9) := by
  have hlow := R.low
  have K9 := (R.ring.only Q (by simp)).only P ((R.own.only Q (by simp)).low g hlow)
  refine ⟨⟨?_, ?_, hl, R.big, hlow⟩, ?_, ?_⟩
  · have := K9.set_ 1 (.slice (some ⟨g9, 0, none⟩) n k9)
    simpa using this
  · refine V9.far ((Only.refl [g] w9).setCell (p := ⟨g, 1, none⟩) (.inl (by simp)) _) (fun x hx hv => ?_)
    simp at hx
    have := V9.block x hv.symm
    omega
  · have P' : Only (g :: v.ownBlock.toList) w w9 := (M.1.trans Q (by simp)).trans P (fun x hx => by
      rcases M.2 with h | h
      · rw [h] at hx; exact .inl (List.mem_cons_of_mem _ hx)
      · exact .inr (h x (by simpa using hx)))
    exact P'.setCell (p := ⟨g, 1, none⟩) (.inl (by simp)) _
  · rcases G with G | G
    · rcases M.2 with h | h
      · left; rw [← h, G]; rfl
      · right; intro x hx; simp [Value.ownBlock] at hx; subst hx; exact h _ G
    · right; intro x hx; simp [Value.ownBlock] at hx; subst hx
      have := M.1.size; have := Q.size
      omega
section
variable (g size base : Nat) (v : Value) (c b : List Int) (w : World)
set_option maxRecDepth 100000 in
set_option maxHeartbeats 3200000 in
theorem refWrite_any (A : Option Addr) (cap : Nat) (h : RefV w g size base v c) (hB : base ≤ w.heap.size) (hR : Rd w A b) (hfar : ∀ a, A = some a → 0 < b.length → a.block ≠ g ∧ v.ownBlock ≠ some a.block) (hcap : b.length ≤ cap) (hm : cap ≤ maxLen) :
    Calls Try.prog 53 #[.pointer (some ⟨g, 0, none⟩), .slice A b.length cap] w (RWrite w g size base v c b) := by
  unfold maxLen at hm
  have hle := h.le
  have hbig := h.big
  have hlow := h.low
  have hgl := h.ring.lt
  unfold RWrite
  obtain ⟨f, hf⟩ : ∃ f, f = fitN size c.length b.length := ⟨_, rfl⟩
  rw [← hf]
  have hfk : ∀ k : Nat, k ≤ f → (k < f ↔ k < b.length ∧ c.length + k < size) := by intro k hk; rw [hf] at hk ⊢; unfold fitN at *; omega
  have hfb : f ≤ b.length := by rw [hf]; unfold fitN; omega
  have hfs : c.length + f ≤ size := by rw [hf]; unfold fitN; omega
  clear hf
  obtain ⟨B, hBl⟩ : ∃ B, B = b.length := ⟨_, rfl⟩
  rw [← hBl] at hcap hfb hfk hfar ⊢
  obtain ⟨C, hCl⟩ : ∃ C, C = c.length := ⟨_, rfl⟩
  rw [← hCl] at hle hfk hfs
  have hlen : ∀ k, k ≤ f → (c ++ b.take k).length = C + k := by intro k hk; simp; omega
  have hread : ∀ (wr : World) (k : Nat), Only (g :: v.ownBlock.toList) w wr → k < B → ∃ q off x, A = some ⟨q, off, none⟩ ∧ q < wr.heap.size ∧ wr.cell? ⟨q, off + k, none⟩ = some (.int .u8 x) ∧ b.take (k + 1) = b.take k ++ [x] ∧ q < w.heap.size ∧ q ≠ g := by
    intro wr k O hk
    obtain ⟨q, off, rfl, hq, hc⟩ := hR (by omega)
    obtain ⟨x, hx⟩ : ∃ x, b[k]? = some x := ⟨_, List.getElem?_eq_getElem (by omega)⟩
    have hn := hfar _ rfl (by omega)
    refine ⟨q, off, x, rfl, Nat.lt_of_lt_of_le hq O.size, (World.cell?_of_block (w := w) (O.block q hq ?_)).trans (hc k x hx), by rw [List.take_add_one, hx]; rfl, hq, hn.1⟩
    intro hm
    simp at hm
    rcases hm with hm | hm
    · exact hn.1 hm
    · exact hn.2 hm
  have HB := hide hBl
  have HC := hide hCl
  replace hfk := hide hfk
  replace hlen := hide hlen
  replace hread := hide hread
  clear hBl hCl hR hfar
  go_enter Try.func53, Try.ntmps53
  go_wp2
  go_loopw [5] (fun i wr => WrRel w g size base v c b f i wr) (fun i _ => f - (intOf i).toNat)
  case atStart => exact ⟨0, v, by omega, rfl, by simpa using h, Only.refl _ _, .inl rfl⟩
  case round =>
    obtain ⟨k, u, hk, rfl, R, M⟩ := hrel
    have hlk := hlen.out k hk
    have Kr := R.ring
    have V := R.own
    have hz := M.1.size
    have hkb : (k : Int) ≤ 9223372036854775807 := by omega
    obtain ⟨A9, k9, e9, _, q9, m9, _⟩ := V.rd
    rw [hlk] at e9
    subst e9
    have c0 : wr.cell? ⟨g, 0, none⟩ = some (.int .i64 size) := Kr.cell 0
    have c1 : wr.cell? ⟨g, 1, none⟩ = some (.slice A9 (C + k) k9) := Kr.cell 1
    by_cases h1 : k < B
    · by_cases h2 : C + k < size
      · have hlt : k < f := (hfk.out k hk).2 ⟨h1, h2⟩
        obtain ⟨q, off, x, rfl, hq, hx, htk, hqw, hqg⟩ := hread.out wr k M.1 h1
        have hd1 : decide (k < B) = true := decide_eq_true h1
        have hd2 : decide (C + k < size) = true := decide_eq_true h2
        go_wp2
        go_quiet (fail)
        go_wp2
        obtain ⟨w1, hw1⟩ : ∃ w1, w1 = wr.drewN nq := ⟨_, rfl⟩
        have Q1 : Only [] wr w1 := by rw [hw1]; exact (Only.refl _ _).drewN _
        rw [← hw1]
        have hW : ∀ w2, Only [] w1 w2 → OwnB w2 base (.slice A9 (C + k) k9) (c ++ b.take k) ∧ base ≤ w2.heap.size := fun w2 P => ⟨V.only (Q1.trans P (by simp)) (by simp), by have := (Q1.trans P (by simp)).size; omega⟩
        have d0 : w1.cell? ⟨g, 0, none⟩ = some (.int .i64 size) := (Kr.only Q1 (by simp)).cell 0
        have d1 : w1.cell? ⟨g, 1, none⟩ = some (.slice A9 (C + k) k9) := (Kr.only Q1 (by simp)).cell 1
        have dx : w1.cell? ⟨q, off + k, none⟩ = some (.int .u8 x) := (World.cell?_of_block (w := wr) (Q1.block q hq (by simp))).trans hx
        have hz1 := Q1.size
        have hg1 : g < w1.heap.size := by omega
        have hq1 : q < w1.heap.size := by omega
        have hi1 : (0 : Int) ≤ (k : Int) := by omega
        have hi2 : (k : Int) < (B : Int) := by omega
        have hll : C + k + 1 ≤ 140737488355328 := by omega
        have hG : ∀ w2 w3, Only [] w1 w2 → Only (Value.slice A9 (C + k) k9).ownBlock.toList w2 w3 → Blk w3 g 88 [.int .i64 size, .slice A9 (C + k) k9] := fun w2 w3 P1 P2 =>
          (Kr.only (Q1.trans P1 (by simp)) (by simp)).only P2 (V.low g hlow)
        replace hG := hide hG
        replace hW := hide hW
        clear c0 c1 hx hw1
        go_region_law (refine step_app rfl (.tmp 26) (.tmp 31) rfl base (.slice A9 (C + k) k9) (c ++ b.take k) (by simp [Act.eval, Act.put]) (hW.out _ (by repeat (first | exact Only.refl _ _ | apply Only.alloc | apply Only.drew))).1 (some ⟨w1.heap.size, 0, none⟩) 1 [x] 1 rfl (by simp [Act.eval, Act.put]) (rd_one _ _) (by decide) (by rw [hlk]; exact hll) (hW.out _ (by repeat (first | exact Only.refl _ _ | apply Only.alloc | apply Only.drew))).2 ?_; intro g9 k9' w9 V9 P9 G9
                       have K9 := hG.out _ w9 (by repeat (first | exact Only.refl _ _ | apply Only.alloc | apply Only.drew)) P9
                       have f1 := K9.frozen 1; have cc1 := K9.cell 1; clear K9)
        all_goals
          go_wp2
          go_roundw
          case rel =>
            have hl1 := hlen.out (k + 1) (by omega)
            have V9 := V9.out
            rw [List.append_assoc, ← htk, hlk] at V9
            obtain ⟨r1, r2⟩ := ref_put hB R M (Q1.trans (w2 := _) (by repeat (first | exact Only.refl [] _ | apply Only.alloc | apply Only.drew)) (by simp)) P9 V9 G9.out (by omega)
            exact ⟨k + 1, .slice (some ⟨g9, 0, none⟩) (C + k + 1) k9', by omega, by go_num, r1, r2⟩
          case measure => simp [intOf]; omega
      · have hge : ¬ k < f := fun hlt => h2 ((hfk.out k hk).1 hlt).2
        obtain rfl : k = f := by omega
        have hd1 : decide (k < B) = true := decide_eq_true h1
        have hd2 : decide (C + k < size) = false := decide_eq_false h2
        go_wp2
        go_quiet (fail)
        go_wp2
        go_ret
        exact ⟨_, rfl, R.only ((Only.refl [] wr).drewN nq) (by simp) (by simp), M.1.drewN _, M.2⟩
    · have hge : ¬ k < f := fun hlt => h1 ((hfk.out k hk).1 hlt).1
      obtain rfl : k = f := by omega
      have hd1 : decide (k < B) = false := decide_eq_false h1
      go_wp2
      go_quiet (fail)
      go_wp2
      go_ret
      exact ⟨_, rfl, R.only ((Only.refl [] wr).drewN nq) (by simp) (by simp), M.1.drewN _, M.2⟩

def RDo (w : World) (g size base : Nat) (v : Value) (c : List Int) (kind n : Int) (b : List Int) (e : Ending) (w' : World) : Prop :=
  ∃ r v', e = .returned (.tuple #[r, .int .i64 (rdoN size c kind n b)]) ∧ OwnB w' w.heap.size r (rdoB c kind n) ∧ RefV w' g size base v' (rdoC size c kind n b) ∧ Moved w w' g v v'
theorem RDo.boxed {w : World} {g size base : Nat} {v : Value} {c : List Int} {kind n : Int} {b : List Int} {e : Ending} {w' : World} {o : Obj} (h : RDo (w.alloc o) g size base v c kind n b e w') : RDo w g size base v c kind n b e w' := by
  obtain ⟨r, v', he, V, R, M⟩ := h
  exact ⟨r, v', he, V.mono (by simp), R, (((Only.refl [] w).alloc o).mono (by simp)).trans M.1 (fun x hx => .inl hx), M.2.imp id (fun hh x hx => by have := hh x hx; simp at this; omega)⟩
set_option maxRecDepth 100000 in
set_option maxHeartbeats 3200000 in
theorem refDo_any (kind n : Int) (A : Option Addr) (cap : Nat) (h : RefV w g size base v c) (hB : base ≤ w.heap.size) (hR : Rd w A b) (hfar : ∀ a, A = some a → 0 < b.length → a.block ≠ g ∧ v.ownBlock ≠ some a.block) (hcap : b.length ≤ cap) (hm : cap ≤ maxLen) :
    Calls Try.prog 41 #[.pointer (some ⟨g, 0, none⟩), .agg #[.int .i64 kind, .int .i64 n, .slice A b.length cap]] w (RDo w g size base v c kind n b) := by
  have hlow := h.low
  have hgl := h.ring.lt
  obtain ⟨w1, hw1⟩ : ∃ w1, w1 = w.alloc (.cells #[.int .i64 kind, .int .i64 n, .slice A b.length cap] 86) := ⟨_, rfl⟩
  have P1 : Only [] w w1 := by rw [hw1]; exact (Only.refl _ _).alloc _
  have h1 : RefV w1 g size base v c := h.only P1 (by simp) (by simp)
  have hB1 : base ≤ w1.heap.size := by have := P1.size; omega
  have main : ∀ e w', RDo w1 g size base v c kind n b e w' → RDo w g size base v c kind n b e w' := fun e w' hh => by rw [hw1] at hh; exact hh.boxed
  have XW := refWrite_any g size base v c b w1 A cap h1 hB1 (hR.only P1) hfar hcap hm
  have XR := refRead_any g size base v c w1 n h1 hB1
  have XP := refPeek_any g size base v c w1 n h1
  have XD := refDrop_any g size base v c w1 n h1 hB1
  rw [hw1] at XW XR XP XD
  have K1 := h1.ring
  by_cases k1 : kind = 1
  · subst k1
    clear XR XP XD h1 K1 P1
    replace main := hide main
    have HW := hide hw1
    replace hfar := hide hfar
    clear hw1
    go_enter Try.func41, Try.ntmps41
    go_wp2_with fail
    go_call XW as e w2 ⟨v', rfl, R2, M2⟩
    clear XW
    go_wp2_with fail
    go_ret2
    refine main.out _ _ ⟨_, v', rfl, ownB_nil _ _, R2, ?_⟩
    rw [HW.out]; exact M2
  by_cases k2 : kind = 2
  · subst k2
    clear XW XP XD h1 K1 P1 k1
    replace main := hide main
    have HW := hide hw1
    replace hfar := hide hfar
    clear hw1
    go_enter Try.func41, Try.ntmps41
    go_wp2_with fail
    go_call XR as e w2 ⟨r, v', rfl, V2, R2, M2⟩
    clear XR
    go_wp2_with fail
    go_ret2
    refine main.out _ _ ⟨_, v', rfl, ?_, R2, ?_⟩
    · rw [HW.out]; exact V2
    · rw [HW.out]; exact M2
  by_cases k3 : kind = 3
  · subst k3
    clear XW XR XD K1 P1 k1 k2
    replace main := hide main
    have HW := hide hw1
    replace hfar := hide hfar
    rw [hw1] at h1
    clear hw1
    go_enter Try.func41, Try.ntmps41
    go_wp2_with fail
    go_call XP as e w2 ⟨r, rfl, V2, P2⟩
    clear XP
    go_wp2_with fail
    go_ret2
    refine main.out _ _ ⟨_, v, rfl, ?_, h1.only P2 (by simp) (by simp), ?_⟩
    · rw [HW.out]; exact V2
    · rw [HW.out]; exact ⟨P2.mono (by simp), .inl rfl⟩
  by_cases k4 : kind = 4
  · subst k4
    clear XW XR XP h1 K1 P1 k1 k2 k3
    replace main := hide main
    have HW := hide hw1
    replace hfar := hide hfar
    clear hw1
    go_enter Try.func41, Try.ntmps41
    go_wp2_with fail
    go_call XD as e w2 ⟨v', rfl, R2, M2⟩
    clear XD
    go_wp2_with fail
    go_ret2
    refine main.out _ _ ⟨_, v', rfl, ownB_nil _ _, R2, ?_⟩
    rw [HW.out]; exact M2
  by_cases k5 : kind = 5
  · subst k5
    clear XW XR XP XD P1 k1 k2 k3 k4
    have fin : RefV (w1.setCell ⟨g, 1, none⟩ (.slice none 0 0)) g size base (.slice none 0 0) [] ∧ Moved w1 (w1.setCell ⟨g, 1, none⟩ (.slice none 0 0)) g v (.slice none 0 0) := by
      refine ⟨⟨?_, ownB_nil _ _, by simp, h1.big, h1.low⟩, ((Only.refl _ _).setCell (p := ⟨g, 1, none⟩) (.inl (by simp)) _), .inr (fun x hx => by cases hx)⟩
      have := K1.set_ 1 (.slice none 0 0)
      simpa using this
    have c1 := K1.cell 1
    have f1 := K1.frozen 1
    rw [hw1] at c1 f1
    replace main := hide main
    have HW := hide hw1
    replace hfar := hide hfar
    clear hw1 K1 h1
    obtain ⟨A9, k9, rfl, _⟩ := h.own.rd
    replace fin := hide fin
    go_enter Try.func41, Try.ntmps41
    go_wp2_with fail
    go_ret2
    obtain ⟨r1, r2⟩ := fin.out
    refine main.out _ _ ⟨_, .slice none 0 0, rfl, ownB_nil _ _, ?_, ?_⟩
    · rw [HW.out, World.setCell_alloc_past _ _ _ _ hgl] at r1; exact r1
    · rw [HW.out] at r2 ⊢; rw [World.setCell_alloc_past _ _ _ _ hgl] at r2; exact r2
  · have e1 : rdoB c kind n = [] := by unfold rdoB; rw [if_neg (by omega)]
    have e2 : rdoN size c kind n b = 0 := by unfold rdoN; rw [if_neg k1, if_neg k4]
    have e3 : rdoC size c kind n b = c := by unfold rdoC; rw [if_neg k1, if_neg (by omega), if_neg k5]
    have b1 : (kind == 1) = false := beq_eq_false_iff_ne.2 k1
    have b2 : (kind == 2) = false := beq_eq_false_iff_ne.2 k2
    have b3 : (kind == 3) = false := beq_eq_false_iff_ne.2 k3
    have b4 : (kind == 4) = false := beq_eq_false_iff_ne.2 k4
    have b5 : (kind == 5) = false := beq_eq_false_iff_ne.2 k5
    have fin : RDo w1 g size base v c kind n b (.returned (.tuple #[.slice none 0 0, .int .i64 0])) w1 := ⟨_, v, by rw [e2]; rfl, by rw [e1]; exact ownB_nil _ _, by rw [e3]; exact h1, Only.refl _ _, .inl rfl⟩
    have fin2 := main _ _ fin
    rw [hw1] at fin2
    replace fin2 := hide fin2
    clear e1 e2 e3 XW XR XP XD P1 h1 K1 fin k1 k2 k3 k4 k5 main
    replace hfar := hide hfar
    have HW := hide hw1
    clear hw1
    go_enter Try.func41, Try.ntmps41
    go_wp2_with fail
    go_ret2
    exact fin2.out
end
end Go.Proofs.Ytamnnggijmmogaa

/- Layer 26: slices.Insert at channels, the least number that is free; for all channels; no condition. -/
import Derived.Test.YtbamojbkehnmkaaMuxB
import Derived.Test.YtbamojbkehnmkaaEngK
namespace Go.Proofs.Ytbamojbkehnmkaa
set_option linter.all false
set_option maxRecDepth 100000
open Go.RowKit

/-- One more, at place i. -/
def insL (i : Nat) (c : CH) (l : List CH) : List CH := l.take i ++ c :: l.drop i
theorem insL_len {i : Nat} {c : CH} {l : List CH} (h : i ≤ l.length) : (insL i c l).length = l.length + 1 := by
  unfold insL
  rw [List.length_append, List.length_cons, List.length_take, List.length_drop]; omega
theorem dens_ch (β : List Nat) (c : CH) : dens β c.sc = c.cells := rfl
theorem flat_ch (l : List CH) : (l.flatMap CH.cells).length = l.length * 12 := flatMap_len ch_len l
theorem flat_one (l : List CH) : ∀ u ∈ l.flatMap CH.cells, u.oneCell' = true := fun u hu => by
  obtain ⟨x, _, hx⟩ := List.mem_flatMap.1 hu
  exact ch_one x u hx
theorem splice_ins {l : List CH} {i : Nat} {c : CH} (hi : i ≤ l.length) {zs : List Value} (hz : zs.length = (l.length + 1 - i) * 12) : splice (splice ((l.take i).flatMap CH.cells ++ zs) (i * 12) c.cells) ((i + 1) * 12) ((l.drop i).flatMap CH.cells) = (insL i c l).flatMap CH.cells := by
  have h1 : ((l.take i).flatMap CH.cells).length = i * 12 := by rw [flat_ch, List.length_take]; congr 1; omega
  have h2 : ((l.drop i).flatMap CH.cells).length = (l.length - i) * 12 := by rw [flat_ch, List.length_drop]
  have h3 : c.cells.length = 12 := rfl
  have e1 : splice ((l.take i).flatMap CH.cells ++ zs) (i * 12) c.cells = (l.take i).flatMap CH.cells ++ c.cells ++ zs.drop 12 := by
    unfold splice
    rw [List.take_left' h1, List.drop_append, List.drop_eq_nil_of_le (by omega), h1, List.nil_append, h3, List.append_assoc]
    congr 3
    omega
  rw [e1]
  have e2 : (insL i c l).flatMap CH.cells = (l.take i).flatMap CH.cells ++ c.cells ++ (l.drop i).flatMap CH.cells := by simp [insL, List.flatMap_append, List.flatMap_cons]
  rw [e2]
  generalize (l.take i).flatMap CH.cells = a at *
  generalize (l.drop i).flatMap CH.cells = b at *
  unfold splice
  rw [List.take_left' (by rw [List.length_append]; omega), List.drop_eq_nil_of_le (by simp only [List.length_append, List.length_drop]; omega), List.append_nil]
theorem splice_shift {l : List CH} {i : Nat} {c : CH} (hi : i ≤ l.length) {junk : List Value} (hz : junk.length = 1 * 12) : splice (splice (l.flatMap CH.cells ++ junk) ((i + 1) * 12) ((l.drop i).flatMap CH.cells)) (i * 12) c.cells = (insL i c l).flatMap CH.cells := by
  have h0 : (l.flatMap CH.cells).length = l.length * 12 := flat_ch l
  have h1 : ((l.take i).flatMap CH.cells).length = i * 12 := by rw [flat_ch, List.length_take]; congr 1; omega
  have h2 : ((l.drop i).flatMap CH.cells).length = (l.length - i) * 12 := by rw [flat_ch, List.length_drop]
  have h3 : c.cells.length = 12 := rfl
  have e0 : l.flatMap CH.cells = (l.take i).flatMap CH.cells ++ (l.drop i).flatMap CH.cells := by rw [← List.flatMap_append, List.take_append_drop]
  have e2 : (insL i c l).flatMap CH.cells = (l.take i).flatMap CH.cells ++ c.cells ++ (l.drop i).flatMap CH.cells := by simp [insL, List.flatMap_append, List.flatMap_cons]
  rw [e2]
  generalize (l.take i).flatMap CH.cells = a at *
  generalize (l.drop i).flatMap CH.cells = b at *
  generalize l.flatMap CH.cells = d at *
  unfold splice
  have ht : ((d ++ junk).take ((i + 1) * 12)).length = (i + 1) * 12 := by
    rw [List.length_take, List.length_append]; omega
  rw [List.take_append_of_le_length (by omega), List.take_take, Nat.min_eq_left (by omega), e0, List.append_assoc, List.take_left' h1]
  rw [List.drop_append, List.drop_eq_nil_of_le (by rw [List.length_take]; omega), List.nil_append, List.length_take, Nat.min_eq_left (by simp only [List.length_append]; omega), h3, show i * 12 + 12 - (i + 1) * 12 = 0 by omega, List.drop_zero]
  rw [List.drop_eq_nil_of_le (by simp only [List.length_append]; omega), List.append_nil, List.append_assoc]
theorem own_raw {w : World} {g cap n : Nat} {vs : List Value} {l : List CH} (e : vs = l.flatMap CH.cells) (hn : l.length = n) (h : w.ownsRow 0 45 12 (.slice (some ⟨g, 0, none⟩) n cap) n vs) : OwnX CH.cells 45 12 w 0 (.slice (some ⟨g, 0, none⟩) n cap) l := by
  subst hn; subst e; exact h
/-- What a slice of ours is turned to. -/
def TurnR (A : Option Addr) (cap n : Nat) (l' : List CH) (n' : Nat) (w : World) : Ending → World → Prop := fun e w' => ∃ A' cap', e = .returned (.slice A' n' cap') ∧ Only (Value.ownBlock (.slice A n cap)).toList w w' ∧ OwnX CH.cells 45 12 w' 0 (.slice A' n' cap') l' ∧ WhereG (.slice A n cap) (.slice A' n' cap') w.heap.size
/-- At the end: append. -/
theorem insEnd_any (l : List CH) (A : Option Addr) (cap n : Nat) (hl : l.length = n) (c : CH) (vb : Nat) (w : World) (hO : OwnX CH.cells 45 12 w 0 (.slice A n cap) l) (hv : Blk w vb 45 c.cells) (hne : ∀ a, A = some a → a.block ≠ vb) (hf : Few (c :: l)) : Calls Try.prog 52 #[.slice A n cap, .int .i64 n, .slice (some ⟨vb, 0, none⟩) 1 1] w (TurnR A cap n (l ++ [c]) (n + 1) w) := by
  subst hl
  have hby := few_by hf
  have hlm := few_len hf
  have hrc : RdX CH.cells w (some ⟨vb, 0, none⟩) [c] := fun _ => ⟨vb, 0, rfl, hv.lt, fun j u hj => by rw [Nat.zero_add, hv.cell]; simpa using hj⟩
  refine Hs.enter Try.func52 (Value.ownBlock (.slice A l.length cap)).toList [0] [.s A cap l.length 45 12 (l.flatMap CH.cells)] [.c (.v (.slice A l.length cap)), .c (.v (.int .i64 l.length)), .c (.v (.slice (some ⟨vb, 0, none⟩) 1 1))] (Mem.startS w hO) (by kernel_rfl) (by kernel_rfl) ?_
  refine Hs.run0 300 (fun _ => by kernel_rfl) ?_
  refine Hs.sloA (A := A) (len := l.length) (cap := cap) (i := l.length) elemCh (Nat.le_refl _) (by kernel_rfl) ?_
  refine Hs.run0 300 (fun _ => by kernel_rfl) ?_
  refine Hs.condF (by kernel_rfl) ?_
  refine Hs.run0 300 (fun _ => by kernel_rfl) ?_
  refine Hs.cond ((l.length : Int) == (l.length : Int)) (by kernel_rfl) (fun h => ?_) (fun h => absurd h (by simp))
  refine Hs.run0 300 (fun _ => by kernel_rfl) ?_
  refine Hs.app (c := 1) (ty := 32) 0 elemCh l [c] l.length 1 rfl rfl ch_one ch_len (A := A) (B := some ⟨vb, 0, none⟩) (cap := cap) (by kernel_rfl) (by kernel_rfl) (by kernel_rfl) (fun w' H => hrc.far H.only fun a ha _ hm => by
    injection ha with ha; subst ha
    cases A with
    | none => simp [Value.ownBlock] at hm
    | some a => simp only [Value.ownBlock, Option.toList_some, List.mem_singleton] at hm; exact hne a rfl hm.symm) (by simpa using hlm) (by simpa using hby) fun A' cap' h' => ?_
  refine Hs.run0 300 (fun _ => by kernel_rfl) ?_
  exact Hs.ret (v := .slice A' (l.length + 1) cap') Try.func52 (by kernel_rfl) fun w' H => ⟨A', cap', rfl, H.only, H.ownX 0 (by simp) (by kernel_rfl), H.whereG (v := .slice A l.length cap) (E := 45) (size := 12) (vs := (l ++ [c]).flatMap CH.cells) 0 (by kernel_rfl)⟩
theorem blk_rows {w w' : World} {b T : Nat} {cs : List Value} {L : List Nat} (h : Blk w b T cs) (O : Only L w w') (hL : b ∉ L) : Blk w' b T cs := Blk.only h O hL
set_option maxHeartbeats 1000000 in
/-- Ahead of another one: in new memory, or in place. -/
theorem insMid_any (l : List CH) (g cap n i : Nat) (hl : l.length = n) (hi : i < n) (c : CH) (vb : Nat) (w : World) (hO : OwnX CH.cells 45 12 w 0 (.slice (some ⟨g, 0, none⟩) n cap) l) (hv : Blk w vb 45 c.cells) (hne : g ≠ vb) (hf : Few (c :: l)) : Calls Try.prog 52 #[.slice (some ⟨g, 0, none⟩) n cap, .int .i64 i, .slice (some ⟨vb, 0, none⟩) 1 1] w (TurnR (some ⟨g, 0, none⟩) cap n (insL i c l) (n + 1) w) := by
  subst hl
  have hby := few_by hf
  have hlm := few_len hf
  have hmm : l.length + 1 ≤ 9223372036854775807 := by unfold maxLen at hlm; simpa using hlm
  obtain ⟨_, _, e0, hc1, hc2, _, _⟩ := id hO.form
  injection e0 with _ _ e3
  subst e3
  have hS := hO
  obtain ⟨hl1, ⟨h2, _⟩ | ⟨g', c', cur, e, hg, hh, hc, hm, hsz, htk⟩⟩ := hS
  · injection h2 with h2; cases h2
  injection e with e1 e2 e3
  injection e1 with e1
  injection e1 with e1
  subst e1
  clear e2 e3
  have hW : Mem w [g] [0, vb] [.s (some ⟨g, 0, none⟩) cap l.length 45 12 (l.flatMap CH.cells), .b false 45 c.sc] w := by
    refine Mem.start _ _ _ _ rfl (fun k b hk => ?_) (fun k b x hk hw hx => ?_) (fun a b ha hb x ea eb la lb => ?_)
    · match k, hk with
      | 0, hk => simp at hk; subst hk; exact hO
      | 1, hk => simp at hk; subst hk; exact hv
    · match k, hk with
      | 0, hk => simp at hk; subst hk; simp only [HB.blk, Option.map_some, Option.some.injEq] at hx; subst hx; simp
      | 1, hk => simp at hk; subst hk; cases hw
    · match a, b, ea, eb with
      | 0, 0, _, _ => rfl
      | 1, 1, _, _ => rfl
      | 0, 1, ea, eb => simp at ea eb; subst ea; subst eb; simp only [HB.blk, Option.map_some, Option.some.injEq, nm, List.getD_cons_succ, List.getD_cons_zero] at la lb; omega
      | 1, 0, ea, eb => simp at ea eb; subst ea; subst eb; simp only [HB.blk, Option.map_some, Option.some.injEq, nm, List.getD_cons_succ, List.getD_cons_zero] at la lb; omega
  refine Hs.enter Try.func52 (Value.ownBlock (.slice (some ⟨g, 0, none⟩) l.length cap)).toList [0, vb] _ [.c (.v (.slice (some ⟨g, 0, none⟩) l.length cap)), .c (.v (.int .i64 i)), .c (.v (.slice (some ⟨vb, 0, none⟩) 1 1))] hW (by kernel_rfl) (by kernel_rfl) ?_
  refine Hs.run0 300 (fun _ => by kernel_rfl) ?_
  refine Hs.sloA (A := some ⟨g, 0, none⟩) (len := l.length) (cap := cap) (i := i) elemCh (Nat.le_of_lt hi) (by kernel_rfl) ?_
  refine Hs.run0 300 (fun _ => by kernel_rfl) ?_
  refine Hs.condF (by kernel_rfl) ?_
  refine Hs.run0 300 (fun _ => by kernel_rfl) ?_
  refine Hs.cond ((i : Int) == (l.length : Int)) (by kernel_rfl) (fun h => absurd h (by simp; omega)) (fun h => ?_)
  clear h
  refine Hs.run0 300 (fun _ => by kernel_rfl) ?_
  refine Hs.condP (IntKind.i64.wrap ((l.length : Int) + 1) > (cap : Int)) (by kernel_rfl) (fun h => ?_) (fun h => ?_)
  all_goals rw [IntWalk.i64_in _ (by omega)] at h
  · refine Hs.run0 300 (fun _ => by kernel_rfl) ?_
    refine Hs.shi (g := g) (off := 0) (len := l.length) (cap := cap) (i := i) elemCh (by omega) (by kernel_rfl) ?_
    refine Hs.run0 300 (fun _ => by kernel_rfl) ?_
    refine Hs.slot 39 (.c (.v (.int .i64 (l.length + 1 - i : Nat)))) rfl ((by kernel_rfl : _ = Value.int .i64 (IntKind.i64.wrap (IntKind.i64.wrap ((l.length : Int) + 1) - (i : Int)))).trans (congrArg (Value.int .i64) (by
      rw [IntWalk.i64_in ((l.length : Int) + 1) (by omega), IntWalk.i64_in _ (by omega)]; omega))) ?_
    refine Hs.growZ (g := g) (i := i) (cap := cap) (q := l.length + 1 - i) (tn := 3) (ty := 32) elemCh (by kernel_rfl) ((l.take i).flatMap CH.cells) (by rw [flat_ch, List.length_take]; congr 1; omega) (by omega) (by omega) (by simp only [List.length_cons] at hlm; omega) (by
      simp only [List.length_cons] at hby
      rw [show i + (l.length + 1 - i) = l.length + 1 by omega]; exact hby) (by kernel_rfl) (fun w' H j v hj => by
      have := H.lies 0 _ (by kernel_rfl : _ = some (HB.s (some ⟨g, 0, none⟩) cap l.length 45 12 (l.flatMap CH.cells)))
      have hr := World.ownsRow.cells this (g := g) rfl j v (by
        rw [← flatMap_take ch_len l i (Nat.le_of_lt hi)] at hj
        rw [List.getElem?_take] at hj
        split at hj
        · exact hj
        · cases hj)
      simpa [Addr.add_lit] using hr) (by kernel_rfl) fun g2 cap2 zs hzs hcap2 hmax2 => ?_
    refine Hs.run0 300 (fun _ => by kernel_rfl) ?_
    refine Hs.slo (g := g2) (off := 0) (len := i + (l.length + 1 - i)) (cap := cap2) (i := i) elemCh (by omega) (by omega) (by kernel_rfl) ?_
    refine Hs.run0 300 (fun _ => by kernel_rfl) ?_
    refine Hs.cpS (g := g2) (cap := cap2) (nl := i + (l.length + 1 - i)) (vs := (l.take i).flatMap CH.cells ++ zs) (b := vb) (so := 0) 2 elemCh (by kernel_rfl) i (i + (l.length + 1 - i) - i) (cap2 - i) 1 1 1 3 (by show _ = min _ _; omega) c.cells rfl (by omega) (by kernel_rfl) (by kernel_rfl) (fun w' H j v hj => by
      rw [Nat.zero_add, (show Blk w' vb 45 c.cells from H.at 1 (wr := false) (T := 45) (cs := c.sc) (by kernel_rfl)).cell]; exact hj) (ch_one c) ?_
    refine Hs.run0 300 (fun _ => by kernel_rfl) ?_
    refine Hs.any [] (by kernel_rfl) ?_
    refine Hs.run0 300 (fun _ => by kernel_rfl) ?_
    refine Hs.slot 49 (.c (.v (.int .i64 (i + 1 : Nat)))) rfl ((by kernel_rfl : _ = Value.int .i64 (IntKind.i64.wrap ((i : Int) + 1))).trans (wrap_nextI (n := l.length) (by unfold maxLen; omega) hi)) ?_
    refine Hs.takeSlo (rd := []) 4 (g := g2) (off := 0) (len := i + (l.length + 1 - i)) (cap := cap2) (i := i + 1) elemCh (by omega) (by omega) (by kernel_rfl) ?_
    refine Hs.takeSlo (rd := []) 7 (g := g) (off := 0) (len := l.length) (cap := cap) (i := i) elemCh (by omega) (by omega) (by kernel_rfl) ?_
    refine Hs.sel1 8 (by kernel_rfl) ?_
    refine Hs.cpS (g := g2) (cap := cap2) (nl := i + (l.length + 1 - i)) (vs := splice ((l.take i).flatMap CH.cells ++ zs) (i * 12) c.cells) (b := g) (so := 0 + i * 12) 2 elemCh (by kernel_rfl) (i + 1) (i + (l.length + 1 - i) - (i + 1)) (cap2 - (i + 1)) (l.length - i) (cap - i) (l.length - i) 3 (by show _ = min _ _; omega) ((l.drop i).flatMap CH.cells) (by rw [flat_ch, List.length_drop]) (by omega) (by kernel_rfl) (by kernel_rfl) (fun w' H j v hj => by
      have := H.lies 0 _ (by kernel_rfl : _ = some (HB.s (some ⟨g, 0, none⟩) cap l.length 45 12 (l.flatMap CH.cells)))
      have hr := World.ownsRow.cells this (g := g) rfl (i * 12 + j) v (by
        rw [← flatMap_drop ch_len l i (Nat.le_of_lt hi), List.getElem?_drop] at hj
        exact hj)
      simpa [Addr.add_lit] using hr) (flat_one _) ?_
    refine Hs.run0 300 (fun _ => by kernel_rfl) ?_
    exact Hs.ret (v := .slice (some ⟨g2, 0, none⟩) (i + (l.length + 1 - i)) cap2) Try.func52 (by kernel_rfl) fun w' H => ⟨some ⟨g2, 0, none⟩, cap2, by congr 2; omega, H.only, by
      have h := H.lies 2 _ (by kernel_rfl : _ = some (HB.s (some ⟨g2, 0, none⟩) cap2 (i + (l.length + 1 - i)) 45 12 (splice (splice ((l.take i).flatMap CH.cells ++ zs) (i * 12) c.cells) ((i + 1) * 12) ((l.drop i).flatMap CH.cells))))
      have e : i + (l.length + 1 - i) = l.length + 1 := by omega
      rw [e] at h
      exact own_raw (splice_ins (Nat.le_of_lt hi) hzs) (insL_len (Nat.le_of_lt hi)) h, by
      have h := H.whereG (v := .slice (some ⟨g, 0, none⟩) l.length cap) (A' := some ⟨g2, 0, none⟩) (cap' := cap2) (nl' := i + (l.length + 1 - i)) (E := 45) (size := 12) (vs := splice (splice ((l.take i).flatMap CH.cells ++ zs) (i * 12) c.cells) ((i + 1) * 12) ((l.drop i).flatMap CH.cells)) 2 (by kernel_rfl)
      have e : i + (l.length + 1 - i) = l.length + 1 := by omega
      rw [e] at h
      exact h⟩
  · have hin : i * 12 ≤ l.length * 12 := Nat.mul_le_mul_right _ (Nat.le_of_lt hi)
    have hw1 : i + 1 < 9223372036854775807 := by omega
    refine Hs.run0 300 (fun _ => by kernel_rfl) ?_
    refine Hs.slot 59 (.c (.v (.int .i64 (l.length + 1 : Nat)))) rfl ((by kernel_rfl : _ = Value.int .i64 (IntKind.i64.wrap ((l.length : Int) + 1))).trans (congrArg (Value.int .i64) (IntWalk.i64_in _ (by omega)))) ?_
    refine Hs.shi (g := g) (off := 0) (len := l.length) (cap := cap) (i := l.length + 1) elemCh (by omega) (by kernel_rfl) ?_
    refine Hs.wide (g := g) (cap := cap) (nl := l.length) (E := 45) (size := 12) (vs := l.flatMap CH.cells) 0 (by kernel_rfl) 1 (by omega) (by kernel_rfl) (fun junk hj => ?_) (by kernel_rfl)
    refine Hs.run0 300 (fun _ => by kernel_rfl) ?_
    refine Hs.slot 65 (.c (.v (.int .i64 (i + 1 : Nat)))) rfl ((by kernel_rfl : _ = Value.int .i64 (IntKind.i64.wrap ((i : Int) + 1))).trans (congrArg (Value.int .i64) (IntWalk.i64_in _ (by omega)))) ?_
    refine Hs.slo (g := g) (off := 0) (len := l.length + 1) (cap := cap) (i := i + 1) elemCh (by omega) (by omega) (by kernel_rfl) ?_
    refine Hs.opN (s := callFunc 55 #[.slice (some ⟨vb, 0, none⟩) 1 1, .slice (some ⟨g, 0 + (i + 1) * 12, none⟩) (l.length + 1 - (i + 1)) (cap - (i + 1))]) (.c (.v (.bool false))) (by kernel_rfl) rfl (fun w' H => ?_) ?_
    · have hB : Blk w' vb 45 c.cells := H.at 1 (wr := false) (T := 45) (cs := c.sc) (by kernel_rfl)
      have hS : w'.ownsRow 0 45 12 (.slice (some ⟨g, 0, none⟩) (l.length + 1) cap) (l.length + 1) (l.flatMap CH.cells ++ junk) := H.lies 0 _ (by kernel_rfl : _ = some (HB.s (some ⟨g, 0, none⟩) cap (l.length + 1) 45 12 (l.flatMap CH.cells ++ junk)))
      obtain ⟨_, ⟨hx, _⟩ | ⟨g3, c3, cur3, e3, _, hh3, hn3, _, hs3, _⟩⟩ := hS
      · injection hx with hx; cases hx
      injection e3 with e3
      injection e3 with e3
      injection e3 with e3
      subst e3
      have hsa : w'.shape? vb = some (45, 12) := by
        unfold World.shape?
        rw [show w'.heap[vb]? = _ from hB]
        simp [CH.cells]
      have hsb : w'.shape? g = some (45, cur3.size) := by
        unfold World.shape?
        rw [hh3]
      rw [run_callFunc_extern Try.func55 (by kernel_rfl) (by kernel_rfl) (by kernel_rfl) (e := Extern.SlicesOverlaps.overlaps #[32, 32] #[4]) (by kernel_rfl)]
      rw [Lib.run_overlaps_apart w' 32 4 45 elemCh.ht 12 (fun w => elemCh.sizeOf w) ⟨vb, 0, none⟩ ⟨g, 0 + (i + 1) * 12, none⟩ 1 1 _ _ (fun h => hne h.symm) _ _ _ _ hsa hsb (by
        have e4 : cur3.size = c3 * 12 := hs3
        rw [e4]
        omega) (hB.frozen _) (hB.frozen _)]
      rfl
    refine Hs.run0 300 (fun _ => by kernel_rfl) ?_
    refine Hs.condT (by kernel_rfl) ?_
    refine Hs.run0 300 (fun _ => by kernel_rfl) ?_
    refine Hs.any [] (by kernel_rfl) ?_
    refine Hs.run0 300 (fun _ => by kernel_rfl) ?_
    refine Hs.slot 72 (.c (.v (.int .i64 (i + 1 : Nat)))) rfl ((by kernel_rfl : _ = Value.int .i64 (IntKind.i64.wrap ((i : Int) + 1))).trans (congrArg (Value.int .i64) (IntWalk.i64_in _ (by omega)))) ?_
    refine Hs.takeSlo (rd := []) 4 (g := g) (off := 0) (len := l.length + 1) (cap := cap) (i := i + 1) elemCh (by omega) (by omega) (by kernel_rfl) ?_
    refine Hs.takeSlo (rd := []) 7 (g := g) (off := 0) (len := l.length + 1) (cap := cap) (i := i) elemCh (by omega) (by omega) (by kernel_rfl) ?_
    refine Hs.sel1 8 (by kernel_rfl) ?_
    refine Hs.cpS (g := g) (cap := cap) (nl := l.length + 1) (vs := l.flatMap CH.cells ++ junk) (b := g) (so := 0 + i * 12) 0 elemCh (by kernel_rfl) (i + 1) (l.length + 1 - (i + 1)) (cap - (i + 1)) (l.length + 1 - i) (cap - i) (l.length - i) 3 (by show _ = min _ _; omega) ((l.drop i).flatMap CH.cells) (by rw [flat_ch, List.length_drop]) (by omega) (by kernel_rfl) (by kernel_rfl) (fun w' H j v hj => by
      have := H.lies 0 _ (by kernel_rfl : _ = some (HB.s (some ⟨g, 0, none⟩) cap (l.length + 1) 45 12 (l.flatMap CH.cells ++ junk)))
      have hr := World.ownsRow.cells this (g := g) rfl (i * 12 + j) v (by
        rw [← flatMap_drop ch_len l i (Nat.le_of_lt hi), List.getElem?_drop] at hj
        rw [List.getElem?_append_left (List.getElem?_eq_some_iff.1 hj).1]
        exact hj)
      simpa [Addr.add_lit] using hr) (flat_one _) ?_
    refine Hs.run0 300 (fun _ => by kernel_rfl) ?_
    refine Hs.slo (g := g) (off := 0) (len := l.length + 1) (cap := cap) (i := i) elemCh (by omega) (by omega) (by kernel_rfl) ?_
    refine Hs.run0 300 (fun _ => by kernel_rfl) ?_
    refine Hs.cpS (g := g) (cap := cap) (nl := l.length + 1) (vs := splice (l.flatMap CH.cells ++ junk) ((i + 1) * 12) ((l.drop i).flatMap CH.cells)) (b := vb) (so := 0) 0 elemCh (by kernel_rfl) i (l.length + 1 - i) (cap - i) 1 1 1 3 (by show _ = min _ _; omega) c.cells rfl (by omega) (by kernel_rfl) (by kernel_rfl) (fun w' H j v hj => by
      rw [Nat.zero_add, (show Blk w' vb 45 c.cells from H.at 1 (wr := false) (T := 45) (cs := c.sc) (by kernel_rfl)).cell]; exact hj) (ch_one c) ?_
    refine Hs.run0 300 (fun _ => by kernel_rfl) ?_
    exact Hs.ret (v := .slice (some ⟨g, 0, none⟩) (l.length + 1) cap) Try.func52 (by kernel_rfl) fun w' H => ⟨some ⟨g, 0, none⟩, cap, rfl, H.only, by
      have h := H.lies 0 _ (by kernel_rfl : _ = some (HB.s (some ⟨g, 0, none⟩) cap (l.length + 1) 45 12 (splice (splice (l.flatMap CH.cells ++ junk) ((i + 1) * 12) ((l.drop i).flatMap CH.cells)) (i * 12) c.cells)))
      exact own_raw (splice_shift (Nat.le_of_lt hi) hj) (insL_len (Nat.le_of_lt hi)) h, WhereG.same⟩
theorem insert_any (l : List CH) (A : Option Addr) (cap n i : Nat) (hl : l.length = n) (hi : i ≤ n) (c : CH) (vb : Nat) (w : World) (hO : OwnX CH.cells 45 12 w 0 (.slice A n cap) l) (hv : Blk w vb 45 c.cells) (hne : ∀ a, A = some a → a.block ≠ vb) (hf : Few (c :: l)) : Calls Try.prog 52 #[.slice A n cap, .int .i64 i, .slice (some ⟨vb, 0, none⟩) 1 1] w (TurnR A cap n (insL i c l) (n + 1) w) := by
  rcases Nat.lt_or_ge i n with h | h
  · have hA : ∃ g, A = some ⟨g, 0, none⟩ := by
      obtain ⟨_, ⟨_, h0⟩ | ⟨g, _, _, e, _⟩⟩ := id hO
      · omega
      · injection e with e1; exact ⟨g, e1⟩
    obtain ⟨g, rfl⟩ := hA
    exact insMid_any l g cap n i hl h c vb w hO hv (hne _ rfl) hf
  · obtain rfl : i = n := by omega
    have e : insL i c l = l ++ [c] := by unfold insL; rw [← hl, List.take_length, List.drop_length]
    rw [e]
    exact insEnd_any l A cap i hl c vb w hO hv hne hf
end Go.Proofs.Ytbamojbkehnmkaa

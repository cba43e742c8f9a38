/- Layer 4: words, lengths, the first error, texts and flags as fields; no condition. -/
import Derived.Test.YtdplnedpbkpgpaaGreatDoorReqP
import Derived.Test.YtdplnedpbkpgpaaGreatDoorOctQ
import Derived.Test.YtdplnedpbkpgpaaGreatDoorOctS
import Derived.Test.YtdplnedpbkpgpaaGreatDoorRefJ
import Derived.Test.YtdplnedpbkpgpaaGreatDoorHeldB
namespace Go.Proofs.YtdplnedpbkpgpaaGreatDoor
set_option linter.all false
open Go.RowKit

set_option maxRecDepth 100000 in
set_option maxHeartbeats 1600000 in
theorem rword_any (s : ByteArray) (least : Nat) (w : World) (hs : s.size ≤ maxLen) : Calls Tryz.prog 130 #[.string s, .int .i64 (least : Int)] w fun e w' => e = .returned (.int .i64 (wordE s least)) ∧ w = w' := by
  unfold maxLen at hs
  obtain ⟨R, hR⟩ : ∃ R, R = wordE s least := ⟨_, rfl⟩
  rw [← hR]
  unfold wordE at hR
  by_cases h1 : s.size < least
  · have hR0 : R = 4 := by rw [hR]; unfold wordOk; rw [decide_eq_false (show ¬ least ≤ s.size by omega)]; rfl
    have i1 : (s.size : Int) < (least : Int) := by omega
    clear hR
    replace hR0 := hide hR0
    go_enter Tryz.func130, Tryz.ntmps130
    go_wp2
    go_ret
    exact ⟨ret_int hR0.out.symm, rfl⟩
  have i1 : ¬ (s.size : Int) < (least : Int) := by omega
  by_cases h2 : 64 < s.size
  · have hR0 : R = 4 := by rw [hR]; unfold wordOk; rw [decide_eq_false (show ¬ s.size ≤ 64 by omega)]; simp
    have i2 : (64 : Int) < (s.size : Int) := by omega
    clear hR
    replace hR0 := hide hR0
    go_enter Tryz.func130, Tryz.ntmps130
    go_wp2
    go_ret
    exact ⟨ret_int hR0.out.symm, rfl⟩
  have i2 : ¬ (64 : Int) < (s.size : Int) := by omega
  have hR1 : R = if s.data.toList.all wSign then 0 else 4 := by rw [hR]; unfold wordOk; rw [decide_eq_true (show least ≤ s.size by omega), decide_eq_true (show s.size ≤ 64 by omega)]; rfl
  clear hR
  obtain ⟨n, hn⟩ : ∃ n, s.size = n := ⟨_, rfl⟩
  replace hR1 := hide hR1
  replace hn := hide hn
  go_enter Tryz.func130, Tryz.ntmps130
  go_wp2
  go_loop [17] (fun i => ∃ k : Nat, k ≤ s.size ∧ i = .int .i64 k ∧ Hid ((s.data.toList.take k).all wSign = true)) (fun i => s.size - (intOf i).toNat)
  case atStart => exact ⟨0, by omega, rfl, hide rfl⟩
  case round =>
    obtain ⟨k, hk, rfl, hg⟩ := hrel
    by_cases hlt : k < s.size
    · have hts := hide (take_snocS s k hlt)
      by_cases hc : wSign s[k] = true
      · have hcc := hide hc
        unfold wSign at hc
        simp only [Bool.and_eq_true, decide_eq_true_eq] at hc
        obtain ⟨q1, q2⟩ := hc
        go_wp2
        go_round
        case rel => exact ⟨k + 1, by omega, by go_num, hide (by rw [hts.out, List.all_append, hg.out]; simp [hcc.out])⟩
        case measure => simp [intOf]; omega
      · have hf : R = 4 := by
          rw [hR1.out, if_neg]
          intro h
          have := List.all_eq_true.1 h s[k] (by
            have : s[k] = s.data.toList[k]'(by simpa using hlt) := rfl
            rw [this]; exact List.getElem_mem _)
          exact hc this
        have hq : s[k].toNat < 33 ∨ 126 < s[k].toNat := by
          unfold wSign at hc
          simp at hc
          omega
        clear hR1 hc
        replace hf := hide hf
        by_cases q1 : s[k].toNat < 33
        · clear hq
          go_wp2
          go_ret
          exact ⟨ret_int hf.out.symm, rfl⟩
        · have q2 : 126 < s[k].toNat := by omega
          clear hq
          go_wp2
          go_ret
          exact ⟨ret_int hf.out.symm, rfl⟩
    · obtain rfl : k = s.size := by omega
      have hf : R = 0 := by
        rw [hR1.out, if_pos]
        have := hg.out
        rw [List.take_of_length_le (by simp)] at this
        exact this
      replace hf := hide hf
      go_wp2
      go_ret
      exact ⟨ret_int hf.out.symm, rfl⟩
theorem rlong_any (n : Nat) (w : World) : Calls Tryz.prog 131 #[.int .i64 (n : Int)] w fun e w' => e = .returned (.int .i64 (longE n)) ∧ w = w' := by
  by_cases h : 1024 < n
  · have h1 : longE n = 6 := if_pos h
    rw [h1]
    have i1 : (1024 : Int) < (n : Int) := by omega
    clear h1
    go_enter Tryz.func131, Tryz.ntmps131
    go_wp2
    go_ret
    exact ⟨rfl, rfl⟩
  · have h1 : longE n = 0 := if_neg h
    rw [h1]
    have i1 : ¬ (1024 : Int) < (n : Int) := by omega
    clear h1
    go_enter Tryz.func131, Tryz.ntmps131
    go_wp2
    go_ret
    exact ⟨rfl, rfl⟩
set_option maxRecDepth 100000 in
set_option maxHeartbeats 1600000 in
theorem firstE_take (l : List Int) (k : Nat) (h : ∀ x ∈ l.take k, x = 0) : firstE l = firstE (l.drop k) := by
  induction k generalizing l with
  | zero => rfl
  | succ k ih =>
    cases l with
    | nil => rfl
    | cons a l =>
      have ha : a = 0 := h a (by simp)
      show (if a ≠ 0 then a else firstE l) = firstE (l.drop k)
      rw [if_neg (by simpa using ha)]
      exact ih l (fun x hx => h x (by simp [hx]))
theorem rfirst_any (A : Option Addr) (l : List Int) (c : Nat) (w : World) (h : RdI w A l) (hl : l.length ≤ maxLen) : Calls Tryz.prog 129 #[.slice A l.length c] w fun e w' => e = .returned (.int .i64 (firstE l)) ∧ w = w' := by
  unfold maxLen at hl
  obtain ⟨R, hR⟩ : ∃ R, R = firstE l := ⟨_, rfl⟩
  rw [← hR]
  obtain ⟨n, hn⟩ : ∃ n, l.length = n := ⟨_, rfl⟩
  rw [hn] at hl ⊢
  replace hn := hide hn
  replace hR := hide hR
  go_enter Tryz.func129, Tryz.ntmps129
  go_wp2
  go_loop [7] (fun i => ∃ k : Nat, k ≤ n ∧ i = .int .i64 k ∧ Hid (∀ x ∈ l.take k, x = 0)) (fun i => n - (intOf i).toNat)
  case atStart => exact ⟨0, by omega, rfl, hide (fun x hx => by simp at hx)⟩
  case round =>
    obtain ⟨k, hk, rfl, hg⟩ := hrel
    by_cases hlt : k < n
    · obtain ⟨b, off, x, rfl, hb, hx, cx⟩ := RdG.at h k (by have := hn.out; omega)
      by_cases hz : x = 0
      · subst hz
        have hg2 : ∀ y ∈ l.take (k + 1), y = 0 := by
          intro y hy
          rw [List.take_succ, hx] at hy
          rcases List.mem_append.1 hy with hy | hy
          · exact hg.out y hy
          · simpa using hy
        replace hg2 := hide hg2
        replace hx := hide hx
        go_wp2
        go_round
        case rel => exact ⟨k + 1, by omega, by go_num, hg2⟩
        case measure => simp [intOf]; omega
      · have hzb : (x != 0) = true := by simpa using hz
        have hf : R = x := by
          rw [hR.out, firstE_take l k hg.out]
          have hd : l.drop k = x :: l.drop (k + 1) := by
            rw [List.drop_eq_getElem_cons (by have := hn.out; omega)]
            congr 1
            rw [List.getElem?_eq_getElem (by have := hn.out; omega)] at hx
            exact Option.some.inj hx
          rw [hd]
          exact if_pos hz
        replace hf := hide hf
        replace hx := hide hx
        clear hz
        go_wp2
        go_ret
        exact ⟨ret_int hf.out.symm, rfl⟩
    · obtain rfl : k = n := by omega
      have hf : R = 0 := by
        rw [hR.out, firstE_take l k hg.out, List.drop_of_length_le (by have := hn.out; omega)]
        rfl
      replace hf := hide hf
      go_wp2
      go_ret
      exact ⟨ret_int hf.out.symm, rfl⟩
/-- A field in new memory. -/
def FldPost (w : World) (p : PF) : Ending → World → Prop := fun e w' => Only [] w w' ∧ ∃ f : FD, e = .returned f.val ∧ f.pf = p ∧ f.new w.heap.size ∧ f.ok w' ∧ U32 f.n
set_option maxRecDepth 100000 in
set_option maxHeartbeats 1600000 in
theorem rtext_any (s : ByteArray) (w : World) (hs : s.size ≤ 140737488355328) : Calls Tryz.prog 132 #[.string s] w (FldPost w { pT s with kind := 0 }) := by
  obtain ⟨w1, hw1⟩ : ∃ w1, w1 = w.alloc (.cells #[.int .i64 0, .int .u32 0, .slice none 0 0, .slice none 0 0] 123) := ⟨_, rfl⟩
  have P1 : Only [] w w1 := by rw [hw1]; exact (Only.refl _ _).alloc _
  have K1 : Blk w1 w.heap.size 123 [.int .i64 0, .int .u32 0, .slice none 0 0, .slice none 0 0] := by rw [hw1]; exact Blk.new w _ _
  have hs1 : w1.heap.size = w.heap.size + 1 := by rw [hw1]; simp
  obtain ⟨cc, w3, hcv, hcc, hcm, P3, RS, hs3⟩ := run_conv_bytes w1 s.data.toList
  have hul : s.data.toList.length = s.size := by simp
  rw [hul] at hcv hcc hcm
  have heta : (⟨s.data.toList.toArray⟩ : ByteArray) = s := Go.Joins.bytes_eta s
  rw [heta] at hcv
  have K3 := K1.only P3 (by simp)
  have g0 : w3.cell? ⟨w.heap.size, 0, none⟩ = some (.int .i64 0) := K3.cell 0
  have g1 : w3.cell? ⟨w.heap.size, 1, none⟩ = some (.int .u32 0) := K3.cell 1
  have g2 : w3.cell? ⟨w.heap.size, 2, none⟩ = some (.slice none 0 0) := K3.cell 2
  have g3 : w3.cell? ⟨w.heap.size, 3, none⟩ = some (.slice none 0 0) := K3.cell 3
  have f0 := K3.frozen 0
  have f1 := K3.frozen 1
  have f2 := K3.frozen 2
  have f3 := K3.frozen 3
  rw [hw1] at hcv
  have hcc2 : (sOf s).length ≤ cc := by rw [sOf_len]; exact hcc
  have hcm2 : cc ≤ maxLen := hcm (by unfold maxLen; omega)
  rw [hs1] at RS
  rw [show (w.alloc (.cells #[.int .i64 0, .int .u32 0, .slice none 0 0, .slice none 0 0] 123)).heap.size = w.heap.size + 1 by simp] at hcv
  obtain ⟨n, hn⟩ : ∃ n, s.size = n := ⟨_, rfl⟩
  rw [hn] at hcv
  replace hcc := hide hcc
  replace hul := hide hul
  replace hn := hide hn
  replace hs1 := hide hs1
  replace hw1 := hide hw1
  replace heta := hide heta
  clear K1 hcm
  go_enter Tryz.func132, Tryz.ntmps132
  go_wp2
  (try simp only [Exit.inBlock, Exit.then])
  have Y4 := W4.only w3 w.heap.size (.int .i64 0) (.int .u32 0) (.slice (some ⟨w.heap.size + 1, 0, none⟩) n cc) (.slice none 0 0)
  refine ret_field (g := w.heap.size) rfl (by rfl) (by rfl) (W4.blk K3 (.int .i64 0) (.int .u32 0) (.slice (some ⟨w.heap.size + 1, 0, none⟩) n cc) (.slice none 0 0)) ?_
  refine ⟨(P1.trans P3 (by simp)).trans Y4 (fun x hx => .inr (by simp at hx; omega)), ⟨0, 0, some ⟨w.heap.size + 1, 0, none⟩, cc, sOf s, none, 0, []⟩, ?_, rfl, ⟨fun a ha => by injection ha with ha; subst ha; exact Nat.le_succ _, fun a ha => by simp at ha⟩, ⟨?_, RdG.nil, hcc2, hcm2, by simp, by simp, by simp⟩, Int.le_refl 0, show (0 : Int) ≤ 4294967295 by decide⟩
  · unfold FD.val
    dsimp only
    rw [sOf_len, hn.out]
    rfl
  · exact RdG.onlyL (mk := .int .u8) RS Y4 (fun a ha _ => by injection ha with ha; subst ha; simp)
set_option maxRecDepth 100000 in
set_option maxHeartbeats 1600000 in
theorem rflag_any (b : Bool) (w : World) : Calls Tryz.prog 134 #[.bool b] w (FldPost w { pB b with kind := 0 }) := by
  cases b with
  | true =>
    go_enter Tryz.func134, Tryz.ntmps134
    go_wp2
    (try simp only [Exit.inBlock, Exit.then])
    refine ret_field (g := w.heap.size) rfl (by rfl) (by rfl) (Blk.new w 123 [.int .i64 0, .int .u32 1, .slice none 0 0, .slice none 0 0]) ?_
    exact ⟨(Only.refl _ _).alloc _, ⟨0, 1, none, 0, [], none, 0, []⟩, rfl, rfl, FD.new.plain _ _ _, FD.ok.plain _ _ _, by decide, by decide⟩
  | false =>
    go_enter Tryz.func134, Tryz.ntmps134
    go_wp2
    (try simp only [Exit.inBlock, Exit.then])
    refine ret_field (g := w.heap.size) rfl (by rfl) (by rfl) (Blk.new w 123 [.int .i64 0, .int .u32 0, .slice none 0 0, .slice none 0 0]) ?_
    exact ⟨(Only.refl _ _).alloc _, ⟨0, 0, none, 0, [], none, 0, []⟩, rfl, rfl, FD.new.plain _ _ _, FD.ok.plain _ _ _, by decide, by decide⟩
/-- Fields in a new slice. -/
theorem ownF_lit (w : World) (fs : List FD) (n : Nat) (hn : fs.length = n) (h1 : n ≤ 1000) (cs : Array Value) (h : cs = (fcells fs).toArray) : OwnF (w.alloc (.cells cs 123)) w.heap.size (.slice (some ⟨w.heap.size, 0, none⟩) n n) fs := by
  subst h
  subst hn
  exact ⟨by rw [fcells_length], .inr ⟨w.heap.size, fs.length, (fcells fs).toArray, rfl, Nat.le_refl _, heap_alloc_new w (.cells (fcells fs).toArray 123), Nat.le_refl _, by unfold maxLen; omega, by simp [fcells_length], by rw [← fcells_length]; simp⟩⟩
/-- What a getter hands on: fields in a slice of their own, their kinds not yet set. -/
def GetsPost (w : World) (ps : List PF) : Ending → World → Prop := fun e w' => Only [] w w' ∧ ∃ (v : Value) (fs : List FD), e = .returned v ∧ OwnF w' w.heap.size v fs ∧ fs.map FD.pf = ps.map (fun p => { p with kind := 0 }) ∧ (∀ f ∈ fs, FD.ok w' f ∧ f.off v) ∧ ∀ f ∈ fs, U32 f.n
theorem off_new {w : World} {f : FD} (h : f.ok w) (n c : Nat) : f.off (.slice (some ⟨w.heap.size, 0, none⟩) n c) :=
  ⟨fun a ha h0 hx => by have := h.tlt a ha h0; have hx2 : w.heap.size = a.block := Option.some.inj hx; omega, fun a ha h0 hx => by have := h.llt a ha h0; have hx2 : w.heap.size = a.block := Option.some.inj hx; omega⟩
theorem plain_off (k n : Int) (v : Value) : FD.off ⟨k, n, none, 0, [], none, 0, []⟩ v := ⟨fun a ha => by simp at ha, fun a ha => by simp at ha⟩
end Go.Proofs.YtdplnedpbkpgpaaGreatDoor

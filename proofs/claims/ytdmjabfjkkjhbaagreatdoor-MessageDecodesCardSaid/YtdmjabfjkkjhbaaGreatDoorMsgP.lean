/- The document's answer for layer 3: fields of one kind; no condition. -/
import Derived.Test.YtdmjabfjkkjhbaaGreatDoorMsgM
namespace Go.Proofs.YtdmjabfjkkjhbaaGreatDoor
set_option linter.all false
open Go.RowKit

/-- What a maker of a field hands on. -/
def FPost (w : World) (p : PF) : Ending → World → Prop := fun e w' => Only [] w w' ∧ ∃ f : FD, e = .returned f.val ∧ f.pf = p ∧ f.ok w' ∧ 0 ≤ f.n ∧ f.n ≤ 4294967295
section
variable (w : World)
set_option maxRecDepth 100000 in
set_option maxHeartbeats 3200000 in
theorem mkNumber_any (n : Int) (hn : U32 n) : Calls Tryz.prog 35 #[.int .u32 n] w (FPost w ⟨3, n, [], []⟩) := by
  go_enter Tryz.func35, Tryz.ntmps35
  go_wp2
  (try simp only [Exit.inBlock, Exit.then])
  refine ret_field (g := w.heap.size) rfl (by rfl) (by rfl) (Blk.new w 49 [.int .i64 3, .int .u32 n, .slice none 0 0, .slice none 0 0]) ?_
  exact ⟨(Only.refl _ _).alloc _, ⟨3, n, none, 0, [], none, 0, []⟩, rfl, rfl, FD.ok.plain _ _ _, hn.1, hn.2⟩
set_option maxRecDepth 100000 in
set_option maxHeartbeats 3200000 in
theorem mkBytes_any (A : Option Addr) (l : List Int) (c : Nat) (h : RdG (.int .u8) w A l) (hlc : l.length ≤ c) (hcm : c ≤ maxLen) : Calls Tryz.prog 36 #[.slice A l.length c] w (FPost w ⟨4, 0, l, []⟩) := by
  go_enter Tryz.func36, Tryz.ntmps36
  go_wp2
  (try simp only [Exit.inBlock, Exit.then])
  refine ret_field (g := w.heap.size) rfl (by rfl) (by rfl) (Blk.new w 49 [.int .i64 4, .int .u32 0, .slice A l.length c, .slice none 0 0]) ?_
  exact ⟨(Only.refl _ _).alloc _, ⟨4, 0, A, c, l, none, 0, []⟩, rfl, rfl, ⟨RdG.only h ((Only.refl _ _).alloc _), RdG.nil, hlc, hcm, by simp, by simp, by simp⟩, Int.le_refl 0, show (0 : Int) ≤ 4294967295 by decide⟩
set_option maxRecDepth 100000 in
set_option maxHeartbeats 3200000 in
theorem mkRest_any (A : Option Addr) (l : List Int) (c : Nat) (h : RdG (.int .u8) w A l) (hlc : l.length ≤ c) (hcm : c ≤ maxLen) : Calls Tryz.prog 39 #[.slice A l.length c] w (FPost w ⟨6, 0, l, []⟩) := by
  go_enter Tryz.func39, Tryz.ntmps39
  go_wp2
  (try simp only [Exit.inBlock, Exit.then])
  refine ret_field (g := w.heap.size) rfl (by rfl) (by rfl) (Blk.new w 49 [.int .i64 6, .int .u32 0, .slice A l.length c, .slice none 0 0]) ?_
  exact ⟨(Only.refl _ _).alloc _, ⟨6, 0, A, c, l, none, 0, []⟩, rfl, rfl, ⟨RdG.only h ((Only.refl _ _).alloc _), RdG.nil, hlc, hcm, by simp, by simp, by simp⟩, Int.le_refl 0, show (0 : Int) ≤ 4294967295 by decide⟩
set_option maxRecDepth 100000 in
set_option maxHeartbeats 3200000 in
theorem mkFlag_any (b : Bool) : Calls Tryz.prog 38 #[.bool b] w (FPost w ⟨2, if b then 1 else 0, [], []⟩) := by
  cases b with
  | true =>
    go_enter Tryz.func38, Tryz.ntmps38
    go_wp2
    (try simp only [Exit.inBlock, Exit.then])
    refine ret_field (g := w.heap.size) rfl (by rfl) (by rfl) (Blk.new w 49 [.int .i64 2, .int .u32 1, .slice none 0 0, .slice none 0 0]) ?_
    exact ⟨(Only.refl _ _).alloc _, ⟨2, 1, none, 0, [], none, 0, []⟩, rfl, rfl, FD.ok.plain _ _ _, by decide, by decide⟩
  | false =>
    go_enter Tryz.func38, Tryz.ntmps38
    go_wp2
    (try simp only [Exit.inBlock, Exit.then])
    refine ret_field (g := w.heap.size) rfl (by rfl) (by rfl) (Blk.new w 49 [.int .i64 2, .int .u32 0, .slice none 0 0, .slice none 0 0]) ?_
    exact ⟨(Only.refl _ _).alloc _, ⟨2, 0, none, 0, [], none, 0, []⟩, rfl, rfl, FD.ok.plain _ _ _, by decide, by decide⟩
set_option maxRecDepth 100000 in
set_option maxHeartbeats 3200000 in
theorem mkText_any (s : ByteArray) (hs : s.size ≤ 140737488355328) : Calls Tryz.prog 37 #[.string s] w (FPost w ⟨4, 0, sOf s, []⟩) := by
  obtain ⟨w1, hw1⟩ : ∃ w1, w1 = w.alloc (.cells #[.int .i64 0, .int .u32 0, .slice none 0 0, .slice none 0 0] 49) := ⟨_, rfl⟩
  have P1 : Only [] w w1 := by rw [hw1]; exact (Only.refl _ _).alloc _
  have K1 : Blk w1 w.heap.size 49 [.int .i64 0, .int .u32 0, .slice none 0 0, .slice none 0 0] := by rw [hw1]; exact Blk.new w _ _
  have hs1 : w1.heap.size = w.heap.size + 1 := by rw [hw1]; simp
  obtain ⟨cc, w3, hcv, hcc, hcm, P3, RS, hs3⟩ := run_conv_bytes w1 s.data.toList
  have hul : s.data.toList.length = s.size := by simp
  rw [hul] at hcv hcc hcm
  have heta : (⟨s.data.toList.toArray⟩ : ByteArray) = s := Go.Joins.bytes_eta s
  rw [heta] at hcv
  have K3 := K1.only P3 (by simp)
  have g0 : w3.cell? ⟨w.heap.size, 0, none⟩ = some (.int .i64 0) := K3.cell 0
  have f0 := K3.frozen 0
  have g1 : w3.cell? ⟨w.heap.size, 1, none⟩ = some (.int .u32 0) := K3.cell 1
  have f1 := K3.frozen 1
  have g2 : w3.cell? ⟨w.heap.size, 2, none⟩ = some (.slice none 0 0) := K3.cell 2
  have f2 := K3.frozen 2
  have g3 : w3.cell? ⟨w.heap.size, 3, none⟩ = some (.slice none 0 0) := K3.cell 3
  have f3 := K3.frozen 3
  rw [hw1] at hcv
  have hcc2 : (sOf s).length ≤ cc := by rw [sOf_len]; exact hcc
  have hcm2 : cc ≤ maxLen := hcm (by unfold maxLen; omega)
  rw [hs1] at RS
  rw [show (w.alloc (.cells #[.int .i64 0, .int .u32 0, .slice none 0 0, .slice none 0 0] 49)).heap.size = w.heap.size + 1 by simp] at hcv
  obtain ⟨n, hn⟩ : ∃ n, s.size = n := ⟨_, rfl⟩
  rw [hn] at hcv
  replace hcc := hide hcc
  replace hul := hide hul
  replace hn := hide hn
  replace hs1 := hide hs1
  replace hw1 := hide hw1
  replace heta := hide heta
  clear K1 hcm
  go_enter Tryz.func37, Tryz.ntmps37
  go_wp2
  (try simp only [Exit.inBlock, Exit.then])
  have Y4 := W4.only w3 w.heap.size (.int .i64 4) (.int .u32 0) (.slice (some ⟨w.heap.size + 1, 0, none⟩) n cc) (.slice none 0 0)
  refine ret_field (g := w.heap.size) rfl (by rfl) (by rfl) (W4.blk K3 (.int .i64 4) (.int .u32 0) (.slice (some ⟨w.heap.size + 1, 0, none⟩) n cc) (.slice none 0 0)) ?_
  refine ⟨(P1.trans P3 (by simp)).trans Y4 (fun x hx => .inr (by simp at hx; omega)), ⟨4, 0, some ⟨w.heap.size + 1, 0, none⟩, cc, sOf s, none, 0, []⟩, ?_, rfl, ⟨?_, RdG.nil, hcc2, hcm2, by simp, by simp, by simp⟩, Int.le_refl 0, show (0 : Int) ≤ 4294967295 by decide⟩
  · unfold FD.val
    dsimp only
    rw [sOf_len, hn.out]
    rfl
  · exact RdG.onlyL (mk := .int .u8) RS Y4 (fun a ha _ => by injection ha with ha; subst ha; simp)
end
end Go.Proofs.YtdmjabfjkkjhbaaGreatDoor

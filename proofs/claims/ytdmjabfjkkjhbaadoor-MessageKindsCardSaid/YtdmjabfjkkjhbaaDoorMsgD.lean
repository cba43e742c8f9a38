/- Layer 3: the names got of a message; the getters by the table; texts that are printable, messages that fit; no condition. -/
import Derived.Test.YtdmjabfjkkjhbaaDoorMsgC
namespace Go.Proofs.YtdmjabfjkkjhbaaDoor
set_option linter.all false
open Go.RowKit

section
variable (m : MD) (g : Nat) (w : World)
set_option maxRecDepth 100000 in
set_option maxHeartbeats 1600000 in
theorem getName_any (hg : Blk w g 81 m.cells) (hs : m.name.size ≤ 140737488355328) : Calls Tryd.prog 87 #[.pointer (some ⟨g, 0, none⟩)] w (GetPost w m.dA m.data ⟨4, 0, sOf m.name, []⟩) := by
  have c : w.cell? ⟨g, 6, none⟩ = some (.string m.name) := hg.cell 6
  have hlt := hg.lt
  have hne : ¬ g = w.heap.size := by omega
  obtain ⟨w1, hw1⟩ : ∃ w1, w1 = w.alloc (.cells #[.int .i64 0, .int .u32 0, .slice none 0 0, .slice none 0 0] 35) := ⟨_, rfl⟩
  have P1 : Only [] w w1 := by rw [hw1]; exact (Only.refl _ _).alloc _
  have K1 : Blk w1 w.heap.size 35 [.int .i64 0, .int .u32 0, .slice none 0 0, .slice none 0 0] := by rw [hw1]; exact Blk.new w _ _
  have hs1 : w1.heap.size = w.heap.size + 1 := by rw [hw1]; simp
  obtain ⟨cc, w3, hcv, hcc, hcm, P3, RS, hs3⟩ := run_conv_bytes w1 m.name.data.toList
  have hul : m.name.data.toList.length = m.name.size := by simp
  rw [hul] at hcv hcc hcm
  have heta : (⟨m.name.data.toList.toArray⟩ : ByteArray) = m.name := Go.Joins.bytes_eta m.name
  rw [heta] at hcv
  have K3 := K1.only P3 (by simp)
  have g0 : w3.cell? ⟨w.heap.size, 0, none⟩ = some (.int .i64 0) := K3.cell 0
  have g1 : w3.cell? ⟨w.heap.size, 1, none⟩ = some (.int .u32 0) := K3.cell 1
  have g2 : w3.cell? ⟨w.heap.size, 2, none⟩ = some (.slice none 0 0) := K3.cell 2
  have g3 : w3.cell? ⟨w.heap.size, 3, none⟩ = some (.slice none 0 0) := K3.cell 3
  have f0 := K3.frozen 0
  have f1 := K3.frozen 1
  have f2 := K3.frozen 2
  have f3 := K3.frozen 3
  rw [hw1] at hcv
  have hcc2 : (sOf m.name).length ≤ cc := by rw [sOf_len]; exact hcc
  have hcm2 : cc ≤ maxLen := hcm (by unfold maxLen; omega)
  rw [hs1] at RS
  rw [show (w.alloc (.cells #[.int .i64 0, .int .u32 0, .slice none 0 0, .slice none 0 0] 35)).heap.size = w.heap.size + 1 by simp] at hcv
  obtain ⟨n, hn⟩ : ∃ n, m.name.size = n := ⟨_, rfl⟩
  rw [hn] at hcv
  replace hcc := hide hcc
  replace hul := hide hul
  replace hn := hide hn
  replace hs1 := hide hs1
  replace hw1 := hide hw1
  replace heta := hide heta
  clear K1 hcm
  go_enter Tryd.func87, Tryd.ntmps87
  go_wp2
  (try simp only [Exit.inBlock, Exit.then])
  have Y4 := W4.only w3 w.heap.size (.int .i64 0) (.int .u32 0) (.slice (some ⟨w.heap.size + 1, 0, none⟩) n cc) (.slice none 0 0)
  refine ret_field (g := w.heap.size) rfl (by rfl) (by rfl) (W4.blk K3 (.int .i64 0) (.int .u32 0) (.slice (some ⟨w.heap.size + 1, 0, none⟩) n cc) (.slice none 0 0)) ?_
  refine ⟨(P1.trans P3 (by simp)).trans Y4 (fun x hx => .inr (by simp at hx; omega)), ⟨0, 0, some ⟨w.heap.size + 1, 0, none⟩, cc, sOf m.name, none, 0, []⟩, ?_, rfl, .inr (fun a ha => by injection ha with ha; subst ha; exact Nat.le_succ _), ⟨?_, RdG.nil, hcc2, hcm2, by simp, by simp, by simp⟩, Int.le_refl 0, show (0 : Int) ≤ 4294967295 by decide⟩
  · unfold FD.val
    dsimp only
    rw [sOf_len, hn.out]
    rfl
  · exact RdG.onlyL (mk := .int .u8) RS Y4 (fun a ha _ => by injection ha with ha; subst ha; simp)
set_option maxRecDepth 100000 in
set_option maxHeartbeats 1600000 in
theorem getLang_any (hg : Blk w g 81 m.cells) (hs : m.lang.size ≤ 140737488355328) : Calls Tryd.prog 85 #[.pointer (some ⟨g, 0, none⟩)] w (GetPost w m.dA m.data ⟨4, 0, sOf m.lang, []⟩) := by
  have c : w.cell? ⟨g, 7, none⟩ = some (.string m.lang) := hg.cell 7
  have hlt := hg.lt
  have hne : ¬ g = w.heap.size := by omega
  obtain ⟨w1, hw1⟩ : ∃ w1, w1 = w.alloc (.cells #[.int .i64 0, .int .u32 0, .slice none 0 0, .slice none 0 0] 35) := ⟨_, rfl⟩
  have P1 : Only [] w w1 := by rw [hw1]; exact (Only.refl _ _).alloc _
  have K1 : Blk w1 w.heap.size 35 [.int .i64 0, .int .u32 0, .slice none 0 0, .slice none 0 0] := by rw [hw1]; exact Blk.new w _ _
  have hs1 : w1.heap.size = w.heap.size + 1 := by rw [hw1]; simp
  obtain ⟨cc, w3, hcv, hcc, hcm, P3, RS, hs3⟩ := run_conv_bytes w1 m.lang.data.toList
  have hul : m.lang.data.toList.length = m.lang.size := by simp
  rw [hul] at hcv hcc hcm
  have heta : (⟨m.lang.data.toList.toArray⟩ : ByteArray) = m.lang := Go.Joins.bytes_eta m.lang
  rw [heta] at hcv
  have K3 := K1.only P3 (by simp)
  have g0 : w3.cell? ⟨w.heap.size, 0, none⟩ = some (.int .i64 0) := K3.cell 0
  have g1 : w3.cell? ⟨w.heap.size, 1, none⟩ = some (.int .u32 0) := K3.cell 1
  have g2 : w3.cell? ⟨w.heap.size, 2, none⟩ = some (.slice none 0 0) := K3.cell 2
  have g3 : w3.cell? ⟨w.heap.size, 3, none⟩ = some (.slice none 0 0) := K3.cell 3
  have f0 := K3.frozen 0
  have f1 := K3.frozen 1
  have f2 := K3.frozen 2
  have f3 := K3.frozen 3
  rw [hw1] at hcv
  have hcc2 : (sOf m.lang).length ≤ cc := by rw [sOf_len]; exact hcc
  have hcm2 : cc ≤ maxLen := hcm (by unfold maxLen; omega)
  rw [hs1] at RS
  rw [show (w.alloc (.cells #[.int .i64 0, .int .u32 0, .slice none 0 0, .slice none 0 0] 35)).heap.size = w.heap.size + 1 by simp] at hcv
  obtain ⟨n, hn⟩ : ∃ n, m.lang.size = n := ⟨_, rfl⟩
  rw [hn] at hcv
  replace hcc := hide hcc
  replace hul := hide hul
  replace hn := hide hn
  replace hs1 := hide hs1
  replace hw1 := hide hw1
  replace heta := hide heta
  clear K1 hcm
  go_enter Tryd.func85, Tryd.ntmps85
  go_wp2
  (try simp only [Exit.inBlock, Exit.then])
  have Y4 := W4.only w3 w.heap.size (.int .i64 0) (.int .u32 0) (.slice (some ⟨w.heap.size + 1, 0, none⟩) n cc) (.slice none 0 0)
  refine ret_field (g := w.heap.size) rfl (by rfl) (by rfl) (W4.blk K3 (.int .i64 0) (.int .u32 0) (.slice (some ⟨w.heap.size + 1, 0, none⟩) n cc) (.slice none 0 0)) ?_
  refine ⟨(P1.trans P3 (by simp)).trans Y4 (fun x hx => .inr (by simp at hx; omega)), ⟨0, 0, some ⟨w.heap.size + 1, 0, none⟩, cc, sOf m.lang, none, 0, []⟩, ?_, rfl, .inr (fun a ha => by injection ha with ha; subst ha; exact Nat.le_succ _), ⟨?_, RdG.nil, hcc2, hcm2, by simp, by simp, by simp⟩, Int.le_refl 0, show (0 : Int) ≤ 4294967295 by decide⟩
  · unfold FD.val
    dsimp only
    rw [sOf_len, hn.out]
    rfl
  · exact RdG.onlyL (mk := .int .u8) RS Y4 (fun a ha _ => by injection ha with ha; subst ha; simp)
end
/-- The getter of a part. -/
theorem get_any (j : Nat) (hj : j < 10) : ∃ F : FuncId, pget j = F ∧ (∀ (args : Array Value) (w : World), (callFunc F args).run Tryd.prog w = .ok (.enter F args) w) ∧
    ∀ (w : World) (m : MD) (g : Nat), Blk w g 81 m.cells → m.ok w → m.name.size ≤ 140737488355328 → m.lang.size ≤ 140737488355328 → Calls Tryd.prog F #[.pointer (some ⟨g, 0, none⟩)] w (GetPost w m.dA m.data (partP m j)) := by
  have h : j = 0 ∨ j = 1 ∨ j = 2 ∨ j = 3 ∨ j = 4 ∨ j = 5 ∨ j = 6 ∨ j = 7 ∨ j = 8 ∨ j = 9 := by omega
  rcases h with rfl | rfl | rfl | rfl | rfl | rfl | rfl | rfl | rfl | rfl
  · exact ⟨_, rfl, fun args w => by kernel_rfl, fun w m g hg hm hs hl => getCode_any m g w hg hm.nums.2.2.2.2⟩
  · exact ⟨_, rfl, fun args w => by kernel_rfl, fun w m g hg hm hs hl => getData_any m g w 4 hg hm⟩
  · exact ⟨_, rfl, fun args w => by kernel_rfl, fun w m g hg hm hs hl => getLang_any m g w hg hl⟩
  · exact ⟨_, rfl, fun args w => by kernel_rfl, fun w m g hg hm hs hl => getName_any m g w hg hs⟩
  · exact ⟨_, rfl, fun args w => by kernel_rfl, fun w m g hg hm hs hl => getWant_any m g w hg⟩
  · exact ⟨_, rfl, fun args w => by kernel_rfl, fun w m g hg hm hs hl => getData_any m g w 6 hg hm⟩
  · exact ⟨_, rfl, fun args w => by kernel_rfl, fun w m g hg hm hs hl => getSender_any m g w hg hm.nums.2.1⟩
  · exact ⟨_, rfl, fun args w => by kernel_rfl, fun w m g hg hm hs hl => getWindow_any m g w hg hm.nums.2.2.1⟩
  · exact ⟨_, rfl, fun args w => by kernel_rfl, fun w m g hg hm hs hl => getPacket_any m g w hg hm.nums.2.2.2.1⟩
  · exact ⟨_, rfl, fun args w => by kernel_rfl, fun w m g hg hm hs hl => getChan_any m g w hg hm.nums.1⟩
end Go.Proofs.YtdmjabfjkkjhbaaDoor

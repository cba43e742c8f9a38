/- Layer 3: the putters by the table; the document's answer: is a message more than is looked at; no condition. -/
import Derived.Test.YtdmjabfjkkjhbaaDoorMsgG
namespace Go.Proofs.YtdmjabfjkkjhbaaDoor
set_option linter.all false
open Go.RowKit

/-- The putter of a part. -/
theorem put_any (j : Nat) (hj : j < 10) : ∃ F : FuncId, pput j = F ∧ (∀ (args : Array Value) (w : World), (callFunc F args).run Tryd.prog w = .ok (.enter F args) w) ∧
    ∀ (w : World) (m : MD) (f : FD) (g : Nat), Blk w g 81 m.cells → f.ok w → Calls Tryd.prog F #[.pointer (some ⟨g, 0, none⟩), f.val] w (PutPost w g (putM m j f)) := by
  have h : j = 0 ∨ j = 1 ∨ j = 2 ∨ j = 3 ∨ j = 4 ∨ j = 5 ∨ j = 6 ∨ j = 7 ∨ j = 8 ∨ j = 9 := by omega
  rcases h with rfl | rfl | rfl | rfl | rfl | rfl | rfl | rfl | rfl | rfl
  · exact ⟨_, rfl, fun args w => by kernel_rfl, fun w m f g hg hf => putCode_any m f g w hg⟩
  · exact ⟨_, rfl, fun args w => by kernel_rfl, fun w m f g hg hf => putData_any m f g w hg⟩
  · exact ⟨_, rfl, fun args w => by kernel_rfl, fun w m f g hg hf => putLang_any m f g w hg hf⟩
  · exact ⟨_, rfl, fun args w => by kernel_rfl, fun w m f g hg hf => putName_any m f g w hg hf⟩
  · exact ⟨_, rfl, fun args w => by kernel_rfl, fun w m f g hg hf => putWant_any m f g w hg⟩
  · exact ⟨_, rfl, fun args w => by kernel_rfl, fun w m f g hg hf => putData_any m f g w hg⟩
  · exact ⟨_, rfl, fun args w => by kernel_rfl, fun w m f g hg hf => putSender_any m f g w hg⟩
  · exact ⟨_, rfl, fun args w => by kernel_rfl, fun w m f g hg hf => putWindow_any m f g w hg⟩
  · exact ⟨_, rfl, fun args w => by kernel_rfl, fun w m f g hg hf => putPacket_any m f g w hg⟩
  · exact ⟨_, rfl, fun args w => by kernel_rfl, fun w m f g hg hf => putChan_any m f g w hg⟩
end Go.Proofs.YtdmjabfjkkjhbaaDoor

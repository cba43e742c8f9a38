/- Layer 4: the document's examples; no condition. -/
import Derived.Test.YtpojfcpeibnohaaGreatDoorReqJ
import Derived.Test.YtpojfcpeibnohaaGreatDoorReqH
import Derived.Test.YtpojfcpeibnohaaGreatDoorOctW
import Derived.Test.YtpojfcpeibnohaaGreatDoorReqK
namespace Go.Proofs.YtpojfcpeibnohaaGreatDoor
set_option linter.all false
open Go.RowKit

theorem rexA {m : RQ} {E : Int} (h : DecR ⟨#[101, 120, 101, 99]⟩ [0, 0, 0, 2, 108, 115] m E) : E = 0 ∧ m.kind = 4 ∧ m.text = ⟨#[108, 115]⟩ := by
  unfold DecR at h
  rw [show kindL (⟨#[101, 120, 101, 99]⟩ : ByteArray).data.toList = some 4 by decide] at h
  dsimp only at h
  unfold DecK at h
  rw [show readP (rkinds 4) [0, 0, 0, 2, 108, 115] = (0, [⟨4, 0, [108, 115], []⟩]) by rfl, if_neg (by simp)] at h
  obtain ⟨fs, e1, h⟩ := h
  obtain ⟨x, rfl, hx⟩ := fs1 e1
  have ht : x.text = [108, 115] := pf_text hx
  have hs : strOfNums x.text = ⟨#[108, 115]⟩ := by rw [ht]; rfl
  rw [if_pos (show askR (putR (firstR 4) 4 [x]) 4 = 0 by show longE (strOfNums x.text).size = 0; rw [hs]; rfl)] at h
  exact ⟨h.1, by rw [h.2]; rfl, by rw [h.2]; exact hs⟩
theorem rexB {m : RQ} {E : Int} (h : DecR ⟨#[115, 104, 101, 108, 108]⟩ [0] m E) : E = 4 := by
  unfold DecR at h
  rw [show kindL (⟨#[115, 104, 101, 108, 108]⟩ : ByteArray).data.toList = some 3 by decide] at h
  dsimp only at h
  unfold DecK at h
  rw [show readP (rkinds 3) [0] = (4, []) by rfl, if_pos (by simp)] at h
  exact h.1
theorem rexC {m : RQ} {E : Int} (h : DecR ⟨#[120, 49, 49, 45, 114, 101, 113]⟩ [] m E) : E = 8 := by
  unfold DecR at h
  rw [show kindL (⟨#[120, 49, 49, 45, 114, 101, 113]⟩ : ByteArray).data.toList = none by decide] at h
  exact h.1
def exR : RQ := ⟨9, ⟨#[]⟩, ⟨#[]⟩, ⟨#[]⟩, 0, 0, 0, 0, none, 0, [], false, 7⟩
theorem exR_ok (w : World) : exR.ok w := ⟨RdG.nil, by simp [exR], by simp [exR], by simp [exR], by simp [exR, U32, RNums], Nat.zero_le _, Nat.zero_le _, Nat.zero_le _⟩
theorem exR_enc : encR exR = (0, [0, 0, 0, 7]) := by
  rw [encR_go (k := 9) (by decide) (by decide) rfl rfl]
  show writeP [⟨3, 7, [], []⟩] = _
  decide +kernel
theorem exR_name : encName exR = ⟨#[101, 120, 105, 116, 45, 115, 116, 97, 116, 117, 115]⟩ := by
  rw [encName_ok (k := 9) rfl (by rw [exR_enc])]
  rfl
end Go.Proofs.YtpojfcpeibnohaaGreatDoor

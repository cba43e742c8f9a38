/- Layer 1: the reader of each kind, by the table. -/
import Derived.Test.YtkgikodiecmakaaGreatDoorOctO
namespace Go.Proofs.YtkgikodiecmakaaGreatDoor
set_option linter.all false
open Go.RowKit

def rKind (k : Nat) (l : List Int) : R := if k = 1 then rOctet l else if k = 2 then rFlag l else if k = 3 then rNumber l else if k = 4 then rText l else if k = 5 then rNames l else rRest l
theorem rOctet_rest (l : List Int) : ∃ n, (rOctet l).rest = l.drop n := by
  unfold rOctet rShort
  split
  · exact ⟨0, by simp⟩
  · exact ⟨1, rfl⟩
theorem rNumber_rest (l : List Int) : ∃ n, (rNumber l).rest = l.drop n := by
  unfold rNumber rShort
  split
  · exact ⟨0, by simp⟩
  · exact ⟨4, rfl⟩
theorem rText_rest (l : List Int) : ∃ n, (rText l).rest = l.drop n := by
  unfold rText rTextN rShort
  split
  · exact ⟨0, by simp⟩
  · split
    · exact ⟨4, rfl⟩
    · split
      · exact ⟨4, rfl⟩
      · exact ⟨4 + (be4 l).toNat, by simp⟩
theorem rNames_rest (l : List Int) : ∃ n, (rNames l).rest = l.drop n := by
  obtain ⟨n, h⟩ := rText_rest l
  refine ⟨n, ?_⟩
  unfold rNames rNamesT
  split
  · exact h
  · split
    · exact h
    · exact h
theorem rKind_rest (k : Nat) (l : List Int) : ∃ n, (rKind k l).rest = l.drop n := by
  unfold rKind
  split
  · exact rOctet_rest l
  split
  · exact rOctet_rest l
  split
  · exact rNumber_rest l
  split
  · exact rText_rest l
  split
  · exact rNames_rest l
  · exact ⟨l.length, by simp [rRest]⟩

theorem kind_any (k : Nat) (h1 : 1 ≤ k) (h6 : k ≤ 6) : ∃ F : FuncId, tab[k * 3 + 2]? = some (.func (Fn.func F) #[] #[]) ∧ (∀ (args : Array Value) (w : World), (callFunc F args).run Tryz.prog w = .ok (.enter F args) w) ∧
    ∀ (w : World) (g : Nat) (A : Option Addr) (cap : Nat) (l : List Int) (m : Int), w.cell? ⟨0, 0, none⟩ = some (.int .i64 m) → RdrV w g A cap l 0 → (∀ x ∈ l, 0 ≤ x ∧ x < 256) → l.length ≤ 140737488355000 →
      Calls Tryz.prog F #[.pointer (some ⟨g, 0, none⟩)] w (RPost w g (rKind k l)) := by
  have hk : k = 1 ∨ k = 2 ∨ k = 3 ∨ k = 4 ∨ k = 5 ∨ k = 6 := by omega
  rcases hk with rfl | rfl | rfl | rfl | rfl | rfl
  · exact ⟨110, rfl, fun args w => by kernel_rfl, fun w g A cap l m _ h hl _ => octet_any w g A cap l h hl⟩
  · exact ⟨112, rfl, fun args w => by kernel_rfl, fun w g A cap l m _ h hl _ => flag_any w g A cap l h hl⟩
  · exact ⟨115, rfl, fun args w => by kernel_rfl, fun w g A cap l m _ h hl _ => number_any w g A cap l h hl⟩
  · exact ⟨118, rfl, fun args w => by kernel_rfl, fun w g A cap l m _ h hl _ => text_any w g A cap l h hl⟩
  · exact ⟨121, rfl, fun args w => by kernel_rfl, fun w g A cap l m hm h hl _ => names_any w g A cap l m hm h hl⟩
  · exact ⟨124, rfl, fun args w => by kernel_rfl, fun w g A cap l m _ h _ hn => rest_any w g A cap l h hn⟩

/-- A field as a value. -/
structure PF where
  kind : Int
  n : Int
  text : List Int
  list : List ByteArray
def FD.pf (f : FD) : PF := ⟨f.kind, f.n, f.text, f.list⟩
def readFrom : List Int → List Int → List PF → Int × List PF
  | [], l, acc => if 0 < l.length then (4, []) else (0, acc)
  | k :: ks, l, acc => if (rKind k.toNat l).e ≠ 0 then ((rKind k.toNat l).e, []) else readFrom ks (rKind k.toNat l).rest (acc ++ [⟨k, (rKind k.toNat l).n, (rKind k.toNat l).text, (rKind k.toNat l).list⟩])
def readP (ks l : List Int) : Int × List PF := if rowOk ks then readFrom ks l [] else (2, [])
theorem kindOk_range {k : Int} (h : kindOk k = true) : 1 ≤ k ∧ k ≤ 6 := by
  unfold kindOk at h
  simp at h
  omega
theorem rowOk_at {ks : List Int} (h : rowOk ks = true) {i : Nat} {k : Int} (hk : ks[i]? = some k) : 1 ≤ k ∧ k ≤ 6 := by
  have hi : i < ks.length := (List.getElem?_eq_some_iff.1 hk).1
  have := rowOk_iff.1 h i hi
  unfold goodAt at this
  rw [Bool.and_eq_true] at this
  have h2 := this.1
  rw [show ks.getD i 0 = k by simp [List.getD, hk]] at h2
  exact kindOk_range h2
end Go.Proofs.YtkgikodiecmakaaGreatDoor

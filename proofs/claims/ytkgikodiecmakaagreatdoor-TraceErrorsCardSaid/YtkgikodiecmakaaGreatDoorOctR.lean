/- Layer 1: the writer of each kind, by the table. -/
import Derived.Test.YtkgikodiecmakaaGreatDoorOctQ
namespace Go.Proofs.YtkgikodiecmakaaGreatDoor
set_option linter.all false
open Go.RowKit

def faultP (p : PF) : Int :=
  if p.kind = 1 then over p.n 255 5 else if p.kind = 2 then over p.n 1 5 else if p.kind = 4 then over p.text.length 32768 6
  else if p.kind = 5 then namesBad p.list else if p.kind = 6 then over p.text.length 33792 6 else 0
theorem fault_pf (f : FD) : f.fault = faultP f.pf := rfl
/-- A right field in bytes. -/
def bytesP (p : PF) : List Int :=
  if p.kind = 1 then [p.n % 256] else if p.kind = 2 then [p.n % 256] else if p.kind = 3 then four p.n else if p.kind = 4 then four p.text.length ++ p.text
  else if p.kind = 5 then four (joinU p.list).length ++ u8i (joinU p.list) else p.text
theorem namesBad_ok {l : List ByteArray} (h : namesBad l = 0) : l.length ≤ 64 ∧ ∀ s ∈ l, s.size ≤ 64 := by
  unfold namesBad at h
  split at h
  · cases h
  · split at h
    · refine ⟨by omega, fun s hs => ?_⟩
      rename_i h2
      have := List.all_eq_true.1 h2 s hs
      unfold nameOk at this
      simp at this
      omega
    · cases h
theorem over_ok {a b c : Int} (h : over a b c = 0) (hc : c ≠ 0) : a ≤ b := by
  unfold over at h
  split at h
  · exact absurd h hc
  · omega

theorem kindW_any (k : Nat) (h1 : 1 ≤ k) (h6 : k ≤ 6) : ∃ F G : FuncId, tab[k * 3]? = some (.func (Fn.func F) #[] #[]) ∧ tab[k * 3 + 1]? = some (.func (Fn.func G) #[] #[]) ∧
    (∀ (args : Array Value) (w : World), (callFunc F args).run Tryz.prog w = .ok (.enter F args) w) ∧ (∀ (args : Array Value) (w : World), (callFunc G args).run Tryz.prog w = .ok (.enter G args) w) ∧
    (∀ (w : World) (f : FD), f.kind = k → f.ok w → Calls Tryz.prog F #[f.val] w fun e w' => e = .returned (.int .i64 (faultP f.pf)) ∧ Only [] w w') ∧
    ∀ (w : World) (f : FD) (g base : Nat) (v : Value) (l : List Int), f.kind = k → f.ok w → faultP f.pf = 0 → f.far g v → 0 ≤ f.n ∧ f.n ≤ 4294967295 → WrV w g base v l → l.length ≤ 33792 →
      Calls Tryz.prog G #[.pointer (some ⟨g, 0, none⟩), f.val] w (WPost w g base v (l ++ bytesP f.pf)) := by
  have hk : k = 1 ∨ k = 2 ∨ k = 3 ∨ k = 4 ∨ k = 5 ∨ k = 6 := by omega
  rcases hk with rfl | rfl | rfl | rfl | rfl | rfl
  · refine ⟨108, 109, rfl, rfl, fun args w => by kernel_rfl, fun args w => by kernel_rfl, fun w f hk hf => ?_, fun w f g base v l hk hf h0 hfar hn hw hl => ?_⟩
    · rw [show faultP f.pf = over f.n 255 5 by unfold faultP FD.pf; simp [hk]]; exact octetFault_any f w
    · rw [show bytesP f.pf = [f.n % 256] by unfold bytesP FD.pf; simp [hk]]; exact wOctet_any f g base v l w hw hn (by omega)
  · refine ⟨111, 109, rfl, rfl, fun args w => by kernel_rfl, fun args w => by kernel_rfl, fun w f hk hf => ?_, fun w f g base v l hk hf h0 hfar hn hw hl => ?_⟩
    · rw [show faultP f.pf = over f.n 1 5 by unfold faultP FD.pf; simp [hk]]; exact flagFault_any f w
    · rw [show bytesP f.pf = [f.n % 256] by unfold bytesP FD.pf; simp [hk]]; exact wOctet_any f g base v l w hw hn (by omega)
  · refine ⟨113, 114, rfl, rfl, fun args w => by kernel_rfl, fun args w => by kernel_rfl, fun w f hk hf => ?_, fun w f g base v l hk hf h0 hfar hn hw hl => ?_⟩
    · rw [show faultP f.pf = 0 by unfold faultP FD.pf; simp [hk]]; exact noFault_any f w
    · rw [show bytesP f.pf = four f.n by unfold bytesP FD.pf; simp [hk]]; exact wNumber_any f g base v l w hw hn (by omega)
  · refine ⟨116, 117, rfl, rfl, fun args w => by kernel_rfl, fun args w => by kernel_rfl, fun w f hk hf => ?_, fun w f g base v l hk hf h0 hfar hn hw hl => ?_⟩
    · rw [show faultP f.pf = over f.text.length 32768 6 by unfold faultP FD.pf; simp [hk]]; exact textFault_any f w hf
    · rw [show faultP f.pf = over f.text.length 32768 6 by unfold faultP FD.pf; simp [hk]] at h0
      have := over_ok h0 (by decide)
      rw [show bytesP f.pf = four f.text.length ++ f.text by unfold bytesP FD.pf; simp [hk]]; exact wText_any f g base v l w hw hf hfar (by omega) (by omega)
  · refine ⟨119, 120, rfl, rfl, fun args w => by kernel_rfl, fun args w => by kernel_rfl, fun w f hk hf => ?_, fun w f g base v l hk hf h0 hfar hn hw hl => ?_⟩
    · rw [show faultP f.pf = namesBad f.list by unfold faultP FD.pf; simp [hk]]; exact namesFault_any f w hf
    · rw [show faultP f.pf = namesBad f.list by unfold faultP FD.pf; simp [hk]] at h0
      obtain ⟨h2, h3⟩ := namesBad_ok h0
      rw [show bytesP f.pf = four (joinU f.list).length ++ u8i (joinU f.list) by unfold bytesP FD.pf; simp [hk]]; exact wNames_any f g base v l w hw hf h2 h3 (by omega)
  · refine ⟨122, 123, rfl, rfl, fun args w => by kernel_rfl, fun args w => by kernel_rfl, fun w f hk hf => ?_, fun w f g base v l hk hf h0 hfar hn hw hl => ?_⟩
    · rw [show faultP f.pf = over f.text.length 33792 6 by unfold faultP FD.pf; simp [hk]]; exact restFault_any f w hf
    · rw [show faultP f.pf = over f.text.length 33792 6 by unfold faultP FD.pf; simp [hk]] at h0
      have := over_ok h0 (by decide)
      rw [show bytesP f.pf = f.text by unfold bytesP FD.pf; simp [hk]]; exact wRest_any f g base v l w hw hf (by omega)

/-- Fields in bytes, behind acc. -/
def writeFrom : List PF → List Int → Int × List Int
  | [], acc => (0, acc)
  | p :: ps, acc => if faultP p ≠ 0 then (faultP p, []) else if 33792 < (acc ++ bytesP p).length then (6, []) else writeFrom ps (acc ++ bytesP p)
def writeP (ps : List PF) : Int × List Int := if rowOk (ps.map (·.kind)) then writeFrom ps [] else (2, [])
def sizeP (p : PF) : Int := if 1 ≤ p.kind ∧ p.kind ≤ 6 ∧ faultP p = 0 then (bytesP p).length else 0
end Go.Proofs.YtkgikodiecmakaaGreatDoor

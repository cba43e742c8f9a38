/- The machine: []byte of a literal; over any program; no condition. -/
import Derived.Test.YtmmcamkmglpgiaaGreatDoorEngF
namespace Go.Proofs.YtmmcamkmglpgiaaGreatDoor
set_option linter.all false
set_option maxRecDepth 100000
open Go.RowKit

theorem rd_blk {w : World} {b T : Nat} {l : List Int} (h : Blk w b T (l.map (.int .u8))) : Rd w (some ⟨b, 0, none⟩) l := fun _ =>
  ⟨b, 0, rfl, h.lt, fun i v hi => by rw [h.cell]; simp [hi]⟩
theorem rd_st {A : Option Addr} {l : List Int} (w w' : World) (h1 : ∀ a, A = some a → w'.heap[a.block]? = w.heap[a.block]?) (h2 : w.heap.size ≤ w'.heap.size) (h : Rd w A l) : Rd w' A l := fun h0 => by
  obtain ⟨b, off, rfl, hlt, hc⟩ := h h0
  exact ⟨b, off, rfl, by omega, fun i v hi => (World.cell?_of_block (w := w) (show w'.heap[b]? = w.heap[b]? from h1 _ rfl)).trans (hc i v hi)⟩
/-- []byte of a literal: the block is marked, and reads as it did. -/
theorem run_mark {P : Program} {T E : TypeId} {w : World} {b n : Nat} {l : List Int} (hT : P.underlying T = some (.slice E)) (hE : P.underlying E = some (.int .u8)) (hB : Blk w b E (l.map (.int .u8))) : ∃ w', (convert T T (.slice (some ⟨b, 0, none⟩) n n)).run P w = .ok (.slice (some ⟨b, 0, none⟩) n n) w' ∧ Only [b] w w' ∧ Rd w' (some ⟨b, 0, none⟩) l ∧ b < w'.heap.size := by
  have hlt := hB.lt
  have hs : w.shape? b = some (E, (l.map (Value.int .u8)).length) := by
    unfold World.shape?
    rw [show w.heap[b]? = _ from hB]
    simp
  refine ⟨w.freeze ⟨b, (l.map (Value.int .u8)).length, none⟩ 1, ?_, ?_, ?_, ?_⟩
  · simp [convert, run_underlying hT, run_underlying hE, markStringish, hs]
  · refine ⟨rfl, rfl, rfl, by simp [World.freeze], fun k hk hn => ?_⟩
    simp only [List.mem_singleton] at hn
    simp [World.freeze, Array.getElem?_modify, Ne.symm hn]
  · intro _
    refine ⟨b, 0, rfl, by simpa [World.freeze] using hlt, fun i v hi => ?_⟩
    have h0 : w.heap[b]? = some (.cells (l.map (Value.int .u8)).toArray E (0, 0)) := hB
    simp [World.freeze, World.cell?, Array.getElem?_modify, h0, hi]
  · simpa [World.freeze] using hlt
section
variable {P : Program} {f : FR} {R : Ending → World → Prop} {n : Nat} {w0 : World} {L : List Nat} {β : List Nat} {m : SM}
theorem Hs.mark (k : Nat) (T E : TypeId) (l : List Int) (nl : Nat) (hT : P.underlying T = some (.slice E)) (hE : P.underlying E = some (.int .u8)) (hs : semOf n β m = some (valS (convert T T (.slice (some ⟨nm β k, 0, none⟩) nl nl)))) (hk : m.hp[k]? = some (.b true E (l.map fun x => .v (.int .u8 x)))) (hrd : (rdOf m).contains k = false)
    (h : Hs P f R n w0 L β (m.put (dstOf m) (.c (.v (.slice (some ⟨nm β k, 0, none⟩) nl nl))) (m.hp.set k (.q true (some ⟨nm β k, 0, none⟩) (fun w => Rd w (some ⟨nm β k, 0, none⟩) l) rd_st)))) : Hs P f R n w0 L β m := by
  have hkl := (List.getElem?_eq_some_iff.1 hk).1
  refine Hs.opW hs fun w H W => ?_
  have hB : Blk w (nm β k) E (l.map (.int .u8)) := by
    have := H.at k hk
    have e : dens β (l.map fun x => SC.v (.int .u8 x)) = l.map (.int .u8) := by simp [dens, SC.den, Function.comp_def]
    rw [e] at this; exact this
  obtain ⟨w', h1, h2, h3, h4⟩ := run_mark (n := nl) hT hE hB
  refine ⟨[], .c (.v (.slice (some ⟨nm β k, 0, none⟩) nl nl)), _, w', h1, ?_, ?_, fun i hi b hb => ?_, by rw [List.append_nil]; exact h⟩
  · rw [List.append_nil]
    refine H.swap k hk h2 (fun x hx => by simp only [List.mem_singleton] at hx; subst hx; rfl) rfl ?_ (fun x hx => .inl hx)
    exact ⟨h3, fun a ha => (by injection ha with ha; subst ha; exact h4)⟩
  · simp only [SV.wf, SC.wf, Bool.true_and, Bool.and_eq_true, Nat.ble_eq, List.length_set]
    refine ⟨Nat.le_refl _, List.all_eq_true.2 fun x hx => ?_⟩
    rcases List.mem_or_eq_of_mem_set hx with hx | rfl
    · exact List.all_eq_true.1 (SM.wf_hp W) x hx
    · rfl
  · rw [List.getElem?_set, if_neg (fun e => by
      subst e
      simp at hrd
      exact hrd hi)]
    exact hb
end
end Go.Proofs.YtmmcamkmglpgiaaGreatDoor

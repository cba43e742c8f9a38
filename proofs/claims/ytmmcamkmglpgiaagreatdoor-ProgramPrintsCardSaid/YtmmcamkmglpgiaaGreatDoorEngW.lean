/- The machine: a part of any slice that is read; over any program; no condition. -/
import Derived.Test.YtmmcamkmglpgiaaGreatDoorEngV
namespace Go.Proofs.YtmmcamkmglpgiaaGreatDoor
set_option linter.all false

def loA (size : Nat) (A : Option Addr) (i cap : Nat) : Option Addr := if cap = i then A else A.map (·.add (i * size))
def hiA (size : Nat) (A : Option Addr) (cap : Nat) : Option Addr := if cap = 0 then A else A.map (·.add (0 * size))
section
variable {P : Program} {tS E size bytes : Nat} {α : Type} {cf : α → List Value}
theorem run_loA (ht : ElemT P tS E size bytes) {A : Option Addr} {n cap i : Nat} (hn : i ≤ n) (w : World) : (Instr.sliceAt tS (.slice A n cap) (some (.int .i64 i)) none none).run P w = .ok (.slice (loA size A i cap) (n - i) (cap - i)) w := run_sloA ht hn w
theorem run_hiA (ht : ElemT P tS E size bytes) {A : Option Addr} {n cap i : Nat} (hi : i ≤ cap) (w : World) : (Instr.sliceAt tS (.slice A n cap) none (some (.int .i64 i)) none).run P w = .ok (.slice (hiA size A cap) i cap) w := by
  have hu : P.underlying tS = some (.slice (P.elem tS)) := by rw [ht.elem]; exact ht.ht
  rw [run_sliceAt_slice (h := hu), run_slice_h (ht := hu) (h0 := by omega) (h2 := by omega), ht.elem, ht.sizeOf]
  simp only [Result.andThen_ok, sliced, Int.toNat_natCast]
  rfl
theorem rdX_lo (hcl : ∀ x, (cf x).length = size) {w : World} {A : Option Addr} {l : List α} {i cap : Nat} (h : RdX cf w A l) (hi : i ≤ l.length) (hc : l.length ≤ cap) : RdX cf w (loA size A i cap) (l.drop i) := fun h0 => by
  rw [List.length_drop] at h0
  obtain ⟨b, off, e, hb, hcell⟩ := h (by omega)
  subst e
  refine ⟨b, off + i * size, ?_, hb, fun j u hj => ?_⟩
  · unfold loA
    rw [if_neg (by omega)]
    simp [Addr.add_lit]
  · rw [← flatMap_drop hcl l i hi, List.getElem?_drop] at hj
    have := hcell _ u hj
    rw [Nat.add_assoc]; exact this
theorem rdX_hi (hcl : ∀ x, (cf x).length = size) {w : World} {A : Option Addr} {l : List α} {i cap : Nat} (h : RdX cf w A l) (hi : i ≤ l.length) : RdX cf w (hiA size A cap) (l.take i) := fun h0 => by
  rw [List.length_take] at h0
  obtain ⟨b, off, e, hb, hcell⟩ := h (by omega)
  subst e
  refine ⟨b, off, ?_, hb, fun j u hj => ?_⟩
  · unfold hiA
    split
    · rfl
    · simp [Addr.add_lit]
  · rw [← flatMap_take hcl l i hi, List.getElem?_take] at hj
    split at hj
    · exact hcell _ u hj
    · cases hj
variable {f : FR} {R : Ending → World → Prop} {n : Nat} {w0 : World} {L : List Nat} {β : List Nat} {m : SM}
/-- s[i:], whatever s is. -/
theorem Hs.lo (ht : ElemT P tS E size bytes) {A : Option Addr} {len cap i : Nat} (hn : i ≤ len) (hs : semOf n β m = some (valS (Instr.sliceAt tS (.slice A len cap) (some (.int .i64 i)) none none))) (h : Hs P f R n w0 L β (m.put (dstOf m) (.c (.v (.slice (loA size A i cap) (len - i) (cap - i)))) m.hp)) : Hs P f R n w0 L β m :=
  Hs.opV (.c (.v (.slice (loA size A i cap) (len - i) (cap - i)))) hs rfl (fun w _ => run_loA ht hn w) h
/-- s[:i], whatever s is. -/
theorem Hs.hi (ht : ElemT P tS E size bytes) {A : Option Addr} {len cap i : Nat} (hi : i ≤ cap) (hs : semOf n β m = some (valS (Instr.sliceAt tS (.slice A len cap) none (some (.int .i64 i)) none))) (h : Hs P f R n w0 L β (m.put (dstOf m) (.c (.v (.slice (hiA size A cap) i cap))) m.hp)) : Hs P f R n w0 L β m :=
  Hs.opV (.c (.v (.slice (hiA size A cap) i cap))) hs rfl (fun w _ => run_hiA ht hi w) h
theorem Hs.takeLo (j : Nat) (ht : ElemT P tS E size bytes) {rd : List Nat} {A : Option Addr} {len cap i : Nat} (hn : i ≤ len) (hs : semAt j n β m = some (valS (Instr.sliceAt tS (.slice A len cap) (some (.int .i64 i)) none none), rd)) (h : Hs P f R n w0 L β (takeM j (.c (.v (.slice (loA size A i cap) (len - i) (cap - i)))) m)) : Hs P f R n w0 L β m :=
  Hs.takeV j (.c (.v (.slice (loA size A i cap) (len - i) (cap - i)))) hs rfl (fun w _ => run_loA ht hn w) h
theorem Hs.takeHi (j : Nat) (ht : ElemT P tS E size bytes) {rd : List Nat} {A : Option Addr} {len cap i : Nat} (hi : i ≤ cap) (hs : semAt j n β m = some (valS (Instr.sliceAt tS (.slice A len cap) none (some (.int .i64 i)) none), rd)) (h : Hs P f R n w0 L β (takeM j (.c (.v (.slice (hiA size A cap) i cap))) m)) : Hs P f R n w0 L β m :=
  Hs.takeV j (.c (.v (.slice (hiA size A cap) i cap))) hs rfl (fun w _ => run_hiA ht hi w) h
end
end Go.Proofs.YtmmcamkmglpgiaaGreatDoor

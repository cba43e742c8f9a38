/- The machine: its blocks at the beginning and at the end, as lists; a map's entry read in a region that draws; over any program; no condition. -/
import Derived.Test.YtmmcamkmglpgiaaGreatDoorEngAQ
import Derived.Test.YtmmcamkmglpgiaaGreatDoorEngAO
namespace Go.Proofs.YtmmcamkmglpgiaaGreatDoor
set_option linter.all false
set_option maxRecDepth 100000
open Go.RowKit Go.MapKept

def bks : List Nat → List HB → List Nat
  | b :: β, h :: hp => (h.blk b).toList ++ bks β hp
  | _, _ => []
def liesL (w : World) (β0 : List Nat) : List Nat → List HB → Prop
  | b :: β, h :: hp => h.lies w β0 b ∧ liesL w β0 β hp
  | _, _ => True
section
variable {w w0 : World} {L β β0 : List Nat} {hp : List HB}
theorem bks_mem : ∀ {β : List Nat} {hp : List HB} {i b : Nat} {h : HB} {x : Nat}, hp[i]? = some h → β[i]? = some b → h.blk b = some x → x ∈ bks β hp
  | [], hp, i, b, h, x, _, hb, _ => by simp at hb
  | c :: β, [], i, b, h, x, hh, _, _ => by simp at hh
  | c :: β, a :: hp, 0, b, h, x, hh, hb, hx => by
    simp at hh hb; subst hh; subst hb
    simp [bks, hx]
  | c :: β, a :: hp, i + 1, b, h, x, hh, hb, hx => by
    simp at hh hb
    simp only [bks, List.mem_append]
    exact .inr (bks_mem hh hb hx)
theorem bks_of : ∀ {β : List Nat} {hp : List HB} {x : Nat}, x ∈ bks β hp → ∃ (i b : Nat) (h : HB), hp[i]? = some h ∧ β[i]? = some b ∧ h.blk b = some x
  | [], hp, x, h => by simp [bks] at h
  | c :: β, [], x, h => by simp [bks] at h
  | c :: β, a :: hp, x, h => by
    simp only [bks, List.mem_append, Option.mem_toList] at h
    rcases h with h | h
    · exact ⟨0, c, a, rfl, rfl, h⟩
    · obtain ⟨i, b, h', h1, h2, h3⟩ := bks_of h
      exact ⟨i + 1, b, h', by simpa using h1, by simpa using h2, h3⟩
theorem liesL_get : ∀ {β : List Nat} {hp : List HB} {i : Nat} {h : HB} {b : Nat}, liesL w β0 β hp → hp[i]? = some h → β[i]? = some b → h.lies w β0 b
  | [], hp, i, h, b, _, _, hb => by simp at hb
  | c :: β, [], i, h, b, _, hh, _ => by simp at hh
  | c :: β, a :: hp, 0, h, b, hl, hh, hb => by simp at hh hb; subst hh; subst hb; exact hl.1
  | c :: β, a :: hp, i + 1, h, b, hl, hh, hb => liesL_get hl.2 (by simpa using hh) (by simpa using hb)
theorem bks_inj : ∀ {β : List Nat} {hp : List HB} {i j a b : Nat} {hi hj : HB} {x : Nat}, (bks β hp).Nodup → hp[i]? = some hi → hp[j]? = some hj → β[i]? = some a → β[j]? = some b → hi.blk a = some x → hj.blk b = some x → i = j
  | [], hp, i, j, a, b, hi, hj, x, _, _, _, ha, _, _, _ => by simp at ha
  | c :: β, [], i, j, a, b, hi, hj, x, _, hh, _, _, _, _, _ => by simp at hh
  | c :: β, d :: hp, 0, 0, a, b, hi, hj, x, _, _, _, _, _, _, _ => rfl
  | c :: β, d :: hp, 0, j + 1, a, b, hi, hj, x, nd, h1, h2, h3, h4, h5, h6 => by
    simp only [bks, List.nodup_append] at nd
    simp at h1 h2 h3 h4; subst h1; subst h3
    exact absurd rfl (nd.2.2 x (by simp [h5]) x (bks_mem h2 h4 h6))
  | c :: β, d :: hp, i + 1, 0, a, b, hi, hj, x, nd, h1, h2, h3, h4, h5, h6 => by
    simp only [bks, List.nodup_append] at nd
    simp at h1 h2 h3 h4; subst h2; subst h4
    exact absurd rfl (nd.2.2 x (by simp [h6]) x (bks_mem h1 h3 h5))
  | c :: β, d :: hp, i + 1, j + 1, a, b, hi, hj, x, nd, h1, h2, h3, h4, h5, h6 => by
    simp only [bks, List.nodup_append] at nd
    simp at h1 h2 h3 h4
    rw [bks_inj nd.2.1 h1 h2 h3 h4 h5 h6]
theorem Mem.startN (len : β.length = hp.length) (nd : (bks β hp).Nodup) (lies : liesL w β β hp) : Mem w (bks β hp) β hp w := by
  have get : ∀ k h, hp[k]? = some h → β[k]? = some (nm β k) := fun k h hk => by
    have hl := (List.getElem?_eq_some_iff.1 hk).1
    rw [← len] at hl
    rw [nm, List.getD, List.getElem?_eq_getElem hl]; rfl
  exact Mem.start _ _ _ _ len (fun k h hk => liesL_get lies hk (get k h hk)) (fun k h x hk _ hx => bks_mem hk (get k h hk) hx) (fun i j hi hj x ei ej xi xj => bks_inj nd ei ej (get i hi ei) (get j hj ej) xi xj)
/-- The same, some of them only read. -/
theorem Mem.startW (L : List Nat) (len : β.length = hp.length) (nd : (bks β hp).Nodup) (lies : liesL w β β hp) (own : ∀ x ∈ wrN β hp, x ∈ L) : Mem w L β hp w := by
  have get : ∀ k h, hp[k]? = some h → β[k]? = some (nm β k) := fun k h hk => by
    have hl := (List.getElem?_eq_some_iff.1 hk).1
    rw [← len] at hl
    rw [nm, List.getD, List.getElem?_eq_getElem hl]; rfl
  exact Mem.start _ _ _ _ len (fun k h hk => liesL_get lies hk (get k h hk)) (fun k h x hk hw hx => own x (wrN_mem.2 ⟨k, h, nm β k, hk, get k h hk, hw, hx⟩)) (fun i j hi hj x ei ej xi xj => bks_inj nd ei ej (get i hi ei) (get j hj ej) xi xj)
theorem nodup_bks : ∀ {β : List Nat} {hp : List HB}, (∀ (i j a b : Nat) (hi hj : HB) (x : Nat), hp[i]? = some hi → hp[j]? = some hj → β[i]? = some a → β[j]? = some b → hi.blk a = some x → hj.blk b = some x → i = j) → (bks β hp).Nodup
  | [], hp, _ => by simp [bks]
  | c :: β, [], _ => by simp [bks]
  | c :: β, d :: hp, h => by
    simp only [bks, List.nodup_append]
    refine ⟨?_, nodup_bks fun i j a b hi hj x h1 h2 h3 h4 h5 h6 => Nat.succ.inj (h (i + 1) (j + 1) a b hi hj x (by simpa using h1) (by simpa using h2) (by simpa using h3) (by simpa using h4) h5 h6), fun x hx y hy e => ?_⟩
    · cases d.blk c <;> simp
    · subst e
      obtain ⟨i, b, h', h1, h2, h3⟩ := bks_of hy
      rw [Option.mem_toList] at hx
      have := h 0 (i + 1) c b d h' x rfl (by simpa using h1) rfl (by simpa using h2) hx h3
      cases this
theorem Mem.bks (H : Mem w0 L β hp w) (hro : roOk hp = true) : (bks β hp).Nodup ∧ ∀ x ∈ bks β hp, (x ∈ L ∨ w0.heap.size ≤ x) ∧ x < w.heap.size := by
  refine ⟨nodup_bks fun i j a b hi hj x h1 h2 h3 h4 h5 h6 => H.inj i j hi hj x h1 h2 (by rw [nm_get h3]; exact h5) (by rw [nm_get h4]; exact h6), fun x hx => ?_⟩
  obtain ⟨i, b, h, h1, h2, h3⟩ := bks_of hx
  have h4 : h.blk (nm β i) = some x := by rw [nm_get h2]; exact h3
  have hw : h.wr = true := by
    have h5 := List.all_eq_true.1 hro h (List.mem_of_getElem? h1)
    cases h with
    | no => cases h3
    | _ => exact h5
  exact ⟨H.own i h x h1 hw h4, HB.lies_lt (H.lies i h h1) h4⟩
end
/-- One block that is only read. -/
theorem Mem.rdOne (w : World) (g : Nat) {T : Nat} {cs : List SC} (hg : Blk w g T (dens [g] cs)) : Mem w [] [g] [.b false T cs] w :=
  Mem.start _ _ _ _ rfl (fun k h hk => by
    cases k with
    | zero => simp at hk; subst hk; exact hg
    | succ k => simp at hk) (fun k h x hk hw _ => by
    cases k with
    | zero => simp at hk; subst hk; cases hw
    | succ k => simp at hk) (fun i j hi hj x ei ej _ _ => by
    cases i with
    | succ i => simp at ei
    | zero =>
      cases j with
      | succ j => simp at ej
      | zero => rfl)
section
variable {P : Program} {f : FR} {R : Ending → World → Prop} {n : Nat} {w0 : World} {L : List Nat} {β : List Nat} {m : SM}
variable {κ : Type} [DecidableEq κ] {T kt et : TypeId} {z : Value} {ke : κ → Value}
/-- The block of a map that is only read. -/
def HB.mpr (ke : κ → Value) (r : Nat) (es : List (κ × Value)) : HB := .q false (some ⟨r, 0, none⟩) (fun w => MapM ke w r es) MapM.st
theorem Mem.mapR {w : World} {hp : List HB} (H : Mem w0 L β hp w) (k : Nat) {r : Nat} {es : List (κ × Value)} (hk : hp[k]? = some (HB.mpr ke r es)) : MapM ke w r es :=
  H.atQ k (wr := false) (A := some ⟨r, 0, none⟩) (Q := fun w => MapM ke w r es) (st := MapM.st) hk
theorem Hs.takeGetR (i k : Nat) (ht : KeyT P T kt et z ke) {r : Nat} {es : List (κ × Value)} (key : κ) (ok : Bool) (v : Value) (hv : (if ok then .tuple #[(lookM key es).getD z, .bool (lookM key es).isSome] else (lookM key es).getD z) = v) {rd : List Nat} (hs : semAt i n β m = some (valS (Instr.lookup T (.map (some r)) (ke key) ok), rd)) (hk : m.hp[k]? = some (HB.mpr ke r es)) (hr : rd.contains k = true)
    (h : Hs P f R n w0 L β (takeM i (.c (.v v)) m)) : Hs P f R n w0 L β m :=
  Hs.takeV i (.c (.v v)) hs rfl (fun w hI => by
    have hl := hI k (by simpa using hr) _ hk
    rw [run_lookM ht (r := r) (es := es) hl.1 key ok, hv]; rfl) h
/-- An entry read in a region that draws. -/
theorem Hs.takeGet (i k : Nat) (ht : KeyT P T kt et z ke) {r : Nat} {es : List (κ × Value)} (key : κ) (ok : Bool) (v : Value) (hv : (if ok then .tuple #[(lookM key es).getD z, .bool (lookM key es).isSome] else (lookM key es).getD z) = v) {rd : List Nat} (hs : semAt i n β m = some (valS (Instr.lookup T (.map (some r)) (ke key) ok), rd)) (hk : m.hp[k]? = some (HB.mp ke r es)) (hr : rd.contains k = true)
    (h : Hs P f R n w0 L β (takeM i (.c (.v v)) m)) : Hs P f R n w0 L β m :=
  Hs.takeV i (.c (.v v)) hs rfl (fun w hI => by
    have hl := hI k (by simpa using hr) _ hk
    rw [run_lookM ht (r := r) (es := es) hl.1 key ok, hv]; rfl) h
end
end Go.Proofs.YtmmcamkmglpgiaaGreatDoor

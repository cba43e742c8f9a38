/- The machine: a run up to the end of a region, several ways brought together; over any program; no condition. -/
import Derived.Test.YtmmcamkmglpgiaaGreatDoorEngL
namespace Go.Proofs.YtmmcamkmglpgiaaGreatDoor
set_option linter.all false
set_option maxRecDepth 100000

/-- What is left to be done behind a region. -/
def afterL (id : Nat) : Code → List Item → List (List Item)
  | .seq a b, k => afterL id a (.code b :: k) ++ afterL id b k
  | .cond _ x y, k => afterL id x k ++ afterL id y k
  | .block i c, k => afterL id c (.inBlock i :: k)
  | .scope c, k => afterL id c (.inScope c :: k)
  | .loop c, k => afterL id c (.inLoop c :: k)
  | .region j _ _, k => match Nat.beq j id with
    | true => [k]
    | false => []
  | _, _ => []
def afterR (fn : Func) (id : Nat) : List Item := match afterL id (codeOf fn) [] with
  | k :: _ => k
  | [] => []
def stopAt (N : Nat) (m : SM) : Bool := match m.r with
  | .no => Nat.beq m.todo.length N
  | _ => false
section
variable (P : Program) (n : Nat) (β : List Nat)
def runU (N : Nat) (ge : List Nat) : Nat → SM → SM
  | 0, m => m
  | k + 1, m => match stopAt N m with
    | true => m
    | false => match oneStep P n β ge m with
      | some m' => runU N ge k m'
      | none => m
end
section
variable {P : Program} {f : FR} {R : Ending → World → Prop} {n : Nat} {w0 : World} {L : List Nat} {β : List Nat} {m : SM} {ge : List Nat} {N : Nat}

theorem runU_sound : ∀ (k : Nat) (β : List Nat) (m : SM) (w : World), Mem w0 L β m.hp w → m.wf = true → (∀ ν w', Mem w0 L (β ++ ν) (runU P n (β ++ ν) N ge k m).hp w' → (runU P n (β ++ ν) N ge k m).wf = true → Gs P f R n (β ++ ν) (runU P n (β ++ ν) N ge k m) w') → Gs P f R n β m w
  | 0, β, m, w, H, W, h => by
    have := h [] w
    simp only [List.append_nil] at this
    exact this H W
  | k + 1, β, m, w, H, W, h => by
    cases hst : stopAt N m with
    | true =>
      have := h [] w
      simp only [List.append_nil, runU, hst] at this
      exact this H W
    | false =>
      cases hs : oneStep P n β ge m with
      | none =>
        have := h [] w
        simp only [List.append_nil, runU, hst, hs] at this
        exact this H W
      | some m' =>
        refine oneStep_sound H W hs fun ν w' H' W' => ?_
        refine runU_sound k (β ++ ν) m' w' H' W' fun ν' w'' H'' W'' => ?_
        have e : oneStep P n (β ++ ν ++ ν') ge m = some m' := by
          rw [List.append_assoc, oneStep_app H.len W]; exact hs
        have := h (ν ++ ν') w''
        rw [← List.append_assoc] at this
        simp only [runU, hst, e] at this
        exact this H'' W''
theorem Hs.runUL (N : Nat) (ge : List Nat) (k j : Nat) (hj : ∀ ν, Nat.beq (runU P n (β ++ ν) N ge k m).hp.length (β.length + j) = true) (h : ∀ ν : List Nat, ν.length = j → Hs P f R n w0 L (β ++ ν) (runU P n (β ++ ν) N ge k m)) : Hs P f R n w0 L β m :=
  ⟨fun w H W => runU_sound (N := N) (ge := ge) k β m w H W fun ν w' H' W' => (h ν (by
    have h1 := H'.len
    have h2 := Nat.eq_of_beq_eq_true (hj ν)
    rw [h2, List.length_append] at h1
    omega)).go w' H' W'⟩
theorem Hs.runU0 (N : Nat) (ge : List Nat) (k : Nat) (hj : ∀ ν, Nat.beq (runU P n (β ++ ν) N ge k m).hp.length (β.length + 0) = true) (h : Hs P f R n w0 L β (runU P n β N ge k m)) : Hs P f R n w0 L β m :=
  Hs.runUL N ge k 0 hj fun ν hν => by
    have e := List.length_eq_zero_iff.1 hν
    subst e
    rw [List.append_nil]
    exact h
theorem Hs.runU1 (N : Nat) (ge : List Nat) (k : Nat) (hj : ∀ ν, Nat.beq (runU P n (β ++ ν) N ge k m).hp.length (β.length + 1) = true) (h : ∀ b0 : Nat, Hs P f R n w0 L (β ++ [b0]) (runU P n (β ++ [b0]) N ge k m)) : Hs P f R n w0 L β m :=
  Hs.runUL N ge k 1 hj fun ν hν => by
    match ν, hν with
    | [b0], _ => exact h b0
theorem Hs.runU2 (N : Nat) (ge : List Nat) (k : Nat) (hj : ∀ ν, Nat.beq (runU P n (β ++ ν) N ge k m).hp.length (β.length + 2) = true) (h : ∀ b0 b1 : Nat, Hs P f R n w0 L (β ++ [b0, b1]) (runU P n (β ++ [b0, b1]) N ge k m)) : Hs P f R n w0 L β m :=
  Hs.runUL N ge k 2 hj fun ν hν => by
    match ν, hν with
    | [b0, b1], _ => exact h b0 b1
theorem Hs.runU3 (N : Nat) (ge : List Nat) (k : Nat) (hj : ∀ ν, Nat.beq (runU P n (β ++ ν) N ge k m).hp.length (β.length + 3) = true) (h : ∀ b0 b1 b2 : Nat, Hs P f R n w0 L (β ++ [b0, b1, b2]) (runU P n (β ++ [b0, b1, b2]) N ge k m)) : Hs P f R n w0 L β m :=
  Hs.runUL N ge k 3 hj fun ν hν => by
    match ν, hν with
    | [b0, b1, b2], _ => exact h b0 b1 b2
end
/-! Up to a region. -/
def atL (id : Nat) : Code → List Item → List (List Item)
  | .seq a b, k => atL id a (.code b :: k) ++ atL id b k
  | .cond _ x y, k => atL id x k ++ atL id y k
  | .block i c, k => atL id c (.inBlock i :: k)
  | .scope c, k => atL id c (.inScope c :: k)
  | .loop c, k => atL id c (.inLoop c :: k)
  | .region j ops d, k => match Nat.beq j id with
    | true => [.code (.region j ops d) :: k]
    | false => []
  | _, _ => []
def atR (fn : Func) (id : Nat) : List Item := match atL id (codeOf fn) [] with
  | k :: _ => k
  | [] => []
def stopR (id : Nat) (m : SM) : Bool := match m.r with
  | .no => match m.todo with
    | .code (.region j _ _) :: _ => Nat.beq j id
    | _ => false
  | _ => false
section
variable (P : Program) (n : Nat) (β : List Nat)
def runR (N : Nat) (ge : List Nat) : Nat → SM → SM
  | 0, m => m
  | k + 1, m => match stopR N m with
    | true => m
    | false => match oneStep P n β ge m with
      | some m' => runR N ge k m'
      | none => m
end
section
variable {P : Program} {f : FR} {R : Ending → World → Prop} {n : Nat} {w0 : World} {L : List Nat} {β : List Nat} {m : SM} {ge : List Nat} {N : Nat}

theorem runR_sound : ∀ (k : Nat) (β : List Nat) (m : SM) (w : World), Mem w0 L β m.hp w → m.wf = true → (∀ ν w', Mem w0 L (β ++ ν) (runR P n (β ++ ν) N ge k m).hp w' → (runR P n (β ++ ν) N ge k m).wf = true → Gs P f R n (β ++ ν) (runR P n (β ++ ν) N ge k m) w') → Gs P f R n β m w
  | 0, β, m, w, H, W, h => by
    have := h [] w
    simp only [List.append_nil] at this
    exact this H W
  | k + 1, β, m, w, H, W, h => by
    cases hst : stopR N m with
    | true =>
      have := h [] w
      simp only [List.append_nil, runR, hst] at this
      exact this H W
    | false =>
      cases hs : oneStep P n β ge m with
      | none =>
        have := h [] w
        simp only [List.append_nil, runR, hst, hs] at this
        exact this H W
      | some m' =>
        refine oneStep_sound H W hs fun ν w' H' W' => ?_
        refine runR_sound k (β ++ ν) m' w' H' W' fun ν' w'' H'' W'' => ?_
        have e : oneStep P n (β ++ ν ++ ν') ge m = some m' := by
          rw [List.append_assoc, oneStep_app H.len W]; exact hs
        have := h (ν ++ ν') w''
        rw [← List.append_assoc] at this
        simp only [runR, hst, e] at this
        exact this H'' W''
theorem Hs.runRL (N : Nat) (ge : List Nat) (k j : Nat) (hj : ∀ ν, Nat.beq (runR P n (β ++ ν) N ge k m).hp.length (β.length + j) = true) (h : ∀ ν : List Nat, ν.length = j → Hs P f R n w0 L (β ++ ν) (runR P n (β ++ ν) N ge k m)) : Hs P f R n w0 L β m :=
  ⟨fun w H W => runR_sound (N := N) (ge := ge) k β m w H W fun ν w' H' W' => (h ν (by
    have h1 := H'.len
    have h2 := Nat.eq_of_beq_eq_true (hj ν)
    rw [h2, List.length_append] at h1
    omega)).go w' H' W'⟩
theorem Hs.runR0 (N : Nat) (ge : List Nat) (k : Nat) (hj : ∀ ν, Nat.beq (runR P n (β ++ ν) N ge k m).hp.length (β.length + 0) = true) (h : Hs P f R n w0 L β (runR P n β N ge k m)) : Hs P f R n w0 L β m :=
  Hs.runRL N ge k 0 hj fun ν hν => by
    have e := List.length_eq_zero_iff.1 hν
    subst e
    rw [List.append_nil]
    exact h
theorem Hs.runR1 (N : Nat) (ge : List Nat) (k : Nat) (hj : ∀ ν, Nat.beq (runR P n (β ++ ν) N ge k m).hp.length (β.length + 1) = true) (h : ∀ b0 : Nat, Hs P f R n w0 L (β ++ [b0]) (runR P n (β ++ [b0]) N ge k m)) : Hs P f R n w0 L β m :=
  Hs.runRL N ge k 1 hj fun ν hν => by
    match ν, hν with
    | [b0], _ => exact h b0
theorem Hs.runR2 (N : Nat) (ge : List Nat) (k : Nat) (hj : ∀ ν, Nat.beq (runR P n (β ++ ν) N ge k m).hp.length (β.length + 2) = true) (h : ∀ b0 b1 : Nat, Hs P f R n w0 L (β ++ [b0, b1]) (runR P n (β ++ [b0, b1]) N ge k m)) : Hs P f R n w0 L β m :=
  Hs.runRL N ge k 2 hj fun ν hν => by
    match ν, hν with
    | [b0, b1], _ => exact h b0 b1
theorem Hs.runR3 (N : Nat) (ge : List Nat) (k : Nat) (hj : ∀ ν, Nat.beq (runR P n (β ++ ν) N ge k m).hp.length (β.length + 3) = true) (h : ∀ b0 b1 b2 : Nat, Hs P f R n w0 L (β ++ [b0, b1, b2]) (runR P n (β ++ [b0, b1, b2]) N ge k m)) : Hs P f R n w0 L β m :=
  Hs.runRL N ge k 3 hj fun ν hν => by
    match ν, hν with
    | [b0, b1, b2], _ => exact h b0 b1 b2
/-- Several ways come to one state. -/
theorem Hs.cut {ι : Type} (S : ι → List Nat × SM) (h : (∀ i, Hs P f R n w0 L (S i).1 (S i).2) → Hs P f R n w0 L β m) (k : ∀ i, Hs P f R n w0 L (S i).1 (S i).2) : Hs P f R n w0 L β m := h k
section
variable {α : Type} {cf : α → List Value} {tS E size bytes : Nat}
theorem Hs.takeIdx (j : Nat) (ht : ElemT P tS E size bytes) {rd : List Nat} {b off len c i : Nat} (hi : i < len) (hs : semAt j n β m = some (valS (Instr.indexAt tS (.slice (some ⟨b, off, none⟩) len c) (.int .i64 i)), rd)) (h : Hs P f R n w0 L β (takeM j (.c (.v (.pointer (some ⟨b, off + i * size, none⟩)))) m)) : Hs P f R n w0 L β m :=
  Hs.takeV j (.c (.v (.pointer (some ⟨b, off + i * size, none⟩)))) hs rfl (fun w _ => run_idx ht hi w) h
theorem own_rd {w : World} {A : Option Addr} {cap nl : Nat} {l : List α} (hl : l.length = nl) (h : w.ownsRow 0 E size (.slice A nl cap) nl (l.flatMap cf)) : RdX cf w A l := by
  subst hl
  obtain ⟨A', cap', e, _, _, hr, _⟩ := (show OwnX cf E size w 0 (.slice A l.length cap) l from h).form
  injection e with e1
  subst e1
  exact hr
/-- An element of a row of ours, in a region that draws. -/
theorem Hs.takeLdS (j k : Nat) (hcl : ∀ x, (cf x).length = size) {E' : Nat} {rd : List Nat} {g i cap nl : Nat} {l : List α} {x : α} (v : SV) (hs : semAt j n β m = some (valS (Instr.loadAt E' (.pointer (some ⟨g, 0 + i * size, none⟩))), rd)) (hk : m.hp[k]? = some (.s (some ⟨g, 0, none⟩) cap nl E size (l.flatMap cf))) (hkr : rd.contains k = true) (hl : l.length = nl) (hx : l[i]? = some x) (ha : aggB P E' = some true) (hz : szB P E' = some size) (hv : v.den β = .agg (cf x).toArray) (hw : v.wf m.hp.length = true)
    (h : Hs P f R n w0 L β (takeM j v m)) : Hs P f R n w0 L β m :=
  Hs.takeV j v hs hw (fun w hI => by
    obtain ⟨d, hu, hd⟩ := aggB_row ha
    have hr : RdX cf w (some ⟨g, 0, none⟩) l := own_rd hl (hI k (by simpa using hkr) _ hk)
    rw [hv]
    exact run_loadAt_mid w g _ E' (cf x) d (rdX_range hcl hr hx) hu hd (by rw [szB_size hz, hcl])) h
end
end
end Go.Proofs.YtmmcamkmglpgiaaGreatDoor

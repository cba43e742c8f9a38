/- The machine: regions that draw, several ways in them brought together; over any program; no condition. -/
import Derived.Test.YtmmcamkmglpgiaaGreatDoorEngO
namespace Go.Proofs.YtmmcamkmglpgiaaGreatDoor
set_option linter.all false
set_option maxRecDepth 100000

def opsL (id : Nat) : Code → List (Array Oper)
  | .seq a b => opsL id a ++ opsL id b
  | .cond _ x y => opsL id x ++ opsL id y
  | .block _ c => opsL id c
  | .scope c => opsL id c
  | .loop c => opsL id c
  | .region j ops _ => match Nat.beq j id with
    | true => [ops]
    | false => []
  | _ => []
def opsOf (fn : Func) (id : Nat) : Array Oper := match opsL id (codeOf fn) with
  | o :: _ => o
  | [] => #[]
def anyAt (m : SM) : Option (Array Oper × Nat × Nat × List Nat × List Item) := match m.r with
  | .any ops f lm rd => match m.sl.ds with
    | [] => some (ops, f, lm, rd, m.todo)
    | _ => none
  | _ => none
section
variable {P : Program} {f : FR} {R : Ending → World → Prop} {n : Nat} {w0 : World} {L : List Nat} {β : List Nat} {m : SM}
theorem rdE_sub {ops : Array Oper} {lm : Nat} {rd : List Nat} {k : Nat} (h : k ∈ rdE ops lm rd) : k ∈ rdsOf rd := by
  unfold rdE at h
  split at h
  · cases h
  · exact h
/-- To a point within a region that draws. -/
theorem Hs.gotoA {ops : Array Oper} {fuel lm : Nat} {rd : List Nat} (T : List Item) (ks : List Nat) (hp' : List HB) (ps : List (Nat × SV)) (hT : anyAt m = some (ops, fuel, lm, rd, T)) (hn : ks.Nodup) (he : hp'.map (HB.val (ks.map (nm β))) = ks.map (hpAt β m.hp))
    (hs : ps.map (fun p => p.2.den (ks.map (nm β))) = ps.map (fun p => (m.sl.at p.1).den β)) (hw : ∀ u, (SM.wf ⟨.any ops fuel lm rd, T, pins ps (.vals u), hp'⟩) = true) (hk : ((rdsOf rd).all fun k => match ks[k]? with | some j => Nat.beq j k | none => false) = true) (h : ∀ u, Hs P f R n w0 L (ks.map (nm β)) ⟨.any ops fuel lm rd, T, pins ps (.vals u), hp'⟩) : Hs P f R n w0 L β m := by
  refine ⟨fun w H W => ?_⟩
  have g := (h fun i => (m.sl.at i).den β).go w (H.sub ks hn he) (hw _)
  obtain ⟨r, todo, sl, hp⟩ := m
  unfold anyAt at hT
  dsimp only at hT
  split at hT
  · rename_i ops0 f0 lm0 rd0
    split at hT
    rotate_left
    · cases hT
    rename_i hds
    injection hT with hT
    simp only [Prod.mk.injEq] at hT
    obtain ⟨rfl, rfl, rfl, rfl, rfl⟩ := hT
    have e : fr n (ks.map (nm β)) (pins ps (.vals fun i => (sl.at i).den β)) = fr n β sl := by
      unfold fr
      rw [pins_ds, hds]
      show Act.mk _ _ = Act.mk _ _
      congr 2
      refine List.map_congr_left fun i _ => ?_
      rw [pins_at]
      split
      · rename_i p hp
        have h1 := List.mem_of_find?_eq_some hp
        have h2 := List.find?_some hp
        simp only [decide_eq_true_eq] at h2
        have h3 := List.map_inj_left.1 hs p h1
        rw [h2]
        exact h3
      · rfl
    intro hcl hlm hns
    have g2 := g hcl hlm hns
    dsimp only at g2
    rw [e] at g2
    refine wpAnyE_turn (fun w2 hI k hkr b hb => ?_) g2
    have hkk := List.all_eq_true.1 hk k (rdE_sub hkr)
    split at hkk
    · rename_i j hj
      have hjk : j = k := Nat.eq_of_beq_eq_true hkk
      subst hjk
      have hlen : hp'.length = ks.length := by simpa using congrArg List.length he
      have hkl := (List.getElem?_eq_some_iff.1 hj).1
      have h1 := congrArg (·[j]?) he
      have hkp : j < hp'.length := by omega
      simp only [List.getElem?_map, List.getElem?_eq_getElem hkp, hj, Option.map_some, Option.some.injEq, hpAt, hb] at h1
      have h2 := hI j hkr _ (List.getElem?_eq_getElem hkp)
      have h3 : nm (ks.map (nm β)) j = nm β j := by
        simp [nm, List.getD, hj]
      rw [h3] at h2
      exact (HB.val_lies h1).1 h2
    · cases hkk
  · cases hT
theorem Hs.branch3 (i j k : Nat) (hc : rdyOf m = some [i, j, k]) (h1 : Hs P f R n w0 L β (selM i m)) (h2 : Hs P f R n w0 L β (selM j m)) (h3 : Hs P f R n w0 L β (selM k m)) : Hs P f R n w0 L β m :=
  Hs.branch _ hc (by simp) fun q hq => by
    simp at hq
    rcases hq with rfl | rfl | rfl
    · exact h1
    · exact h2
    · exact h3
theorem Hs.branch4 (i j k l : Nat) (hc : rdyOf m = some [i, j, k, l]) (h1 : Hs P f R n w0 L β (selM i m)) (h2 : Hs P f R n w0 L β (selM j m)) (h3 : Hs P f R n w0 L β (selM k m)) (h4 : Hs P f R n w0 L β (selM l m)) : Hs P f R n w0 L β m :=
  Hs.branch _ hc (by simp) fun q hq => by
    simp at hq
    rcases hq with rfl | rfl | rfl | rfl
    · exact h1
    · exact h2
    · exact h3
    · exact h4
end
end Go.Proofs.YtmmcamkmglpgiaaGreatDoor

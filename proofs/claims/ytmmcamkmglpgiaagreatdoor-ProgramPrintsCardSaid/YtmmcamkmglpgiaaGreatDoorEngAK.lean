/- The machine: in a drawn region, operations under guards that are met, taken wherever they come; over any program; no condition. -/
import Derived.Test.YtmmcamkmglpgiaaGreatDoorEngN
namespace Go.Proofs.YtmmcamkmglpgiaaGreatDoor
set_option linter.all false
set_option maxRecDepth 100000
open Go.RowKit

/-- The operation i, which stands under a guard that is met. -/
def semAtG (ge : List Nat) (i : Nat) (n : Nat) (β : List Nat) (m : SM) : Option (Sem Next × List Nat) := match m.r with
  | .any ops (_ + 1) lm rd => match ops[i]? with
    | some o => match gTake n ge ops m.sl o with
      | some true => match (rdyL lm ops.toList 0).contains i && (freeL ops lm i o ops.toList 0 && reachB ops lm rd i) with
        | true => some (execOp (fun x => (evS n m.sl x).den β) o, rdE ops lm rd)
        | false => none
      | _ => none
    | none => none
  | _ => none
section
variable {P : Program} {f : FR} {R : Ending → World → Prop} {n : Nat} {w0 : World} {L : List Nat} {β : List Nat} {m : SM}
theorem Hs.takeVG (ge : List Nat) (i : Nat) {s : Sem Value} {rd : List Nat} (v : SV) (hs : semAtG ge i n β m = some (valS s, rd)) (hv : v.wf m.hp.length = true) (h : ∀ w, IR β m.hp rd w → s.run P w = .ok (v.den β) w) (k : Hs P f R n w0 L β (takeM i v m)) : Hs P f R n w0 L β m := by
  refine ⟨fun w H W => ?_⟩
  have hI : ∀ rd, IR β m.hp rd w := fun _ k _ h hh => H.lies k h hh
  obtain ⟨r, todo, sl, hp⟩ := m
  unfold semAtG at hs
  dsimp only at hs
  split at hs
  · rename_i ops fuel lm rd'
    split at hs
    · rename_i o ho
      split at hs
      · rename_i hg
        split at hs
        · rename_i hcond
          injection hs with hs
          injection hs with hs1 hs2
          subst hs2
          simp only [Bool.and_eq_true] at hcond
          obtain ⟨hmem, hfree, hrb⟩ := hcond
          intro hcl hlm hns
          have hil : i < ops.size := (Array.getElem?_eq_some_iff.1 ho).1
          have hready : i ∈ Region.ready .any ops (listedOf ops.size lm) := by rw [rdy_spec hlm]; simpa using hmem
          have hcl' : Closed .any ops (listedOf ops.size (setBit lm i)) := by rw [← listed_set hil]; exact hcl.set hready
          have g := k.go w H (by
            simp only [SM.wf, takeM, Bool.and_eq_true]
            exact ⟨putS_wf (SM.wf_sl W) hv, SM.wf_hp W⟩)
          have g2 := g hcl' (hlm.set hil) hns
          simp only [takeM, ho, Option.bind_some] at g2
          have hap : ∀ j oj, ops[j]? = some oj → j ≠ i → (listedOf ops.size lm).getD j true = false → (∀ e ∈ oj.after, Region.binds .any e = true → e.on ≠ i) → o.apart ops oj = true := fun j oj hj hne hun hno => by
            refine freeL_spec ops.toList 0 hfree j oj (by simpa using hj) ?_ (by simpa using hne) hno
            rw [Nat.zero_add]; exact (listed_false.1 hun).2
          have g3 : wpAnyE P .any ops (QQ P f R todo) (IR β hp (rdsOf rd')) (esOf rd') fuel ((listedOf ops.size lm).setIfInBounds i true) ((fr n β sl).put o.dst (v.den β)) w := by
            rw [listed_set hil, fr_put]; exact g2
          have hyld : ∀ w', IR β hp (rdE ops lm rd') w' → YieldsAt P ops w' o (v.den β) (fr n β sl) := fun w' hI' => .inl ⟨gTake_spec hg, .inl (by
            rw [fr_eval, hs1]; simp only [valS, Sem.run_bind, h w' hI', Result.andThen_ok, Sem.run_pure])⟩
          unfold rdE at hyld
          cases hb : hitB ops lm rd' with
          | true =>
            rw [hb] at hyld
            refine wpAnyE_hit _ _ _ _ (not_noE hb) ?_
            exact takeE (v := v.den β) ho (Region.noSelect_spec hns) (fun c a w hp => by cases hp.1) 0 (fun e he => by cases he) fuel _ _ w hcl (fun e he => by cases he) trivial hap hready (fun w' _ => hyld w' (fun k hk => by cases hk)) (wpAnyE_true _ _ _ _ g3)
          | false =>
            rw [hb] at hyld
            unfold reachB at hrb
            rw [hb, Bool.false_or] at hrb
            exact takeE (v := v.den β) ho (Region.noSelect_spec hns) (fun c a w hp => by cases hp.1) ops.size (fun e he => List.all_eq_true.1 hrb e he) fuel _ _ w hcl (noE_of hb) (hI _) hap hready (fun w' hI' => hyld w' hI') g3
        · cases hs
      · cases hs
    · cases hs
  · cases hs
variable {tS E size bytes : Nat}
theorem Hs.takeIdxG (ge : List Nat) (j : Nat) (ht : ElemT P tS E size bytes) {rd : List Nat} {b off len c i : Nat} (hi : i < len) (hs : semAtG ge j n β m = some (valS (Instr.indexAt tS (.slice (some ⟨b, off, none⟩) len c) (.int .i64 i)), rd)) (h : Hs P f R n w0 L β (takeM j (.c (.v (.pointer (some ⟨b, off + i * size, none⟩)))) m)) : Hs P f R n w0 L β m :=
  Hs.takeVG ge j (.c (.v (.pointer (some ⟨b, off + i * size, none⟩)))) hs rfl (fun w _ => run_idx ht hi w) h
end
end Go.Proofs.YtmmcamkmglpgiaaGreatDoor

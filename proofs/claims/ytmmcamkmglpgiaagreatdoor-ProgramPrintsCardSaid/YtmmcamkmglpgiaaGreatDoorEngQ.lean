/- The machine: an operation of two numbers taken by hand, a shift; over any program; no condition. -/
import Derived.Test.YtmmcamkmglpgiaaGreatDoorEngP
import Derived.Test.YtmmcamkmglpgiaaGreatDoorEngG
namespace Go.Proofs.YtmmcamkmglpgiaaGreatDoor
set_option linter.all false
set_option maxRecDepth 100000

section
variable {P : Program} {f : FR} {R : Ending → World → Prop} {n : Nat} {w0 : World} {L : List Nat} {β : List Nat} {m : SM}
theorem eqGuard_int {op : BinOp} {T : TypeId} {x y : Operand} {k k' : IntKind} {a b : Int} (w : World) : (eqGuard op T x y (.int k a) (.int k' b)).run P w = .ok () w := by
  cases op <;> rfl
/-- An operation of two numbers. -/
theorem Hs.bin {op : BinOp} {T : TypeId} {k k' : IntKind} {a b : Int} (v : Value) (hc : sameOf n β m = some (op, T, .int k a, .int k' b)) (hr : ∀ w, (binOp op T (.int k a) (.int k' b)).run P w = .ok v w) (h : Hs P f R n w0 L β (m.put (dstOf m) (.c (.v v)) m.hp)) : Hs P f R n w0 L β m := by
  refine ⟨fun w H W => ?_⟩
  unfold sameOf at hc
  split at hc
  · rename_i o hcur
    split at hc
    · rename_i hg
      split at hc
      · rename_i op' T' x y z hop
        simp only [Option.some.injEq, Prod.mk.injEq] at hc
        obtain ⟨rfl, rfl, hx, hy⟩ := hc
        have hd : dstOf m = o.dst := by unfold dstOf; rw [hcur]
        rw [hd] at h
        refine Gs.val (v := .c (.v v)) hcur hg ?_ (h.go w H ?_)
        · have hr := hr w
          simp only [execOp, hop, hx, hy, Sem.run_bind, eqGuard_int w, Result.andThen_ok, hr, Sem.run_pure]
          rfl
        · simp only [SM.wf, SM.put, Bool.and_eq_true]
          exact ⟨putS_wf (SM.wf_sl W) rfl, SM.wf_hp W⟩
      · cases hc
    · cases hc
  · cases hc
/-- A shift to the left, by no number below 0. -/
theorem run_shl {T : TypeId} {k yk : IntKind} {a b : Int} (hb : 0 ≤ b) (w : World) : (binOp .shl T (.int k a) (.int yk b)).run P w = .ok (.int k (k.wrap (a * 2 ^ (min b.toNat k.bits)))) w := by
  show (Op.shift .shl k a yk b).run P w = _
  unfold Op.shift
  rw [if_neg (by omega)]
  rfl
/-- An operation that does not ask the memory, worked out as it stands. -/
def pureV (P : Program) (n : Nat) (β : List Nat) (m : SM) : Option Value := match semOf n β m with
  | some s => match pureOut P s with
    | some (.value v) => some v
    | _ => none
  | none => none
theorem Hs.pure (v : SV) (hs : pureV P n β m = some (v.den β)) (hv : v.wf m.hp.length = true) (k : Hs P f R n w0 L β (m.put (dstOf m) v m.hp)) : Hs P f R n w0 L β m := by
  unfold pureV at hs
  split at hs
  · rename_i s hm
    split at hs
    · rename_i x hx
      injection hs with hs
      subst hs
      exact Hs.opN v hm hv (fun w _ => pureOut_run P _ _ hx w) k
    · cases hs
  · cases hs
end
end Go.Proofs.YtmmcamkmglpgiaaGreatDoor

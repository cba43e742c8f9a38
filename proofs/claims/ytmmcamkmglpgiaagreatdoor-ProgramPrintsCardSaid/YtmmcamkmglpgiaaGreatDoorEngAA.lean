/- The machine: two pointers into one block compared; over any program; no condition. -/
import Derived.Test.YtmmcamkmglpgiaaGreatDoorEngZ
namespace Go.Proofs.YtmmcamkmglpgiaaGreatDoor
set_option linter.all false
set_option maxRecDepth 100000

section
variable {P : Program} {f : FR} {R : Ending → World → Prop} {n : Nat} {w0 : World} {L : List Nat} {β : List Nat} {m : SM}
theorem eqGuard_ptr {op : BinOp} {T : TypeId} {x y : Operand} {p q : Option Addr} (w : World) : (eqGuard op T x y (.pointer p) (.pointer q)).run P w = .ok () w := by
  cases op <;> rfl
/-- An operation of two pointers. -/
theorem Hs.binP {op : BinOp} {T : TypeId} {p q : Option Addr} (v : Value) (hc : sameOf n β m = some (op, T, .pointer p, .pointer q)) (hr : ∀ w, (binOp op T (.pointer p) (.pointer q)).run P w = .ok v w) (h : Hs P f R n w0 L β (m.put (dstOf m) (.c (.v v)) m.hp)) : Hs P f R n w0 L β m := by
  refine ⟨fun w H W => ?_⟩
  unfold sameOf at hc
  split at hc
  · rename_i o hcur
    split at hc
    · rename_i hg
      split at hc
      · rename_i op' T' x y z hop
        simp only [Option.some.injEq, Prod.mk.injEq] at hc
        obtain ⟨rfl, rfl, hx, hy⟩ := hc
        have hd : dstOf m = o.dst := by unfold dstOf; rw [hcur]
        rw [hd] at h
        refine Gs.val (v := .c (.v v)) hcur hg ?_ (h.go w H ?_)
        · have hr := hr w
          simp only [execOp, hop, hx, hy, Sem.run_bind, eqGuard_ptr w, Result.andThen_ok, hr, Sem.run_pure]
          rfl
        · simp only [SM.wf, SM.put, Bool.and_eq_true]
          exact ⟨putS_wf (SM.wf_sl W) rfl, SM.wf_hp W⟩
      · cases hc
    · cases hc
  · cases hc
theorem run_eqp0 {T E k : TypeId} (hu : P.underlying T = some (.pointer E)) (hz : szB P E = some k) (hk : k ≠ 0) (g a b d : Nat) (w : World) : (Op.equalIn (d + 1) T (.pointer (some ⟨g, a, none⟩)) (.pointer (some ⟨g, b, none⟩))).run P w = .ok ((⟨g, a, none⟩ : Addr) == ⟨g, b, none⟩) w := by
  simp [Op.equalIn, run_underlying hu, run_sizeB hz w, hk, sameAddr]
theorem run_eqp {T E k : TypeId} (hu : P.underlying T = some (.pointer E)) (hz : szB P E = some k) (hk : k ≠ 0) (g a b : Nat) (w : World) : (binOp .eql T (.pointer (some ⟨g, a, none⟩)) (.pointer (some ⟨g, b, none⟩))).run P w = .ok (.bool ((⟨g, a, none⟩ : Addr) == ⟨g, b, none⟩)) w := by
  have h : (Op.equal T (.pointer (some ⟨g, a, none⟩)) (.pointer (some ⟨g, b, none⟩))).run P w = .ok ((⟨g, a, none⟩ : Addr) == ⟨g, b, none⟩) w := run_eqp0 hu hz hk g a b 9999 w
  simp only [binOp]
  simp [h]
theorem addr_eq (g a : Nat) : ((⟨g, a, none⟩ : Addr) == ⟨g, a, none⟩) = true := by simp
theorem addr_ne (g : Nat) {a b : Nat} (h : a ≠ b) : ((⟨g, a, none⟩ : Addr) == ⟨g, b, none⟩) = false := by simp [h]
end
end Go.Proofs.YtmmcamkmglpgiaaGreatDoor

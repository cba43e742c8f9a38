/- The machine: a literal without elements is a row of ours; over any program; no condition. -/
import Derived.Test.YtnfcdbjckdhieaaGreatPkD
namespace Go.Proofs.YtnfcdbjckdhieaaGreat
set_option linter.all false

section
variable {P : Program} {f : FuncId} {R : Ending → World → Prop} {n : Nat} {w0 : World} {L : List Nat} {β : List Nat} {m : SM}
theorem Hs.emptyS (k : Nat) {E : TypeId} (size : Nat) {g : Nat} (hg : nm β k = g) (hk : m.hp[k]? = some (.b true E [])) (hrd : (match m.r with | .no => true | .lst .. => true | .lstN .. => true | _ => false) = true) (h : Hs P f R n w0 L β ⟨m.r, m.todo, m.sl, m.hp.set k (.s (some ⟨g, 0, none⟩) 0 0 E size [])⟩) : Hs P f R n w0 L β m := by
  refine ⟨fun w H W => ?_⟩
  have hB : Blk w (nm β k) E [] := by
    have := H.lies k _ hk
    simpa [HB.lies, dens] using this
  have key : w.ownsRow 0 E size (.slice (some ⟨nm β k, 0, none⟩) 0 0) 0 [] := ⟨by simp, .inr ⟨nm β k, 0, #[], rfl, Nat.zero_le _, hB, Nat.le_refl _, by decide, by simp, by simp⟩⟩
  subst hg
  have H' : Mem w0 L β (m.hp.set k (.s (some ⟨nm β k, 0, none⟩) 0 0 E size [])) w := H.swap k hk (Only.refl [] w) (by simp) rfl key (fun x hx => .inl hx)
  have g2 := h.go w H' (by
    simp only [SM.wf, Bool.and_eq_true] at W ⊢
    rw [List.length_set]
    refine ⟨W.1, List.all_eq_true.2 fun y hy => ?_⟩
    rcases List.mem_or_eq_of_mem_set hy with hy | rfl
    · exact List.all_eq_true.1 W.2 y hy
    · rfl)
  obtain ⟨r, todo, sl, hp⟩ := m
  cases r with
  | no => exact g2
  | lst => exact g2
  | lstN => exact g2
  | _ => cases hrd
end
end Go.Proofs.YtnfcdbjckdhieaaGreat

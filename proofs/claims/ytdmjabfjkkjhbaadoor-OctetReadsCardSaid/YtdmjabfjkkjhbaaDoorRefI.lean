/- The document's answer for layer 1: the same fields are told so; no condition. -/
import Derived.Test.YtdmjabfjkkjhbaaDoorQuiet
import Derived.Test.YtdmjabfjkkjhbaaDoorOctS
namespace Go.Proofs.YtdmjabfjkkjhbaaDoor
set_option linter.all false
open Go.RowKit

theorem RdF.drew {w w' : World} {A : Option Addr} {fs : List FD} (h : RdF w A fs) (hb : Drew w w') : RdF w' A fs := h.only hb.only

set_option maxRecDepth 100000 in
set_option maxHeartbeats 3200000 in
theorem same_true (A B : Option Addr) (fs gs : List FD) (c d : Nat) (w : World) (hA : RdF w A fs) (hB : RdF w B gs) (hl : fs.length ≤ maxLen) (hp : fs.map FD.pf = gs.map FD.pf) :
    Calls Tryd.prog 14 #[.slice A fs.length c, .slice B gs.length d] w fun e w' => e = .returned (.bool true) ∧ Drew w w' := by
  unfold maxLen at hl
  have hlen : fs.length = gs.length := by have := congrArg List.length hp; simpa using this
  rw [← hlen]
  obtain ⟨n, hn⟩ : ∃ n, n = fs.length := ⟨_, rfl⟩
  rw [← hn] at hl ⊢
  replace hn := hide hn
  replace hlen := hide hlen
  replace hp := hide hp
  go_enter Tryd.func14, Tryd.ntmps14
  go_wp2
  go_loopw [13] (fun i wr => ∃ k : Nat, k ≤ n ∧ i = .int .i64 k ∧ Drew w wr) (fun i _ => n - (intOf i).toNat)
  case atStart => exact ⟨0, by omega, rfl, Drew.refl _⟩
  case round =>
    obtain ⟨wo, rfl⟩ : ∃ wo : World, wo = wr := ⟨_, rfl⟩
    obtain ⟨k, hk, rfl, O⟩ := hrel
    by_cases hlt : k < n
    · obtain ⟨f, hf⟩ : ∃ f, fs[k]? = some f := ⟨_, List.getElem?_eq_getElem (by have := hn.out; omega)⟩
      obtain ⟨g, hg⟩ : ∃ g, gs[k]? = some g := ⟨_, List.getElem?_eq_getElem (by have := hn.out; have := hlen.out; omega)⟩
      have hpf : f.pf = g.pf := by
        have := congrArg (fun z : List PF => z[k]?) hp.out
        simp [hf, hg] at this
        exact this
      obtain ⟨b, off, rfl, hb, hc⟩ := (hA.drew O).cells (by have := hn.out; omega)
      obtain ⟨b', off', rfl, hb', hc'⟩ := (hB.drew O).cells (by have := hn.out; have := hlen.out; omega)
      obtain ⟨c0, c1, c2, c3⟩ := hc k f hf
      obtain ⟨d0, d1, d2, d3⟩ := hc' k g hg
      have okf := ((hA.drew O).ok f (List.mem_of_getElem? hf)).1
      have okg := ((hB.drew O).ok g (List.mem_of_getElem? hg)).1
      obtain ⟨kd, nn, tA, tc, tx, lA, lc, ls⟩ := f
      obtain ⟨kd', nn', tA', tc', tx', lA', lc', ls'⟩ := g
      simp only [FD.pf, PF.mk.injEq] at hpf
      obtain ⟨rfl, rfl, rfl, rfl⟩ := hpf
      dsimp only at c0 c1 c2 c3 d0 d1 d2 d3
      have t1 := okf.tle
      have t2 := okf.tmax
      have t3 := okf.lle
      have t4 := okf.lmax
      dsimp only at t1 t2 t3 t4
      unfold maxLen at t2 t4
      have hX : ∀ q, Calls Tryd.prog 15 #[.slice tA tx.length tc, .slice tA' tx.length tc'] (wo.drewN q) fun e w'' => e = .returned (.bool true) ∧ ∃ r, w'' = (wo.drewN q).drewN r := fun q => by
        have P := (Only.refl [] wo).drewN q
        have := bytes_q (wo.drewN q) tA tA' tx tx tc tc' (RdG.only (mk := .int .u8) okf.text P) (RdG.only (mk := .int .u8) okg.text P) (by unfold maxLen; omega) (by unfold maxLen; omega)
        rw [show eqB tx tx = true by simp [eqB]] at this
        exact this
      have hY : ∀ q, Calls Tryd.prog 33 #[.slice lA ls.length lc, .slice lA' ls.length lc'] (wo.drewN q) fun e w'' => e = .returned (.bool true) ∧ ∃ r, w'' = (wo.drewN q).drewN r := fun q => by
        have P := (Only.refl [] wo).drewN q
        have := strings_q (wo.drewN q) lA lA' ls ls lc lc' (RdG.only (mk := .string) okf.list P) (RdG.only (mk := .string) okg.list P) (by unfold maxLen; omega) (by unfold maxLen; omega)
        rw [show eqS ls ls = true by simp [eqS]] at this
        exact this
      obtain ⟨La, hLa⟩ : ∃ La, tx.length = La := ⟨_, rfl⟩
      obtain ⟨Lb, hLb⟩ : ∃ Lb, ls.length = Lb := ⟨_, rfl⟩
      rw [hLa] at hX c2 d2
      rw [hLb] at hY c3 d3
      replace hX := hide hX
      replace hY := hide hY
      replace hLa := hide hLa
      replace hLb := hide hLb
      replace hf := hide hf
      replace hg := hide hg
      have i0 : (k : Int) < (n : Int) := by omega
      have i1 : (0 : Int) ≤ (k : Int) := by omega
      clear hc hc' okf okg t1 t2 t3 t4
      go_wp2
      go_quiet (first | (go_at_call 15; exact Calls.quiet_of (hX.out _)) | (go_at_call 33; exact Calls.quiet_of (hY.out _)))
      go_wp2
      go_roundw
      case rel => exact ⟨k + 1, by omega, by go_num, O.drewN _⟩
      case measure => simp [intOf]; omega
    · obtain rfl : k = n := by omega
      go_wp2
      go_ret
      exact ⟨rfl, O⟩
end Go.Proofs.YtdmjabfjkkjhbaaDoor

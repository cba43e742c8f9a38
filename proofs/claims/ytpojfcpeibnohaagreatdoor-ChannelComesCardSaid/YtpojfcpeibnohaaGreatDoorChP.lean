/- Layer 25: what holds of what comes, through any steps; plain law; no condition. -/
import Derived.Test.YtpojfcpeibnohaaGreatDoorChM
namespace Go.Proofs.YtpojfcpeibnohaaGreatDoor
set_option linter.all false
open Go.RowKit

/-- What holds of what comes to a server. -/
structure CI (c : CH) (granted got : Int) (eof closed : Bool) (i : Nat) : Prop where
  okc : c.ok
  gr : c.inl + got = granted
  g0 : 0 ≤ got
  gb : granted ≤ 4294967295 * ((i : Int) + 1)
  ef : c.gEof = eof
  cl : c.gClose = closed
  ow : 0 ≤ c.owed ∧ c.owed ≤ i
section
variable {granted got : Int} {c : CH} {eof closed : Bool} {i : Nat} {o : OPD} {w : World}
theorem CI.next (h : CI c granted got eof closed i) : CI c granted got eof closed (i + 1) := ⟨h.okc, h.gr, h.g0, by have := h.gb; omega, h.ef, h.cl, by have := h.ow; omega⟩
theorem CI.sends (h : CI c granted got eof closed i) (hi : i < 100) (ho : o.ok w) (hk : o.kind ≠ 1) (he : (doC c o).2.2 = 0) :
    (((doC c o).2.1.kind = 93 ∧ 0 ≤ (doC c o).2.1.window ∧ (doC c o).2.1.window ≤ 4294967295 ∧ CI (doC c o).1 (granted + (doC c o).2.1.window) got eof closed (i + 1))) ∨ ((doC c o).2.1.kind ≠ 93 ∧ CI (doC c o).1 granted got eof closed (i + 1)) := by
  have how := h.ow
  have hokc := do_ok h.okc ho (by omega)
  have hgb := h.gb
  have hgr := h.gr
  have hinl := h.okc.inl
  have hlim := h.okc.lim
  unfold U32 at hinl hlim
  unfold doC at he hokc ⊢
  rw [if_neg hk] at he hokc ⊢
  split at he
  · rename_i h2
    rw [if_pos h2] at hokc ⊢
    unfold dataC at he hokc ⊢
    split at he
    · exact absurd he (by simp)
    rename_i hsh
    rw [if_neg hsh] at hokc ⊢
    split at he
    · rename_i h3; exact absurd he h3
    rename_i h3
    rw [if_neg h3] at hokc ⊢
    exact .inr ⟨by dsimp only; split <;> simp, ⟨hokc, h.gr, h.g0, by omega, h.ef, h.cl, by dsimp only; omega⟩⟩
  rename_i n2; rw [if_neg n2] at hokc ⊢
  split at he
  · rename_i h3
    rw [if_pos h3] at hokc ⊢
    unfold replyC at he hokc ⊢
    split at he
    · exact absurd he (by simp)
    rename_i h4
    rw [if_neg h4] at hokc ⊢
    have ho1 : 0 < c.owed := by
      rcases Int.lt_or_le 0 c.owed with h | h
      · exact h
      · exact absurd (.inl h) h4
    refine .inr ⟨by dsimp only [omK]; split <;> simp, ⟨hokc, h.gr, h.g0, by omega, h.ef, h.cl, ?_⟩⟩
    dsimp only
    rw [IntWalk.i64_in _ (by omega)]; omega
  rename_i n3; rw [if_neg n3] at hokc ⊢
  split at he
  · rename_i h4
    rw [if_pos h4] at hokc ⊢
    unfold grantC at he hokc ⊢
    split at he
    · exact absurd he (by simp)
    rename_i h5
    rw [if_neg h5] at hokc ⊢
    have hf : fL c.inl c.lim o.n = c.inl + fR c.inl c.lim o.n ∧ 0 ≤ fR c.inl c.lim o.n ∧ fR c.inl c.lim o.n ≤ 4294967295 := by
      unfold fL fR
      split <;> omega
    refine .inl ⟨rfl, hf.2.1, hf.2.2, ⟨hokc, ?_, h.g0, by dsimp only; omega, h.ef, h.cl, by dsimp only; omega⟩⟩
    dsimp only; omega
  rename_i n4; rw [if_neg n4] at hokc ⊢
  split at he
  · rename_i h5
    rw [if_pos h5] at hokc ⊢
    unfold tellC at he hokc ⊢
    split at he
    · exact absurd he (by simp)
    rename_i k9
    rw [if_neg k9] at hokc ⊢
    split at he
    · exact absurd he (by simp)
    rename_i h6
    rw [if_neg h6] at hokc ⊢
    split at he
    · rename_i h7; exact absurd he h7
    rename_i h7
    rw [if_neg h7] at hokc ⊢
    exact .inr ⟨by simp, ⟨hokc, h.gr, h.g0, by omega, h.ef, h.cl, by dsimp only; omega⟩⟩
  rename_i n5; rw [if_neg n5] at hokc ⊢
  split at he
  · rename_i h6
    rw [if_pos h6] at hokc ⊢
    unfold eofC at he hokc ⊢
    split at he
    · exact absurd he (by simp)
    rename_i h7
    rw [if_neg h7] at hokc ⊢
    exact .inr ⟨by simp [omK], ⟨hokc, h.gr, h.g0, by omega, h.ef, h.cl, by dsimp only; omega⟩⟩
  rename_i n6; rw [if_neg n6] at hokc ⊢
  split at he
  · rename_i h7
    rw [if_pos h7] at hokc ⊢
    unfold closeC at he hokc ⊢
    split at he
    · exact absurd he (by simp)
    rename_i h8
    rw [if_neg h8] at hokc ⊢
    exact .inr ⟨by simp [omK], ⟨hokc, h.gr, h.g0, by omega, h.ef, h.cl, by dsimp only; omega⟩⟩
  rename_i n7; rw [if_neg n7] at hokc ⊢
  exact .inr ⟨by simp [om0], h.next⟩
theorem CI.recv (h : CI c granted got eof closed i) (hi : i < 100) (ho : o.ok w) (hk : o.kind = 1) (he : (doC c o).2.2 = 0) :
    (doC c o).2.1 = om0 ∧ closed = false ∧ (((o.m.kind = 94 ∨ o.m.kind = 95) ∧ eof = false ∧ CI (doC c o).1 granted (got + o.m.data.length) eof closed (i + 1)) ∨ (o.m.kind = 96 ∧ eof = false ∧ CI (doC c o).1 granted got true closed (i + 1)) ∨ (o.m.kind = 97 ∧ CI (doC c o).1 granted got eof true (i + 1)) ∨ (o.m.kind ≠ 94 ∧ o.m.kind ≠ 95 ∧ o.m.kind ≠ 96 ∧ o.m.kind ≠ 97 ∧ CI (doC c o).1 granted got eof closed (i + 1))) := by
  have how := h.ow
  have hokc := do_ok h.okc ho (by omega)
  have hgb := h.gb
  have hgr := h.gr
  have hg0 := h.g0
  have hd : doC c o = ((recvC c o.m.kind o.m.window o.m.want o.m.data.length).1, om0, (recvC c o.m.kind o.m.window o.m.want o.m.data.length).2) := if_pos hk
  rw [hd] at he hokc ⊢
  dsimp only at he hokc ⊢
  refine ⟨rfl, ?_⟩
  unfold recvC at he hokc ⊢
  by_cases g : c.gClose = true
  · rw [if_pos g] at he; exact absurd he (by simp)
  have hcl : closed = false := by rw [← h.cl]; simpa using g
  refine ⟨hcl, ?_⟩
  rw [if_neg g] at he hokc ⊢
  by_cases k94 : o.m.kind = 94 ∨ o.m.kind = 95
  · rw [if_pos k94] at he hokc ⊢
    by_cases g2 : c.gEof = true
    · rw [if_pos g2] at he; exact absurd he (by simp)
    · rw [if_neg g2] at he hokc ⊢
      have hz : 0 ≤ (o.m.data.length : Int) ∧ (o.m.data.length : Int) ≤ c.inl := by
        dsimp only at he
        unfold oE at he
        split at he
        · assumption
        · cases he
      refine .inl ⟨k94, by rw [← h.ef]; simpa using g2, ⟨hokc, ?_, by omega, by omega, h.ef, h.cl, by dsimp only; omega⟩⟩
      dsimp only
      unfold oL
      rw [if_pos hz]; omega
  rw [if_neg k94] at he hokc ⊢
  by_cases k93 : o.m.kind = 93
  · rw [if_pos k93] at he hokc ⊢
    exact .inr (.inr (.inr ⟨by omega, by omega, by omega, by omega, ⟨hokc, h.gr, h.g0, by omega, h.ef, h.cl, by dsimp only; omega⟩⟩))
  rw [if_neg k93] at he hokc ⊢
  by_cases k96 : o.m.kind = 96
  · rw [if_pos k96] at he hokc ⊢
    by_cases g2 : c.gEof = true
    · rw [if_pos g2] at he; exact absurd he (by simp)
    · rw [if_neg g2] at hokc ⊢
      exact .inr (.inl ⟨k96, by rw [← h.ef]; simpa using g2, ⟨hokc, h.gr, h.g0, by omega, rfl, h.cl, by dsimp only; omega⟩⟩)
  rw [if_neg k96] at he hokc ⊢
  by_cases k97 : o.m.kind = 97
  · rw [if_pos k97] at he hokc ⊢
    exact .inr (.inr (.inl ⟨k97, ⟨hokc, h.gr, h.g0, by omega, h.ef, rfl, by dsimp only; omega⟩⟩))
  rw [if_neg k97] at he hokc ⊢
  by_cases k98 : o.m.kind = 98
  · rw [if_pos k98] at he hokc ⊢
    by_cases g2 : o.m.want = true
    · rw [if_pos g2] at hokc ⊢
      refine .inr (.inr (.inr ⟨by omega, by omega, by omega, by omega, ⟨hokc, h.gr, h.g0, by omega, h.ef, h.cl, ?_⟩⟩))
      dsimp only
      rw [IntWalk.i64_in _ (by omega)]; omega
    · rw [if_neg g2] at hokc ⊢
      exact .inr (.inr (.inr ⟨by omega, by omega, by omega, by omega, ⟨hokc, h.gr, h.g0, by omega, h.ef, h.cl, by dsimp only; omega⟩⟩))
  · rw [if_neg k98] at he; exact absurd he (by simp)
end
end Go.Proofs.YtpojfcpeibnohaaGreatDoor

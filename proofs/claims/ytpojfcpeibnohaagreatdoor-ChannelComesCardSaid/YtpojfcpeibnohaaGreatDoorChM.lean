/- Layer 25: what holds through any steps; plain law; no condition. -/
import Derived.Test.YtpojfcpeibnohaaGreatDoorChJ
namespace Go.Proofs.YtpojfcpeibnohaaGreatDoor
set_option linter.all false
open Go.RowKit

theorem once_le (l p : Int) (hl : 0 ≤ l) (hp : 0 ≤ p) : 0 ≤ once l p ∧ once l p ≤ l ∧ once l p ≤ p ∧ once l p ≤ 32768 := once_rng l p hl hp
theorem sE_zero {l p n : Int} (hl : 0 ≤ l) (hp : 0 ≤ p) (h : sE l p n = 0) : 0 ≤ n ∧ n ≤ l ∧ n ≤ p ∧ n ≤ 32768 ∧ sL l p n = l - n := by
  have := once_rng l p hl hp
  unfold sE at h
  split at h
  · rename_i h1
    refine ⟨h1.1, by omega, by omega, by omega, ?_⟩
    unfold sL; rw [if_pos h1]
  · cases h
theorem recv_ok {c : CH} {k win : Int} {want : Bool} {len : Int} (hc : c.ok) (hw : U32 win) (ho : 0 ≤ c.owed ∧ c.owed ≤ 1000) : (recvC c k win want len).1.ok := by
  obtain ⟨h0, h1, h2, h3, h4, h5, h6⟩ := hc
  unfold U32 at *
  unfold recvC oL gL
  repeat' split
  all_goals first
    | exact ⟨h0, h1, h2, h3, h4, h5, h6⟩
    | exact ⟨h0, h1, h2, h3, by dsimp only; unfold U32; omega, h5, h6⟩
    | exact ⟨h0, h1, by dsimp only; unfold U32; omega, h3, h4, h5, h6⟩
    | (refine ⟨h0, h1, h2, h3, h4, h5, ?_⟩; dsimp only; rw [IntWalk.i64_in _ (by omega)]; omega)
    | (split <;> exact ⟨h0, h1, h2, h3, h4, h5, h6⟩)
theorem do_ok {c : CH} {o : OPD} {w : World} (hc : c.ok) (hw : o.ok w) (ho : 0 ≤ c.owed ∧ c.owed ≤ 1000) : (doC c o).1.ok := by
  have hc0 := hc
  obtain ⟨h0, h1, h2, h3, h4, h5, h6⟩ := hc
  unfold doC
  split
  · exact recv_ok hc0 hw.m.nums.2.2.1 ho
  split
  · unfold dataC
    split
    · exact hc0
    split
    · exact hc0
    rename_i h7 h8
    have := sE_zero h2.1 h3.1 (Classical.not_not.1 h8)
    refine ⟨h0, h1, ?_, h3, h4, h5, h6⟩
    unfold U32 at *
    dsimp only
    omega
  split
  · unfold replyC
    split
    · exact hc0
    · rename_i h7
      refine ⟨h0, h1, h2, h3, h4, h5, ?_⟩
      dsimp only
      have : 0 < c.owed := by
        rcases Int.lt_or_le 0 c.owed with h | h
        · exact h
        · exact absurd (.inl h) h7
      rw [IntWalk.i64_in _ (by omega)]
      omega
  split
  · unfold grantC
    split
    · exact hc0
    · refine ⟨h0, h1, h2, h3, ?_, h5, h6⟩
      unfold U32 at *
      dsimp only
      unfold fL
      split <;> omega
  split
  · unfold tellC
    repeat' split
    all_goals first | exact hc0 | exact ⟨h0, h1, h2, h3, h4, h5, h6⟩
  split
  · unfold eofC
    split
    · exact hc0
    · exact ⟨h0, h1, h2, h3, h4, h5, h6⟩
  split
  · unfold closeC
    split
    · exact hc0
    · exact ⟨h0, h1, h2, h3, h4, h5, h6⟩
  · exact hc0
/-- An error leaves the channel. -/
theorem do_err {c : CH} {o : OPD} (h : (doC c o).2.2 ≠ 0) : (doC c o).1 = c := by
  unfold doC at h ⊢
  split
  · rename_i h1
    rw [if_pos h1] at h
    exact recvC_err c _ _ _ _ h
  rename_i h1; rw [if_neg h1] at h
  split
  · rename_i h2; rw [if_pos h2] at h
    unfold dataC at h ⊢
    repeat' split
    all_goals first | rfl | simp_all
  rename_i h2; rw [if_neg h2] at h
  split
  · rename_i h3; rw [if_pos h3] at h
    unfold replyC at h ⊢
    split
    · rfl
    · rename_i h4; rw [if_neg h4] at h; exact absurd rfl h
  rename_i h3; rw [if_neg h3] at h
  split
  · rename_i h4; rw [if_pos h4] at h
    unfold grantC at h ⊢
    split
    · rfl
    · rename_i h5; rw [if_neg h5] at h; exact absurd rfl h
  rename_i h4; rw [if_neg h4] at h
  split
  · rename_i h5; rw [if_pos h5] at h
    unfold tellC at h ⊢
    repeat' split
    all_goals first | rfl | simp_all
  rename_i h5; rw [if_neg h5] at h
  split
  · rename_i h6; rw [if_pos h6] at h
    unfold eofC at h ⊢
    split
    · rfl
    · rename_i h7; rw [if_neg h7] at h; exact absurd rfl h
  rename_i h6; rw [if_neg h6] at h
  split
  · rename_i h7; rw [if_pos h7] at h
    unfold closeC at h ⊢
    split
    · rfl
    · rename_i h8; rw [if_neg h8] at h; exact absurd rfl h
  · rfl
/-- What holds of what a server sends. -/
structure TI (packet : Int) (c : CH) (granted sent wanted answered told : Int) (eof closed : Bool) (i : Nat) : Prop where
  okc : c.ok
  ef : c.sEof = eof
  cl : c.sClose = closed
  tl : c.told = false → told = 0
  tb : 0 ≤ told ∧ told ≤ 1
  pk : c.pack = packet
  gr : c.left + sent = granted
  s0 : 0 ≤ sent
  gb : granted ≤ 4294967295 * ((i : Int) + 1)
  ow : c.owed = wanted - answered
  w0 : 0 ≤ answered ∧ answered ≤ wanted ∧ wanted ≤ i
section
variable {packet granted sent wanted answered told : Int} {c : CH} {eof closed : Bool} {i : Nat} {o : OPD} {w : World}
theorem TI.next (h : TI packet c granted sent wanted answered told eof closed i) : TI packet c granted sent wanted answered told eof closed (i + 1) :=
  ⟨h.okc, h.ef, h.cl, h.tl, h.tb, h.pk, h.gr, h.s0, by have := h.gb; omega, h.ow, by have := h.w0; omega⟩
theorem TI.owed (h : TI packet c granted sent wanted answered told eof closed i) (hi : i < 100) : 0 ≤ c.owed ∧ c.owed ≤ 1000 := by
  have := h.ow; have := h.w0; omega
/-- A message came. -/
theorem TI.recv (h : TI packet c granted sent wanted answered told eof closed i) (hi : i < 100) (ho : o.ok w) (hk : o.kind = 1) (he : (doC c o).2.2 = 0) :
    TI packet (doC c o).1 (granted + if o.m.kind = 93 then o.m.window else 0) sent (wanted + if o.m.kind = 98 ∧ o.m.want = true then 1 else 0) answered told eof closed (i + 1) := by
  have hokc := do_ok h.okc ho (h.owed hi)
  have hnum := ho.m.nums.2.2.1
  have hw0 := h.w0
  have how := h.ow
  have hgb := h.gb
  have hgr := h.gr
  have hd : doC c o = ((recvC c o.m.kind o.m.window o.m.want o.m.data.length).1, om0, (recvC c o.m.kind o.m.window o.m.want o.m.data.length).2) := if_pos hk
  rw [hd] at he hokc ⊢
  dsimp only at he hokc ⊢
  unfold U32 at hnum
  unfold recvC at he hokc ⊢
  by_cases g : c.gClose = true
  · rw [if_pos g] at he; exact absurd he (by simp)
  rw [if_neg g] at he hokc ⊢
  by_cases k94 : o.m.kind = 94 ∨ o.m.kind = 95
  · rw [if_pos k94] at he hokc ⊢
    have n1 : ¬ o.m.kind = 93 := by omega
    have n2 : ¬ (o.m.kind = 98 ∧ o.m.want = true) := by omega
    rw [if_neg n1, if_neg n2, Int.add_zero, Int.add_zero]
    by_cases g2 : c.gEof = true
    · rw [if_pos g2] at he; exact absurd he (by simp)
    · rw [if_neg g2] at hokc ⊢
      exact ⟨hokc, h.ef, h.cl, h.tl, h.tb, h.pk, h.gr, h.s0, by omega, h.ow, by omega⟩
  rw [if_neg k94] at he hokc ⊢
  by_cases k93 : o.m.kind = 93
  · rw [if_pos k93] at he hokc ⊢
    have n2 : ¬ (o.m.kind = 98 ∧ o.m.want = true) := by omega
    rw [if_pos k93, if_neg n2, Int.add_zero]
    have hg : gL c.left o.m.window = c.left + o.m.window := by
      dsimp only at he
      unfold gE at he; unfold gL
      split at he
      · cases he
      · rename_i h1; rw [if_neg h1]
    refine ⟨hokc, h.ef, h.cl, h.tl, h.tb, h.pk, ?_, h.s0, by omega, h.ow, by omega⟩
    show gL c.left o.m.window + sent = _
    rw [hg]; omega
  rw [if_neg k93] at he hokc ⊢
  rw [if_neg k93, Int.add_zero]
  by_cases k96 : o.m.kind = 96
  · rw [if_pos k96] at he hokc ⊢
    have n2 : ¬ (o.m.kind = 98 ∧ o.m.want = true) := by omega
    rw [if_neg n2, Int.add_zero]
    by_cases g2 : c.gEof = true
    · rw [if_pos g2] at he; exact absurd he (by simp)
    · rw [if_neg g2] at hokc ⊢
      exact ⟨hokc, h.ef, h.cl, h.tl, h.tb, h.pk, h.gr, h.s0, by omega, h.ow, by omega⟩
  rw [if_neg k96] at he hokc ⊢
  by_cases k97 : o.m.kind = 97
  · rw [if_pos k97] at he hokc ⊢
    have n2 : ¬ (o.m.kind = 98 ∧ o.m.want = true) := by omega
    rw [if_neg n2, Int.add_zero]
    exact ⟨hokc, h.ef, h.cl, h.tl, h.tb, h.pk, h.gr, h.s0, by omega, h.ow, by omega⟩
  rw [if_neg k97] at he hokc ⊢
  by_cases k98 : o.m.kind = 98
  · rw [if_pos k98] at he hokc ⊢
    by_cases g2 : o.m.want = true
    · rw [if_pos g2] at hokc ⊢
      rw [if_pos ⟨k98, g2⟩]
      refine ⟨hokc, h.ef, h.cl, h.tl, h.tb, h.pk, h.gr, h.s0, by omega, ?_, by omega⟩
      show IntKind.i64.wrap (c.owed + 1) = _
      rw [IntWalk.i64_in _ (by omega)]; omega
    · rw [if_neg g2] at hokc ⊢
      rw [if_neg (fun x => g2 x.2), Int.add_zero]
      exact ⟨hokc, h.ef, h.cl, h.tl, h.tb, h.pk, h.gr, h.s0, by omega, h.ow, by omega⟩
  · rw [if_neg k98] at he; exact absurd he (by simp)
/-- What a step that sends does. -/
inductive Sent (packet : Int) (c : CH) (granted sent wanted answered told : Int) (eof closed : Bool) (i : Nat) : CH × OM → Prop
  | none (x : CH × OM) (h : TI packet x.1 granted sent wanted answered told eof closed (i + 1)) (hk : x.2.kind = 0) : Sent packet c granted sent wanted answered told eof closed i x
  | data (x : CH × OM) (hk : x.2.kind = 94 ∨ x.2.kind = 95) (hc : closed = false) (he : eof = false) (hl : (x.2.data.length : Int) ≤ packet) (hl2 : x.2.data.length ≤ 32768) (h : TI packet x.1 granted (sent + x.2.data.length) wanted answered told eof closed (i + 1)) : Sent packet c granted sent wanted answered told eof closed i x
  | eof (x : CH × OM) (hk : x.2.kind = 96) (hc : closed = false) (he : eof = false) (h : TI packet x.1 granted sent wanted answered told true closed (i + 1)) : Sent packet c granted sent wanted answered told eof closed i x
  | close (x : CH × OM) (hk : x.2.kind = 97) (hc : closed = false) (he : answered = wanted) (h : TI packet x.1 granted sent wanted answered told eof true (i + 1)) : Sent packet c granted sent wanted answered told eof closed i x
  | answer (x : CH × OM) (hk : x.2.kind = 99 ∨ x.2.kind = 100) (hc : closed = false) (h : TI packet x.1 granted sent wanted (answered + 1) told eof closed (i + 1)) : Sent packet c granted sent wanted answered told eof closed i x
  | tell (x : CH × OM) (hk : x.2.kind = 98) (hc : closed = false) (hn : x.2.name = rname 9 ∨ x.2.name = rname 10) (h : TI packet x.1 granted sent wanted answered (told + 1) eof closed (i + 1)) : Sent packet c granted sent wanted answered told eof closed i x
  | more (x : CH × OM) (hk : x.2.kind = 93) (hc : closed = false) (h : TI packet x.1 granted sent wanted answered told eof closed (i + 1)) : Sent packet c granted sent wanted answered told eof closed i x
theorem TI.sends (h : TI packet c granted sent wanted answered told eof closed i) (hi : i < 100) (ho : o.ok w) (hk : o.kind ≠ 1) (he : (doC c o).2.2 = 0) :
    Sent packet c granted sent wanted answered told eof closed i ((doC c o).1, (doC c o).2.1) := by
  have hokc := do_ok h.okc ho (h.owed hi)
  have hw0 := h.w0
  have how := h.ow
  have hgb := h.gb
  have hgr := h.gr
  have hs0 := h.s0
  have hcl := h.cl
  have hef := h.ef
  unfold doC at he hokc ⊢
  rw [if_neg hk] at he hokc ⊢
  split at he
  · rename_i h2
    rw [if_pos h2] at hokc ⊢
    unfold dataC at he hokc ⊢
    split at he
    · exact absurd he (by simp)
    rename_i hsh
    rw [if_neg hsh] at hokc ⊢
    split at he
    · rename_i h3; exact absurd he h3
    rename_i h3
    rw [if_neg h3] at hokc ⊢
    have hz := sE_zero h.okc.left.1 h.okc.pack.1 (Classical.not_not.1 h3)
    have hsh2 : c.sEof = false ∧ c.sClose = false := by
      unfold CH.shut at hsh; simp at hsh; exact ⟨hsh.1.1, hsh.1.2⟩
    refine .data _ ?_ (by rw [← hcl]; exact hsh2.2) (by rw [← hef]; exact hsh2.1) (by dsimp only; rw [← h.pk]; omega) (by dsimp only; omega) ⟨hokc, h.ef, h.cl, h.tl, h.tb, h.pk, ?_, by dsimp only; omega, by omega, h.ow, by omega⟩
    · dsimp only; split <;> simp
    · show sL c.left c.pack o.b.length + _ = _
      rw [hz.2.2.2.2]; dsimp only; omega
  rename_i n2; rw [if_neg n2] at hokc ⊢
  split at he
  · rename_i h3
    rw [if_pos h3] at hokc ⊢
    unfold replyC at he hokc ⊢
    split at he
    · exact absurd he (by simp)
    rename_i h4
    rw [if_neg h4] at hokc ⊢
    have ho1 : 0 < c.owed := by
      rcases Int.lt_or_le 0 c.owed with h | h
      · exact h
      · exact absurd (.inl h) h4
    have hcs : c.sClose = false := by
      cases hx : c.sClose with
      | false => rfl
      | true => exact absurd (.inr hx) h4
    refine .answer _ ?_ (by rw [← hcl]; exact hcs) ⟨hokc, h.ef, h.cl, h.tl, h.tb, h.pk, h.gr, h.s0, by omega, ?_, by omega⟩
    · dsimp only [omK]; split <;> simp
    · show IntKind.i64.wrap (c.owed - 1) = _
      rw [IntWalk.i64_in _ (by omega)]; omega
  rename_i n3; rw [if_neg n3] at hokc ⊢
  split at he
  · rename_i h4
    rw [if_pos h4] at hokc ⊢
    unfold grantC at he hokc ⊢
    split at he
    · exact absurd he (by simp)
    rename_i h5
    rw [if_neg h5] at hokc ⊢
    have hcs : c.sClose = false := by
      cases hx : c.sClose with
      | false => rfl
      | true => exact absurd (.inr (.inr (.inl hx))) h5
    exact .more _ rfl (by rw [← hcl]; exact hcs) ⟨hokc, h.ef, h.cl, h.tl, h.tb, h.pk, h.gr, h.s0, by omega, h.ow, by omega⟩
  rename_i n4; rw [if_neg n4] at hokc ⊢
  split at he
  · rename_i h5
    rw [if_pos h5] at hokc ⊢
    unfold tellC at he hokc ⊢
    split at he
    · exact absurd he (by simp)
    rename_i k9
    rw [if_neg k9] at hokc ⊢
    split at he
    · exact absurd he (by simp)
    rename_i h6
    rw [if_neg h6] at hokc ⊢
    split at he
    · rename_i h7; exact absurd he h7
    rename_i h7
    rw [if_neg h7] at hokc ⊢
    have ht : c.told = false := by
      cases hx : c.told with
      | false => rfl
      | true => exact absurd (.inl hx) h6
    have hcs : c.sClose = false := by
      cases hx : c.sClose with
      | false => rfl
      | true => exact absurd (.inr hx) h6
    have ht0 := h.tl ht
    refine .tell _ rfl (by rw [← hcl]; exact hcs) ?_ ⟨hokc, h.ef, h.cl, fun hx => (by cases hx), by omega, h.pk, h.gr, h.s0, by omega, h.ow, by omega⟩
    show encName o.r = _ ∨ encName o.r = _
    unfold encName
    rw [if_pos (Classical.not_not.1 h7)]
    have : o.r.kind = 9 ∨ o.r.kind = 10 := by omega
    rcases this with h8 | h8 <;> rw [h8]
    · exact .inl rfl
    · exact .inr rfl
  rename_i n5; rw [if_neg n5] at hokc ⊢
  split at he
  · rename_i h6
    rw [if_pos h6] at hokc ⊢
    unfold eofC at he hokc ⊢
    split at he
    · exact absurd he (by simp)
    rename_i h7
    rw [if_neg h7] at hokc ⊢
    have h8 : c.sEof = false ∧ c.sClose = false := by
      cases hx : c.sEof <;> cases hy : c.sClose <;> simp_all
    exact .eof _ rfl (by rw [← hcl]; exact h8.2) (by rw [← hef]; exact h8.1) ⟨hokc, rfl, h.cl, h.tl, h.tb, h.pk, h.gr, h.s0, by omega, h.ow, by omega⟩
  rename_i n6; rw [if_neg n6] at hokc ⊢
  split at he
  · rename_i h7
    rw [if_pos h7] at hokc ⊢
    unfold closeC at he hokc ⊢
    split at he
    · exact absurd he (by simp)
    rename_i h8
    rw [if_neg h8] at hokc ⊢
    have hcs : c.sClose = false := by
      cases hx : c.sClose with
      | false => rfl
      | true => exact absurd (.inl hx) h8
    have ho1 : ¬ 0 < c.owed := fun hx => h8 (.inr hx)
    exact .close _ rfl (by rw [← hcl]; exact hcs) (by omega) ⟨hokc, h.ef, rfl, h.tl, h.tb, h.pk, h.gr, h.s0, by omega, h.ow, by omega⟩
  rename_i n7; rw [if_neg n7] at hokc ⊢
  exact .none _ h.next rfl
end
theorem Sent.or {packet granted sent wanted answered told : Int} {c : CH} {eof closed : Bool} {i : Nat} {x : CH × OM} (h : Sent packet c granted sent wanted answered told eof closed i x) :
    (x.2.kind = 0 ∧ TI packet x.1 granted sent wanted answered told eof closed (i + 1)) ∨
    ((x.2.kind = 94 ∨ x.2.kind = 95) ∧ closed = false ∧ eof = false ∧ (x.2.data.length : Int) ≤ packet ∧ x.2.data.length ≤ 32768 ∧ TI packet x.1 granted (sent + x.2.data.length) wanted answered told eof closed (i + 1)) ∨
    (x.2.kind = 96 ∧ closed = false ∧ eof = false ∧ TI packet x.1 granted sent wanted answered told true closed (i + 1)) ∨
    (x.2.kind = 97 ∧ closed = false ∧ answered = wanted ∧ TI packet x.1 granted sent wanted answered told eof true (i + 1)) ∨
    ((x.2.kind = 99 ∨ x.2.kind = 100) ∧ closed = false ∧ TI packet x.1 granted sent wanted (answered + 1) told eof closed (i + 1)) ∨
    (x.2.kind = 98 ∧ closed = false ∧ (x.2.name = rname 9 ∨ x.2.name = rname 10) ∧ TI packet x.1 granted sent wanted answered (told + 1) eof closed (i + 1)) ∨
    (x.2.kind = 93 ∧ closed = false ∧ TI packet x.1 granted sent wanted answered told eof closed (i + 1)) := by
  cases h with
  | none h hk => exact .inl ⟨hk, h⟩
  | data hk hc he hl hl2 h => exact .inr (.inl ⟨hk, hc, he, hl, hl2, h⟩)
  | eof hk hc he h => exact .inr (.inr (.inl ⟨hk, hc, he, h⟩))
  | close hk hc he h => exact .inr (.inr (.inr (.inl ⟨hk, hc, he, h⟩)))
  | answer hk hc h => exact .inr (.inr (.inr (.inr (.inl ⟨hk, hc, h⟩))))
  | tell hk hc hn h => exact .inr (.inr (.inr (.inr (.inr (.inl ⟨hk, hc, hn, h⟩)))))
  | more hk hc h => exact .inr (.inr (.inr (.inr (.inr (.inr ⟨hk, hc, h⟩)))))
theorem wrapU64 {x : Int} (h : 0 ≤ x ∧ x ≤ 18446744073709551615) : IntKind.u64.wrap x = x := by
  rw [IntKind.wrap_u64]; omega
theorem wrapU32 {x : Int} (h : 0 ≤ x ∧ x ≤ 4294967295) : IntKind.u32.wrap x = x := by
  rw [IntKind.wrap_u32]; omega
theorem wrapI64 {x : Int} (h : -9223372036854775808 ≤ x ∧ x ≤ 9223372036854775807) : IntKind.i64.wrap x = x := IntWalk.i64_in x (by omega)
end Go.Proofs.YtpojfcpeibnohaaGreatDoor

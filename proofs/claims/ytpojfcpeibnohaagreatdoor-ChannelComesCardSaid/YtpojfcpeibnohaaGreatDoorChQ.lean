/- Layer 25: ChannelComes: what comes to a channel, whatever steps it takes, for all steps; no condition. -/
import Derived.Test.YtpojfcpeibnohaaGreatDoorChL
import Derived.Test.YtpojfcpeibnohaaGreatDoorChP
import Derived.Test.YtpojfcpeibnohaaGreatDoorEngG
namespace Go.Proofs.YtpojfcpeibnohaaGreatDoor
set_option linter.all false
set_option maxRecDepth 100000
open Go.RowKit

set_option maxHeartbeats 2000000 in
theorem comes_walk (limit : Int) (ops : List OPD) (A : Option Addr) (ac : Nat) (w : World) (hl : U32 limit) (hr : RdX OPD.cells w A ops) (hlen : ops.length ≤ maxLen) (hok : ∀ o ∈ ops, o.ok w) : Calls Tryz.prog 4 #[.int .u32 limit, .slice A ops.length ac] w fun e w' => e = .returned (.bool true) ∧ Only [] w w' := by
  refine Hs.enter Tryz.func4 [] [] [] [.c (.v (.int .u32 limit)), .c (.v (.slice A ops.length ac))] (Mem.start0 w) (by kernel_rfl) (by kernel_rfl) ?_
  refine Hs.run0 300 (fun _ => by kernel_rfl) ?_
  refine Hs.callV (fun w' _ => alive25_any w') (by kernel_rfl) ?_
  refine Hs.run0 300 (fun _ => by kernel_rfl) ?_
  refine Hs.condF (by kernel_rfl) ?_
  refine Hs.run0 300 (fun _ => by kernel_rfl) ?_
  refine Hs.callX (X := Bool) (fun b => .bool b) (fun b => b = false → Fit ops) (fun w' H => (great25_any ops A ac w' (hr.only H.only) hlen).mono (by
    rintro e w2 ⟨b, rfl, O, hb⟩
    exact ⟨b, rfl, O, hb⟩)) (by kernel_rfl) fun g hg => ?_
  refine Hs.run0 300 (fun _ => by kernel_rfl) ?_
  refine Hs.cond g (by kernel_rfl) (fun h1 => ?_) (fun h1 => ?_)
  · refine Hs.run0 300 (fun _ => by kernel_rfl) ?_
    exact Hs.ret (v := .bool true) Tryz.func4 (by kernel_rfl) fun w' H => ⟨rfl, H.only⟩
  obtain ⟨h100, hsm⟩ := hg h1
  clear h1
  have J : ∀ (d i : Nat), ops.length - i = d → i ≤ ops.length → ∀ (b : Nat) (c : CH) (granted got : Int) (eof closed : Bool), CI c granted got eof closed i → ∀ (u : Nat → Value), Hs Tryz.prog 4 (fun e w' => e = .returned (.bool true) ∧ Only [] w w') (Tryz.f4).ntmps w [] [b] ⟨.no, loopAt Tryz.f4 0, pins [(25, .c (.v (.slice A ops.length ac))), (26, .c (.v (.int .i64 ops.length))), (27, .c (.v (.int .i64 (i : Nat)))), (6, .c (.v (.int .u64 (granted)))), (7, .c (.v (.int .u64 (got)))), (8, .c (.v (.bool eof))), (9, .c (.v (.bool closed))), (5, .c (.p 0 0))] (.vals u), [.b true 31 c.sc]⟩ := by
    intro d
    induction d with
    | zero =>
      intro i hd hi b c granted got eof closed T u
      refine Hs.run0 300 (fun _ => by kernel_rfl) ?_
      refine Hs.condP ((i : Int) < (ops.length : Int)) (by kernel_rfl) (fun h => by omega) (fun h => ?_)
      refine Hs.run0 300 (fun _ => by kernel_rfl) ?_
      exact Hs.ret (v := .bool true) Tryz.func4 (by kernel_rfl) fun w' H => ⟨rfl, H.only⟩
    | succ d ih =>
      intro i hd hi b c granted got eof closed T u
      have hil : i < ops.length := by omega
      have hi100 : i < 100 := by omega
      have hx : ops[i]? = some (ops[i]'hil) := List.getElem?_eq_getElem hil
      obtain ⟨o, ho⟩ : ∃ o, o = ops[i]'hil := ⟨_, rfl⟩
      have hmem : o ∈ ops := by rw [ho]; exact List.getElem_mem hil
      rw [← ho] at hx
      clear ho
      have hoo := hok o hmem
      have hos := hsm o hmem
      have tgb := T.gb
      have tgr := T.gr
      have tg0 := T.g0
      have tin := T.okc.inl
      unfold U32 at tin
      have hdl := Nat.le_trans hoo.m.dle hoo.m.dmax
      unfold maxLen at hdl
      refine Hs.run0 300 (fun _ => by kernel_rfl) ?_
      refine Hs.condP ((i : Int) < (ops.length : Int)) (by kernel_rfl) (fun h => ?_) (fun h => by omega)
      refine Hs.run0 300 (fun _ => by kernel_rfl) ?_
      obtain ⟨ab, aoff, hA, _, _⟩ := hr (by omega)
      subst hA
      refine Hs.idx (b := ab) (off := aoff) (c := ac) elemOp hil (by kernel_rfl) ?_
      refine Hs.ldx (E := 41) (b := ab) (off := aoff) (i := i) opd_len (.g o.sc) (by kernel_rfl) (fun w' H => hr.only H.only) hx (by kernel_rfl) (by kernel_rfl) (by kernel_rfl) (by kernel_rfl) ?_
      refine Hs.run1 300 (fun _ => by kernel_rfl) fun b1 => ?_
      have DO := fun w' (H : Only [] w w') => chDo_any c o w' T.okc (hoo.only H) hos
      have TR := fun hk he => T.recv hi100 hoo hk he
      have TS := fun hk he => T.sends hi100 hoo hk he
      have DE := do_err (c := c) (o := o)
      obtain ⟨r, hre⟩ : ∃ r, r = doC c o := ⟨_, rfl⟩
      rw [← hre] at DO TR TS DE
      clear hre
      obtain ⟨c', om, E⟩ := r
      dsimp only at TR TS DE
      refine Hs.callQ (X := Option Addr × Nat) (fun x => aoB om.data x.1) (fun x => .tuple #[c'.val, omV om x.1 x.2, .int .i64 E]) (fun x w' => Bs w' w.heap.size x.1 om.data x.2) (fun x => bs_st) (fun w' H => stepO_q H.only.size (DO w' H.only)) (by kernel_rfl) (by kernel_rfl) fun x => ?_
      refine Hs.run2 300 (fun _ => by kernel_rfl) fun b3 b4 => ?_
      refine Hs.any [0, 3] (by kernel_rfl) ?_
      refine Hs.run0 300 (fun _ => by kernel_rfl) ?_
      refine Hs.bool 40 (E != 0) (by kernel_rfl) (fun he => ?_) (fun he => ?_)
      · have he : E ≠ 0 := by simpa using he
        have hcc := DE he
        subst hcc
        refine Hs.rung0 [2] 300 (fun _ => by kernel_rfl) ?_
        skip
        refine Hs.callV (fun w' _ => chFrom_any c' w') (by kernel_rfl) ?_
        refine Hs.rung0 [2] 300 (fun _ => by kernel_rfl) ?_
        refine Hs.callV (fun w' _ => chFrom_any c' w') (by kernel_rfl) ?_
        refine Hs.branch [7] (by kernel_rfl) (by simp) fun k hk => ?_
        obtain rfl := List.mem_singleton.1 hk
        clear hk
        refine Hs.rung0 [2] 1 (fun _ => by kernel_rfl) ?_
        refine Hs.same (op := .neq) (T := 48) (CH.cells c').toArray false (by kernel_rfl) (.inr ⟨rfl, rfl⟩) (by kernel_rfl) ?_
        refine Hs.rung0 [2] 300 (fun _ => by kernel_rfl) ?_
        refine Hs.condF (by kernel_rfl) ?_
        refine Hs.run0 300 (fun _ => by kernel_rfl) ?_
        refine Hs.cond (E != 0) (by kernel_rfl) (fun _ => ?_) (fun hx => absurd (by simpa using hx) he)
        refine Hs.run0 300 (fun _ => by kernel_rfl) ?_
        refine Hs.slot 27 (.c (.v (.int .i64 (i + 1 : Nat)))) rfl ((by kernel_rfl : _ = Value.int .i64 (IntKind.i64.wrap ((i : Int) + 1))).trans (wrap_next hlen)) ?_
        refine Hs.loop (by kernel_rfl) ?_
        exact Hs.goto (loopAt Tryz.f4 0) [0] [.b true 31 (CH.sc c')] [(25, .c (.v (.slice (some ⟨ab, aoff, none⟩) ops.length ac))), (26, .c (.v (.int .i64 ops.length))), (27, .c (.v (.int .i64 (i + 1 : Nat)))), (6, .c (.v (.int .u64 (granted)))), (7, .c (.v (.int .u64 (got)))), (8, .c (.v (.bool eof))), (9, .c (.v (.bool closed))), (5, .c (.p 0 0))] (by kernel_rfl) (by decide) (by kernel_rfl) (by kernel_rfl) (fun _ => by kernel_rfl) (fun u => ih (i + 1) (by omega) (by omega) _ _ _ _ _ _ T.next u)
      have he : E = 0 := by simpa using he
      subst he
      refine Hs.rung0 [2] 300 (fun _ => by kernel_rfl) ?_
      refine Hs.condF (by kernel_rfl) ?_
      refine Hs.run0 300 (fun _ => by kernel_rfl) ?_
      refine Hs.condF (by kernel_rfl) ?_
      refine Hs.run0 300 (fun _ => by kernel_rfl) ?_
      by_cases hk : o.kind = 1
      · obtain ⟨hom, hc0, S⟩ := TR hk rfl
        subst hom; subst hc0
        refine Hs.condF (by kernel_rfl) ?_
        refine Hs.run0 300 (fun _ => by kernel_rfl) ?_
        refine Hs.cond (o.kind != 1) (by kernel_rfl) (fun hx => absurd hk (by simpa using hx)) (fun _ => ?_)
        refine Hs.run0 300 (fun _ => by kernel_rfl) ?_
        refine Hs.condF (by kernel_rfl) ?_
        refine Hs.run0 300 (fun _ => by kernel_rfl) ?_
        rcases S with ⟨hm, he0, T'⟩ | ⟨hm, he0, T'⟩ | ⟨hm, T'⟩ | ⟨m4, m5, m6, m7, T'⟩
        · subst he0
          have tgr' := T'.gr
          have tin' := T'.okc.inl
          unfold U32 at tin'
          rcases hm with hm | hm
          · skip
            refine Hs.cond (o.m.kind == 94) (by kernel_rfl) (fun _ => ?_) (fun hx => absurd hx (by simp; omega))
            refine Hs.run0 300 (fun _ => by kernel_rfl) ?_
            refine Hs.cond (o.m.kind == 94) (by kernel_rfl) (fun _ => ?_) (fun hx => absurd hx (by simp; omega))
            refine Hs.run0 300 (fun _ => by kernel_rfl) ?_
            refine Hs.rung0 [1] 300 (fun _ => by kernel_rfl) ?_
            refine Hs.condP (IntKind.u64.wrap (got + IntKind.u64.wrap (o.m.data.length : Int)) > granted) (by kernel_rfl) (fun h9 => absurd h9 (by rw [wrapU64 (x := (o.m.data.length : Int)) (by omega), wrapU64 (by omega)]; omega)) (fun _ => ?_)
            refine Hs.run0 300 (fun _ => by kernel_rfl) ?_
            refine Hs.slot 27 (.c (.v (.int .i64 (i + 1 : Nat)))) rfl ((by kernel_rfl : _ = Value.int .i64 (IntKind.i64.wrap ((i : Int) + 1))).trans (wrap_next hlen)) ?_
            refine Hs.slot 7 (.c (.v (.int .u64 (got + o.m.data.length)))) rfl ((by kernel_rfl : _ = Value.int .u64 (IntKind.u64.wrap (got + IntKind.u64.wrap (o.m.data.length : Int)))).trans (congrArg (Value.int .u64) (by rw [wrapU64 (x := (o.m.data.length : Int)) (by omega), wrapU64 (by omega)]))) ?_
            refine Hs.loop (by kernel_rfl) ?_
            exact Hs.goto (loopAt Tryz.f4 0) [0] [.b true 31 (CH.sc c')] [(25, .c (.v (.slice (some ⟨ab, aoff, none⟩) ops.length ac))), (26, .c (.v (.int .i64 ops.length))), (27, .c (.v (.int .i64 (i + 1 : Nat)))), (6, .c (.v (.int .u64 (granted)))), (7, .c (.v (.int .u64 (got + o.m.data.length)))), (8, .c (.v (.bool false))), (9, .c (.v (.bool false))), (5, .c (.p 0 0))] (by kernel_rfl) (by decide) (by kernel_rfl) (by kernel_rfl) (fun _ => by kernel_rfl) (fun u => ih (i + 1) (by omega) (by omega) _ _ _ _ _ _ T' u)
          · skip
            refine Hs.cond (o.m.kind == 94) (by kernel_rfl) (fun hx => absurd hx (by simp; omega)) (fun _ => ?_)
            refine Hs.run0 300 (fun _ => by kernel_rfl) ?_
            refine Hs.cond (o.m.kind == 95) (by kernel_rfl) (fun _ => ?_) (fun hx => absurd hx (by simp; omega))
            refine Hs.run0 300 (fun _ => by kernel_rfl) ?_
            refine Hs.rung0 [1] 300 (fun _ => by kernel_rfl) ?_
            refine Hs.condP (IntKind.u64.wrap (got + IntKind.u64.wrap (o.m.data.length : Int)) > granted) (by kernel_rfl) (fun h9 => absurd h9 (by rw [wrapU64 (x := (o.m.data.length : Int)) (by omega), wrapU64 (by omega)]; omega)) (fun _ => ?_)
            refine Hs.run0 300 (fun _ => by kernel_rfl) ?_
            refine Hs.slot 27 (.c (.v (.int .i64 (i + 1 : Nat)))) rfl ((by kernel_rfl : _ = Value.int .i64 (IntKind.i64.wrap ((i : Int) + 1))).trans (wrap_next hlen)) ?_
            refine Hs.slot 7 (.c (.v (.int .u64 (got + o.m.data.length)))) rfl ((by kernel_rfl : _ = Value.int .u64 (IntKind.u64.wrap (got + IntKind.u64.wrap (o.m.data.length : Int)))).trans (congrArg (Value.int .u64) (by rw [wrapU64 (x := (o.m.data.length : Int)) (by omega), wrapU64 (by omega)]))) ?_
            refine Hs.loop (by kernel_rfl) ?_
            exact Hs.goto (loopAt Tryz.f4 0) [0] [.b true 31 (CH.sc c')] [(25, .c (.v (.slice (some ⟨ab, aoff, none⟩) ops.length ac))), (26, .c (.v (.int .i64 ops.length))), (27, .c (.v (.int .i64 (i + 1 : Nat)))), (6, .c (.v (.int .u64 (granted)))), (7, .c (.v (.int .u64 (got + o.m.data.length)))), (8, .c (.v (.bool false))), (9, .c (.v (.bool false))), (5, .c (.p 0 0))] (by kernel_rfl) (by decide) (by kernel_rfl) (by kernel_rfl) (fun _ => by kernel_rfl) (fun u => ih (i + 1) (by omega) (by omega) _ _ _ _ _ _ T' u)
        · subst he0
          refine Hs.cond (o.m.kind == 94) (by kernel_rfl) (fun hx => absurd hx (by simp; omega)) (fun _ => ?_)
          refine Hs.run0 300 (fun _ => by kernel_rfl) ?_
          refine Hs.cond (o.m.kind == 95) (by kernel_rfl) (fun hx => absurd hx (by simp; omega)) (fun _ => ?_)
          refine Hs.run0 300 (fun _ => by kernel_rfl) ?_
          refine Hs.cond (o.m.kind == 96) (by kernel_rfl) (fun _ => ?_) (fun hx => absurd hx (by simp; omega))
          refine Hs.run0 300 (fun _ => by kernel_rfl) ?_
          refine Hs.condF (by kernel_rfl) ?_
          refine Hs.run0 300 (fun _ => by kernel_rfl) ?_
          refine Hs.slot 27 (.c (.v (.int .i64 (i + 1 : Nat)))) rfl ((by kernel_rfl : _ = Value.int .i64 (IntKind.i64.wrap ((i : Int) + 1))).trans (wrap_next hlen)) ?_
          refine Hs.loop (by kernel_rfl) ?_
          exact Hs.goto (loopAt Tryz.f4 0) [0] [.b true 31 (CH.sc c')] [(25, .c (.v (.slice (some ⟨ab, aoff, none⟩) ops.length ac))), (26, .c (.v (.int .i64 ops.length))), (27, .c (.v (.int .i64 (i + 1 : Nat)))), (6, .c (.v (.int .u64 (granted)))), (7, .c (.v (.int .u64 (got)))), (8, .c (.v (.bool true))), (9, .c (.v (.bool false))), (5, .c (.p 0 0))] (by kernel_rfl) (by decide) (by kernel_rfl) (by kernel_rfl) (fun _ => by kernel_rfl) (fun u => ih (i + 1) (by omega) (by omega) _ _ _ _ _ _ T' u)
        · skip
          refine Hs.cond (o.m.kind == 94) (by kernel_rfl) (fun hx => absurd hx (by simp; omega)) (fun _ => ?_)
          refine Hs.run0 300 (fun _ => by kernel_rfl) ?_
          refine Hs.cond (o.m.kind == 95) (by kernel_rfl) (fun hx => absurd hx (by simp; omega)) (fun _ => ?_)
          refine Hs.run0 300 (fun _ => by kernel_rfl) ?_
          refine Hs.cond (o.m.kind == 96) (by kernel_rfl) (fun hx => absurd hx (by simp; omega)) (fun _ => ?_)
          refine Hs.run0 300 (fun _ => by kernel_rfl) ?_
          refine Hs.cond (o.m.kind == 97) (by kernel_rfl) (fun _ => ?_) (fun hx => absurd hx (by simp; omega))
          refine Hs.run0 300 (fun _ => by kernel_rfl) ?_
          refine Hs.slot 27 (.c (.v (.int .i64 (i + 1 : Nat)))) rfl ((by kernel_rfl : _ = Value.int .i64 (IntKind.i64.wrap ((i : Int) + 1))).trans (wrap_next hlen)) ?_
          refine Hs.loop (by kernel_rfl) ?_
          exact Hs.goto (loopAt Tryz.f4 0) [0] [.b true 31 (CH.sc c')] [(25, .c (.v (.slice (some ⟨ab, aoff, none⟩) ops.length ac))), (26, .c (.v (.int .i64 ops.length))), (27, .c (.v (.int .i64 (i + 1 : Nat)))), (6, .c (.v (.int .u64 (granted)))), (7, .c (.v (.int .u64 (got)))), (8, .c (.v (.bool eof))), (9, .c (.v (.bool true))), (5, .c (.p 0 0))] (by kernel_rfl) (by decide) (by kernel_rfl) (by kernel_rfl) (fun _ => by kernel_rfl) (fun u => ih (i + 1) (by omega) (by omega) _ _ _ _ _ _ T' u)
        · skip
          refine Hs.cond (o.m.kind == 94) (by kernel_rfl) (fun hx => absurd hx (by simp; omega)) (fun _ => ?_)
          refine Hs.run0 300 (fun _ => by kernel_rfl) ?_
          refine Hs.cond (o.m.kind == 95) (by kernel_rfl) (fun hx => absurd hx (by simp; omega)) (fun _ => ?_)
          refine Hs.run0 300 (fun _ => by kernel_rfl) ?_
          refine Hs.cond (o.m.kind == 96) (by kernel_rfl) (fun hx => absurd hx (by simp; omega)) (fun _ => ?_)
          refine Hs.run0 300 (fun _ => by kernel_rfl) ?_
          refine Hs.cond (o.m.kind == 97) (by kernel_rfl) (fun hx => absurd hx (by simp; omega)) (fun _ => ?_)
          refine Hs.run0 300 (fun _ => by kernel_rfl) ?_
          refine Hs.slot 27 (.c (.v (.int .i64 (i + 1 : Nat)))) rfl ((by kernel_rfl : _ = Value.int .i64 (IntKind.i64.wrap ((i : Int) + 1))).trans (wrap_next hlen)) ?_
          refine Hs.loop (by kernel_rfl) ?_
          exact Hs.goto (loopAt Tryz.f4 0) [0] [.b true 31 (CH.sc c')] [(25, .c (.v (.slice (some ⟨ab, aoff, none⟩) ops.length ac))), (26, .c (.v (.int .i64 ops.length))), (27, .c (.v (.int .i64 (i + 1 : Nat)))), (6, .c (.v (.int .u64 (granted)))), (7, .c (.v (.int .u64 (got)))), (8, .c (.v (.bool eof))), (9, .c (.v (.bool false))), (5, .c (.p 0 0))] (by kernel_rfl) (by decide) (by kernel_rfl) (by kernel_rfl) (fun _ => by kernel_rfl) (fun u => ih (i + 1) (by omega) (by omega) _ _ _ _ _ _ T' u)
      · rcases TS hk rfl with ⟨hk9, w1, w2, T'⟩ | ⟨hk9, T'⟩
        · have tgb' := T'.gb
          have tgr' := T'.gr
          have tg0' := T'.g0
          have tin' := T'.okc.inl
          unfold U32 at tin'
          refine Hs.cond (om.kind == 93) (by kernel_rfl) (fun _ => ?_) (fun hx => absurd hk9 (by simpa using hx))
          refine Hs.run0 300 (fun _ => by kernel_rfl) ?_
          refine Hs.cond (o.kind != 1) (by kernel_rfl) (fun _ => ?_) (fun hx => absurd (by simpa using hx) hk)
          refine Hs.run0 300 (fun _ => by kernel_rfl) ?_
          refine Hs.slot 27 (.c (.v (.int .i64 (i + 1 : Nat)))) rfl ((by kernel_rfl : _ = Value.int .i64 (IntKind.i64.wrap ((i : Int) + 1))).trans (wrap_next hlen)) ?_
          refine Hs.slot 6 (.c (.v (.int .u64 (granted + om.window)))) rfl ((by kernel_rfl : _ = Value.int .u64 (IntKind.u64.wrap (granted + IntKind.u64.wrap om.window))).trans (congrArg (Value.int .u64) (by rw [wrapU64 (x := om.window) (by omega), wrapU64 (by omega)]))) ?_
          refine Hs.loop (by kernel_rfl) ?_
          exact Hs.goto (loopAt Tryz.f4 0) [0] [.b true 31 (CH.sc c')] [(25, .c (.v (.slice (some ⟨ab, aoff, none⟩) ops.length ac))), (26, .c (.v (.int .i64 ops.length))), (27, .c (.v (.int .i64 (i + 1 : Nat)))), (6, .c (.v (.int .u64 (granted + om.window)))), (7, .c (.v (.int .u64 (got)))), (8, .c (.v (.bool eof))), (9, .c (.v (.bool closed))), (5, .c (.p 0 0))] (by kernel_rfl) (by decide) (by kernel_rfl) (by kernel_rfl) (fun _ => by kernel_rfl) (fun u => ih (i + 1) (by omega) (by omega) _ _ _ _ _ _ T' u)
        · refine Hs.cond (om.kind == 93) (by kernel_rfl) (fun hx => absurd (by simpa using hx) hk9) (fun _ => ?_)
          refine Hs.run0 300 (fun _ => by kernel_rfl) ?_
          refine Hs.cond (o.kind != 1) (by kernel_rfl) (fun _ => ?_) (fun hx => absurd (by simpa using hx) hk)
          refine Hs.run0 300 (fun _ => by kernel_rfl) ?_
          refine Hs.slot 27 (.c (.v (.int .i64 (i + 1 : Nat)))) rfl ((by kernel_rfl : _ = Value.int .i64 (IntKind.i64.wrap ((i : Int) + 1))).trans (wrap_next hlen)) ?_
          refine Hs.loop (by kernel_rfl) ?_
          exact Hs.goto (loopAt Tryz.f4 0) [0] [.b true 31 (CH.sc c')] [(25, .c (.v (.slice (some ⟨ab, aoff, none⟩) ops.length ac))), (26, .c (.v (.int .i64 ops.length))), (27, .c (.v (.int .i64 (i + 1 : Nat)))), (6, .c (.v (.int .u64 (granted)))), (7, .c (.v (.int .u64 (got)))), (8, .c (.v (.bool eof))), (9, .c (.v (.bool closed))), (5, .c (.p 0 0))] (by kernel_rfl) (by decide) (by kernel_rfl) (by kernel_rfl) (fun _ => by kernel_rfl) (fun u => ih (i + 1) (by omega) (by omega) _ _ _ _ _ _ T' u)
  refine Hs.run1 300 (fun _ => by kernel_rfl) fun b0 => ?_
  refine Hs.slot 6 (.c (.v (.int .u64 limit))) rfl ((by kernel_rfl : _ = Value.int .u64 (IntKind.u64.wrap limit)).trans (congrArg (Value.int .u64) (wrapU64 (by unfold U32 at hl; omega)))) ?_
  refine Hs.loop (by kernel_rfl) ?_
  exact Hs.goto (loopAt Tryz.f4 0) [0] [.b true 31 (CH.sc ⟨0, 0, 0, 0, limit, limit, false, false, false, false, 0, false⟩)] [(25, .c (.v (.slice A ops.length ac))), (26, .c (.v (.int .i64 ops.length))), (27, .c (.v (.int .i64 (0 : Nat)))), (6, .c (.v (.int .u64 (limit)))), (7, .c (.v (.int .u64 (0)))), (8, .c (.v (.bool false))), (9, .c (.v (.bool false))), (5, .c (.p 0 0))] (by kernel_rfl) (by decide) (by kernel_rfl) (by kernel_rfl) (fun _ => by kernel_rfl) (fun u => J _ 0 rfl (by omega) _ _ _ _ _ _ (by
    have hz : U32 0 := by unfold U32; decide
    refine ⟨⟨hz, hz, hz, hz, hl, hl, by simp⟩, by simp, by decide, ?_, rfl, rfl, by simp⟩
    unfold U32 at hl; omega) u)
end Go.Proofs.YtpojfcpeibnohaaGreatDoor

/- Layer 25: ChannelTrace: what a channel sends, whatever steps it takes, for all steps; no condition. -/
import Derived.Test.YtpojfcpeibnohaaGreatDoorChL
import Derived.Test.YtpojfcpeibnohaaGreatDoorChM
namespace Go.Proofs.YtpojfcpeibnohaaGreatDoor
set_option linter.all false
set_option maxRecDepth 100000
open Go.RowKit

set_option maxHeartbeats 2000000 in
theorem trace_walk (left packet : Int) (ops : List OPD) (A : Option Addr) (ac : Nat) (w : World) (hl : U32 left) (hp : U32 packet) (hr : RdX OPD.cells w A ops) (hlen : ops.length ≤ maxLen) (hok : ∀ o ∈ ops, o.ok w) : Calls Tryz.prog 3 #[.int .u32 left, .int .u32 packet, .slice A ops.length ac] w fun e w' => e = .returned (.bool true) ∧ Only [] w w' := by
  refine Hs.enter Tryz.func3 [] [] [] [.c (.v (.int .u32 left)), .c (.v (.int .u32 packet)), .c (.v (.slice A ops.length ac))] (Mem.start0 w) (by kernel_rfl) (by kernel_rfl) ?_
  refine Hs.run0 300 (fun _ => by kernel_rfl) ?_
  refine Hs.callV (fun w' _ => alive25_any w') (by kernel_rfl) ?_
  refine Hs.run0 300 (fun _ => by kernel_rfl) ?_
  refine Hs.condF (by kernel_rfl) ?_
  refine Hs.run0 300 (fun _ => by kernel_rfl) ?_
  refine Hs.callX (X := Bool) (fun b => .bool b) (fun b => b = false → Fit ops) (fun w' H => (great25_any ops A ac w' (hr.only H.only) hlen).mono (by
    rintro e w2 ⟨b, rfl, O, hb⟩
    exact ⟨b, rfl, O, hb⟩)) (by kernel_rfl) fun g hg => ?_
  refine Hs.run0 300 (fun _ => by kernel_rfl) ?_
  refine Hs.cond g (by kernel_rfl) (fun h1 => ?_) (fun h1 => ?_)
  · refine Hs.run0 300 (fun _ => by kernel_rfl) ?_
    exact Hs.ret (v := .bool true) Tryz.func3 (by kernel_rfl) fun w' H => ⟨rfl, H.only⟩
  obtain ⟨h100, hsm⟩ := hg h1
  clear h1
  have J : ∀ (d i : Nat), ops.length - i = d → i ≤ ops.length → ∀ (b : Nat) (c : CH) (granted sent wanted answered told : Int) (eof closed : Bool), TI packet c granted sent wanted answered told eof closed i → ∀ (u : Nat → Value), Hs Tryz.prog 3 (fun e w' => e = .returned (.bool true) ∧ Only [] w w') (Tryz.f3).ntmps w [] [b] ⟨.no, loopAt Tryz.f3 0, pins [(1, .c (.v (.int .u32 packet))), (30, .c (.v (.slice A ops.length ac))), (31, .c (.v (.int .i64 ops.length))), (32, .c (.v (.int .i64 (i : Nat)))), (8, .c (.v (.int .u64 (granted)))), (9, .c (.v (.int .u64 (sent)))), (10, .c (.v (.int .i64 (wanted)))), (11, .c (.v (.int .i64 (answered)))), (12, .c (.v (.int .i64 (told)))), (13, .c (.v (.bool eof))), (14, .c (.v (.bool closed))), (7, .c (.p 0 0))] (.vals u), [.b true 31 c.sc]⟩ := by
    intro d
    induction d with
    | zero =>
      intro i hd hi b c granted sent wanted answered told eof closed T u
      refine Hs.run0 300 (fun _ => by kernel_rfl) ?_
      refine Hs.condP ((i : Int) < (ops.length : Int)) (by kernel_rfl) (fun h => by omega) (fun h => ?_)
      refine Hs.run0 300 (fun _ => by kernel_rfl) ?_
      exact Hs.ret (v := .bool true) Tryz.func3 (by kernel_rfl) fun w' H => ⟨rfl, H.only⟩
    | succ d ih =>
      intro i hd hi b c granted sent wanted answered told eof closed T u
      have hil : i < ops.length := by omega
      have hi100 : i < 100 := by omega
      have hx : ops[i]? = some (ops[i]'hil) := List.getElem?_eq_getElem hil
      obtain ⟨o, ho⟩ : ∃ o, o = ops[i]'hil := ⟨_, rfl⟩
      have hmem : o ∈ ops := by rw [ho]; exact List.getElem_mem hil
      rw [← ho] at hx
      clear ho
      have hoo := hok o hmem
      have hos := hsm o hmem
      have tgb := T.gb
      have tgr := T.gr
      have ts0 := T.s0
      have tw0 := T.w0
      have ttb := T.tb
      have tle := T.okc.left
      unfold U32 at tle
      have hnum := hoo.m.nums.2.2.1
      unfold U32 at hnum
      refine Hs.run0 300 (fun _ => by kernel_rfl) ?_
      refine Hs.condP ((i : Int) < (ops.length : Int)) (by kernel_rfl) (fun h => ?_) (fun h => by omega)
      refine Hs.run0 300 (fun _ => by kernel_rfl) ?_
      obtain ⟨ab, aoff, hA, _, _⟩ := hr (by omega)
      subst hA
      refine Hs.idx (b := ab) (off := aoff) (c := ac) elemOp hil (by kernel_rfl) ?_
      refine Hs.ldx (E := 41) (b := ab) (off := aoff) (i := i) opd_len (.g o.sc) (by kernel_rfl) (fun w' H => hr.only H.only) hx (by kernel_rfl) (by kernel_rfl) (by kernel_rfl) (by kernel_rfl) ?_
      refine Hs.run1 300 (fun _ => by kernel_rfl) fun b1 => ?_
      have DO := fun w' (H : Only [] w w') => chDo_any c o w' T.okc (hoo.only H) hos
      have TR := fun hk he => T.recv hi100 hoo hk he
      have TS := fun hk he => T.sends hi100 hoo hk he
      have DE := do_err (c := c) (o := o)
      obtain ⟨r, hre⟩ : ∃ r, r = doC c o := ⟨_, rfl⟩
      rw [← hre] at DO TR TS DE
      clear hre
      obtain ⟨c', ⟨kind, chan, window, code, name, data⟩, E⟩ := r
      dsimp only at TR TS DE
      refine Hs.callQ (X := Option Addr × Nat) (fun x => aoB data x.1) (fun x => .tuple #[c'.val, omV ⟨kind, chan, window, code, name, data⟩ x.1 x.2, .int .i64 E]) (fun x w' => Bs w' w.heap.size x.1 data x.2) (fun x => bs_st) (fun w' H => stepO_q H.only.size (DO w' H.only)) (by kernel_rfl) (by kernel_rfl) fun x => ?_
      refine Hs.run2 300 (fun _ => by kernel_rfl) fun b3 b4 => ?_
      refine Hs.cond (E != 0) (by kernel_rfl) (fun he => ?_) (fun he => ?_)
      · have he : E ≠ 0 := by simpa using he
        have hcc := DE he
        subst hcc
        refine Hs.run0 300 (fun _ => by kernel_rfl) ?_
        refine Hs.slot 32 (.c (.v (.int .i64 (i + 1 : Nat)))) rfl ((by kernel_rfl : _ = Value.int .i64 (IntKind.i64.wrap ((i : Int) + 1))).trans (wrap_next hlen)) ?_
        refine Hs.loop (by kernel_rfl) ?_
        exact Hs.goto (loopAt Tryz.f3 0) [0] [.b true 31 (CH.sc c')] [(1, .c (.v (.int .u32 packet))), (30, .c (.v (.slice (some ⟨ab, aoff, none⟩) ops.length ac))), (31, .c (.v (.int .i64 ops.length))), (32, .c (.v (.int .i64 (i + 1 : Nat)))), (8, .c (.v (.int .u64 (granted)))), (9, .c (.v (.int .u64 (sent)))), (10, .c (.v (.int .i64 (wanted)))), (11, .c (.v (.int .i64 (answered)))), (12, .c (.v (.int .i64 (told)))), (13, .c (.v (.bool eof))), (14, .c (.v (.bool closed))), (7, .c (.p 0 0))] (by kernel_rfl) (by decide) (by kernel_rfl) (by kernel_rfl) (fun _ => by kernel_rfl) (fun u => ih (i + 1) (by omega) (by omega) _ _ _ _ _ _ _ _ _ T.next u)
      have he : E = 0 := by simpa using he
      subst he
      refine Hs.run0 300 (fun _ => by kernel_rfl) ?_
      refine Hs.cond (o.kind == 1) (by kernel_rfl) (fun hk => ?_) (fun hk => ?_)
      · have hk : o.kind = 1 := by simpa using hk
        have T' := TR hk rfl
        have tgb' := T'.gb
        have tw' := T'.w0
        refine Hs.run0 300 (fun _ => by kernel_rfl) ?_
        refine Hs.cond (o.m.kind == 93) (by kernel_rfl) (fun k93 => ?_) (fun k93 => ?_)
        · have k93 : o.m.kind = 93 := by simpa using k93
          rw [if_pos k93, if_neg (by omega), Int.add_zero] at T'
          refine Hs.run0 300 (fun _ => by kernel_rfl) ?_
          refine Hs.bool 63 (o.m.kind == 98) (by kernel_rfl) (fun h9 => absurd h9 (by simp; omega)) (fun _ => ?_)
          refine Hs.rung0 [4] 300 (fun _ => by kernel_rfl) ?_
          refine Hs.condF (by kernel_rfl) ?_
          refine Hs.run0 300 (fun _ => by kernel_rfl) ?_
          refine Hs.slot 32 (.c (.v (.int .i64 (i + 1 : Nat)))) rfl ((by kernel_rfl : _ = Value.int .i64 (IntKind.i64.wrap ((i : Int) + 1))).trans (wrap_next hlen)) ?_
          refine Hs.slot 8 (.c (.v (.int .u64 (granted + o.m.window)))) rfl ((by kernel_rfl : _ = Value.int .u64 (IntKind.u64.wrap (granted + IntKind.u64.wrap o.m.window))).trans (congrArg (Value.int .u64) (by rw [wrapU64 (x := o.m.window) (by omega), wrapU64 (by omega)]))) ?_
          refine Hs.loop (by kernel_rfl) ?_
          exact Hs.goto (loopAt Tryz.f3 0) [0] [.b true 31 (CH.sc c')] [(1, .c (.v (.int .u32 packet))), (30, .c (.v (.slice (some ⟨ab, aoff, none⟩) ops.length ac))), (31, .c (.v (.int .i64 ops.length))), (32, .c (.v (.int .i64 (i + 1 : Nat)))), (8, .c (.v (.int .u64 (granted + o.m.window)))), (9, .c (.v (.int .u64 (sent)))), (10, .c (.v (.int .i64 (wanted)))), (11, .c (.v (.int .i64 (answered)))), (12, .c (.v (.int .i64 (told)))), (13, .c (.v (.bool eof))), (14, .c (.v (.bool closed))), (7, .c (.p 0 0))] (by kernel_rfl) (by decide) (by kernel_rfl) (by kernel_rfl) (fun _ => by kernel_rfl) (fun u => ih (i + 1) (by omega) (by omega) _ _ _ _ _ _ _ _ _ T' u)
        · have k93 : ¬ o.m.kind = 93 := by simpa using k93
          rw [if_neg k93, Int.add_zero] at T'
          refine Hs.run0 300 (fun _ => by kernel_rfl) ?_
          refine Hs.bool 63 (o.m.kind == 98) (by kernel_rfl) (fun k98 => ?_) (fun k98 => ?_)
          · have k98 : o.m.kind = 98 := by simpa using k98
            refine Hs.rung0 [4] 300 (fun _ => by kernel_rfl) ?_
            refine Hs.cond o.m.want (by kernel_rfl) (fun hw => ?_) (fun hw => ?_)
            · rw [if_pos ⟨k98, hw⟩] at T'
              refine Hs.run0 300 (fun _ => by kernel_rfl) ?_
              refine Hs.slot 32 (.c (.v (.int .i64 (i + 1 : Nat)))) rfl ((by kernel_rfl : _ = Value.int .i64 (IntKind.i64.wrap ((i : Int) + 1))).trans (wrap_next hlen)) ?_
              refine Hs.slot 10 (.c (.v (.int .i64 (wanted + 1)))) rfl ((by kernel_rfl : _ = Value.int .i64 (IntKind.i64.wrap (wanted + 1))).trans (congrArg (Value.int .i64) (wrapI64 (by omega)))) ?_
              refine Hs.loop (by kernel_rfl) ?_
              exact Hs.goto (loopAt Tryz.f3 0) [0] [.b true 31 (CH.sc c')] [(1, .c (.v (.int .u32 packet))), (30, .c (.v (.slice (some ⟨ab, aoff, none⟩) ops.length ac))), (31, .c (.v (.int .i64 ops.length))), (32, .c (.v (.int .i64 (i + 1 : Nat)))), (8, .c (.v (.int .u64 (granted)))), (9, .c (.v (.int .u64 (sent)))), (10, .c (.v (.int .i64 (wanted + 1)))), (11, .c (.v (.int .i64 (answered)))), (12, .c (.v (.int .i64 (told)))), (13, .c (.v (.bool eof))), (14, .c (.v (.bool closed))), (7, .c (.p 0 0))] (by kernel_rfl) (by decide) (by kernel_rfl) (by kernel_rfl) (fun _ => by kernel_rfl) (fun u => ih (i + 1) (by omega) (by omega) _ _ _ _ _ _ _ _ _ T' u)
            · rw [if_neg (fun hx => by rw [hw] at hx; cases hx.2), Int.add_zero] at T'
              refine Hs.run0 300 (fun _ => by kernel_rfl) ?_
              refine Hs.slot 32 (.c (.v (.int .i64 (i + 1 : Nat)))) rfl ((by kernel_rfl : _ = Value.int .i64 (IntKind.i64.wrap ((i : Int) + 1))).trans (wrap_next hlen)) ?_
              refine Hs.loop (by kernel_rfl) ?_
              exact Hs.goto (loopAt Tryz.f3 0) [0] [.b true 31 (CH.sc c')] [(1, .c (.v (.int .u32 packet))), (30, .c (.v (.slice (some ⟨ab, aoff, none⟩) ops.length ac))), (31, .c (.v (.int .i64 ops.length))), (32, .c (.v (.int .i64 (i + 1 : Nat)))), (8, .c (.v (.int .u64 (granted)))), (9, .c (.v (.int .u64 (sent)))), (10, .c (.v (.int .i64 (wanted)))), (11, .c (.v (.int .i64 (answered)))), (12, .c (.v (.int .i64 (told)))), (13, .c (.v (.bool eof))), (14, .c (.v (.bool closed))), (7, .c (.p 0 0))] (by kernel_rfl) (by decide) (by kernel_rfl) (by kernel_rfl) (fun _ => by kernel_rfl) (fun u => ih (i + 1) (by omega) (by omega) _ _ _ _ _ _ _ _ _ T' u)
          · have k98 : ¬ o.m.kind = 98 := by simpa using k98
            rw [if_neg (fun hx => k98 hx.1), Int.add_zero] at T'
            refine Hs.rung0 [4] 300 (fun _ => by kernel_rfl) ?_
            refine Hs.condF (by kernel_rfl) ?_
            refine Hs.run0 300 (fun _ => by kernel_rfl) ?_
            refine Hs.slot 32 (.c (.v (.int .i64 (i + 1 : Nat)))) rfl ((by kernel_rfl : _ = Value.int .i64 (IntKind.i64.wrap ((i : Int) + 1))).trans (wrap_next hlen)) ?_
            refine Hs.loop (by kernel_rfl) ?_
            exact Hs.goto (loopAt Tryz.f3 0) [0] [.b true 31 (CH.sc c')] [(1, .c (.v (.int .u32 packet))), (30, .c (.v (.slice (some ⟨ab, aoff, none⟩) ops.length ac))), (31, .c (.v (.int .i64 ops.length))), (32, .c (.v (.int .i64 (i + 1 : Nat)))), (8, .c (.v (.int .u64 (granted)))), (9, .c (.v (.int .u64 (sent)))), (10, .c (.v (.int .i64 (wanted)))), (11, .c (.v (.int .i64 (answered)))), (12, .c (.v (.int .i64 (told)))), (13, .c (.v (.bool eof))), (14, .c (.v (.bool closed))), (7, .c (.p 0 0))] (by kernel_rfl) (by decide) (by kernel_rfl) (by kernel_rfl) (fun _ => by kernel_rfl) (fun u => ih (i + 1) (by omega) (by omega) _ _ _ _ _ _ _ _ _ T' u)
      have hk : o.kind ≠ 1 := by simpa using hk
      have S := TS hk rfl
      refine Hs.run0 300 (fun _ => by kernel_rfl) ?_
      have S := S.or
      dsimp only at S
      rcases S with ⟨hk0, T'⟩ | ⟨hk0, hc0, he0, hl0, hl2, T'⟩ | ⟨hk0, hc0, he0, T'⟩ | ⟨hk0, hc0, he0, T'⟩ | ⟨hk0, hc0, T'⟩ | ⟨hk0, hc0, hn0, T'⟩ | ⟨hk0, hc0, T'⟩
      · subst hk0
        refine Hs.condT (by kernel_rfl) ?_
        refine Hs.run0 300 (fun _ => by kernel_rfl) ?_
        refine Hs.slot 32 (.c (.v (.int .i64 (i + 1 : Nat)))) rfl ((by kernel_rfl : _ = Value.int .i64 (IntKind.i64.wrap ((i : Int) + 1))).trans (wrap_next hlen)) ?_
        refine Hs.loop (by kernel_rfl) ?_
        exact Hs.goto (loopAt Tryz.f3 0) [0] [.b true 31 (CH.sc c')] [(1, .c (.v (.int .u32 packet))), (30, .c (.v (.slice (some ⟨ab, aoff, none⟩) ops.length ac))), (31, .c (.v (.int .i64 ops.length))), (32, .c (.v (.int .i64 (i + 1 : Nat)))), (8, .c (.v (.int .u64 (granted)))), (9, .c (.v (.int .u64 (sent)))), (10, .c (.v (.int .i64 (wanted)))), (11, .c (.v (.int .i64 (answered)))), (12, .c (.v (.int .i64 (told)))), (13, .c (.v (.bool eof))), (14, .c (.v (.bool closed))), (7, .c (.p 0 0))] (by kernel_rfl) (by decide) (by kernel_rfl) (by kernel_rfl) (fun _ => by kernel_rfl) (fun u => ih (i + 1) (by omega) (by omega) _ _ _ _ _ _ _ _ _ T' u)
      · subst hc0; subst he0
        have tgr' := T'.gr
        have tle' := T'.okc.left
        unfold U32 at tle'
        unfold U32 at hp
        rcases hk0 with hk0 | hk0 <;> subst hk0
        · skip
          refine Hs.condF (by kernel_rfl) ?_
          refine Hs.run0 300 (fun _ => by kernel_rfl) ?_
          refine Hs.condF (by kernel_rfl) ?_
          refine Hs.run0 300 (fun _ => by kernel_rfl) ?_
          refine Hs.condT (by kernel_rfl) ?_
          refine Hs.run0 300 (fun _ => by kernel_rfl) ?_
          refine Hs.condT (by kernel_rfl) ?_
          refine Hs.run0 300 (fun _ => by kernel_rfl) ?_
          refine Hs.rung0 [1] 300 (fun _ => by kernel_rfl) ?_
          refine Hs.bool 94 (decide (IntKind.u32.wrap (data.length : Int) > packet)) (by kernel_rfl) (fun h9 => absurd (of_decide_eq_true h9) (by rw [wrapU32 (by omega)]; omega)) (fun _ => ?_)
          refine Hs.rung0 [1, 9] 300 (fun _ => by kernel_rfl) ?_
          refine Hs.condP (IntKind.u64.wrap (sent + IntKind.u64.wrap (data.length : Int)) > granted) (by kernel_rfl) (fun h9 => absurd h9 (by rw [wrapU64 (x := (data.length : Int)) (by omega), wrapU64 (by omega)]; omega)) (fun _ => ?_)
          refine Hs.run0 300 (fun _ => by kernel_rfl) ?_
          refine Hs.slot 32 (.c (.v (.int .i64 (i + 1 : Nat)))) rfl ((by kernel_rfl : _ = Value.int .i64 (IntKind.i64.wrap ((i : Int) + 1))).trans (wrap_next hlen)) ?_
          refine Hs.slot 9 (.c (.v (.int .u64 (sent + data.length)))) rfl ((by kernel_rfl : _ = Value.int .u64 (IntKind.u64.wrap (sent + IntKind.u64.wrap (data.length : Int)))).trans (congrArg (Value.int .u64) (by rw [wrapU64 (x := (data.length : Int)) (by omega), wrapU64 (by omega)]))) ?_
          refine Hs.loop (by kernel_rfl) ?_
          exact Hs.goto (loopAt Tryz.f3 0) [0] [.b true 31 (CH.sc c')] [(1, .c (.v (.int .u32 packet))), (30, .c (.v (.slice (some ⟨ab, aoff, none⟩) ops.length ac))), (31, .c (.v (.int .i64 ops.length))), (32, .c (.v (.int .i64 (i + 1 : Nat)))), (8, .c (.v (.int .u64 (granted)))), (9, .c (.v (.int .u64 (sent + data.length)))), (10, .c (.v (.int .i64 (wanted)))), (11, .c (.v (.int .i64 (answered)))), (12, .c (.v (.int .i64 (told)))), (13, .c (.v (.bool false))), (14, .c (.v (.bool false))), (7, .c (.p 0 0))] (by kernel_rfl) (by decide) (by kernel_rfl) (by kernel_rfl) (fun _ => by kernel_rfl) (fun u => ih (i + 1) (by omega) (by omega) _ _ _ _ _ _ _ _ _ T' u)
        · skip
          refine Hs.condF (by kernel_rfl) ?_
          refine Hs.run0 300 (fun _ => by kernel_rfl) ?_
          refine Hs.condF (by kernel_rfl) ?_
          refine Hs.run0 300 (fun _ => by kernel_rfl) ?_
          refine Hs.condF (by kernel_rfl) ?_
          refine Hs.run0 300 (fun _ => by kernel_rfl) ?_
          refine Hs.condT (by kernel_rfl) ?_
          refine Hs.run0 300 (fun _ => by kernel_rfl) ?_
          refine Hs.rung0 [1] 300 (fun _ => by kernel_rfl) ?_
          refine Hs.bool 94 (decide (IntKind.u32.wrap (data.length : Int) > packet)) (by kernel_rfl) (fun h9 => absurd (of_decide_eq_true h9) (by rw [wrapU32 (by omega)]; omega)) (fun _ => ?_)
          refine Hs.rung0 [1, 9] 300 (fun _ => by kernel_rfl) ?_
          refine Hs.condP (IntKind.u64.wrap (sent + IntKind.u64.wrap (data.length : Int)) > granted) (by kernel_rfl) (fun h9 => absurd h9 (by rw [wrapU64 (x := (data.length : Int)) (by omega), wrapU64 (by omega)]; omega)) (fun _ => ?_)
          refine Hs.run0 300 (fun _ => by kernel_rfl) ?_
          refine Hs.slot 32 (.c (.v (.int .i64 (i + 1 : Nat)))) rfl ((by kernel_rfl : _ = Value.int .i64 (IntKind.i64.wrap ((i : Int) + 1))).trans (wrap_next hlen)) ?_
          refine Hs.slot 9 (.c (.v (.int .u64 (sent + data.length)))) rfl ((by kernel_rfl : _ = Value.int .u64 (IntKind.u64.wrap (sent + IntKind.u64.wrap (data.length : Int)))).trans (congrArg (Value.int .u64) (by rw [wrapU64 (x := (data.length : Int)) (by omega), wrapU64 (by omega)]))) ?_
          refine Hs.loop (by kernel_rfl) ?_
          exact Hs.goto (loopAt Tryz.f3 0) [0] [.b true 31 (CH.sc c')] [(1, .c (.v (.int .u32 packet))), (30, .c (.v (.slice (some ⟨ab, aoff, none⟩) ops.length ac))), (31, .c (.v (.int .i64 ops.length))), (32, .c (.v (.int .i64 (i + 1 : Nat)))), (8, .c (.v (.int .u64 (granted)))), (9, .c (.v (.int .u64 (sent + data.length)))), (10, .c (.v (.int .i64 (wanted)))), (11, .c (.v (.int .i64 (answered)))), (12, .c (.v (.int .i64 (told)))), (13, .c (.v (.bool false))), (14, .c (.v (.bool false))), (7, .c (.p 0 0))] (by kernel_rfl) (by decide) (by kernel_rfl) (by kernel_rfl) (fun _ => by kernel_rfl) (fun u => ih (i + 1) (by omega) (by omega) _ _ _ _ _ _ _ _ _ T' u)
      · subst hc0; subst he0; subst hk0
        refine Hs.condF (by kernel_rfl) ?_
        refine Hs.run0 300 (fun _ => by kernel_rfl) ?_
        refine Hs.condF (by kernel_rfl) ?_
        refine Hs.run0 300 (fun _ => by kernel_rfl) ?_
        refine Hs.condF (by kernel_rfl) ?_
        refine Hs.run0 300 (fun _ => by kernel_rfl) ?_
        refine Hs.condF (by kernel_rfl) ?_
        refine Hs.run0 300 (fun _ => by kernel_rfl) ?_
        refine Hs.condT (by kernel_rfl) ?_
        refine Hs.run0 300 (fun _ => by kernel_rfl) ?_
        refine Hs.condF (by kernel_rfl) ?_
        refine Hs.run0 300 (fun _ => by kernel_rfl) ?_
        refine Hs.slot 32 (.c (.v (.int .i64 (i + 1 : Nat)))) rfl ((by kernel_rfl : _ = Value.int .i64 (IntKind.i64.wrap ((i : Int) + 1))).trans (wrap_next hlen)) ?_
        refine Hs.loop (by kernel_rfl) ?_
        exact Hs.goto (loopAt Tryz.f3 0) [0] [.b true 31 (CH.sc c')] [(1, .c (.v (.int .u32 packet))), (30, .c (.v (.slice (some ⟨ab, aoff, none⟩) ops.length ac))), (31, .c (.v (.int .i64 ops.length))), (32, .c (.v (.int .i64 (i + 1 : Nat)))), (8, .c (.v (.int .u64 (granted)))), (9, .c (.v (.int .u64 (sent)))), (10, .c (.v (.int .i64 (wanted)))), (11, .c (.v (.int .i64 (answered)))), (12, .c (.v (.int .i64 (told)))), (13, .c (.v (.bool true))), (14, .c (.v (.bool false))), (7, .c (.p 0 0))] (by kernel_rfl) (by decide) (by kernel_rfl) (by kernel_rfl) (fun _ => by kernel_rfl) (fun u => ih (i + 1) (by omega) (by omega) _ _ _ _ _ _ _ _ _ T' u)
      · subst hc0; subst hk0
        refine Hs.condF (by kernel_rfl) ?_
        refine Hs.run0 300 (fun _ => by kernel_rfl) ?_
        refine Hs.condF (by kernel_rfl) ?_
        refine Hs.run0 300 (fun _ => by kernel_rfl) ?_
        refine Hs.condF (by kernel_rfl) ?_
        refine Hs.run0 300 (fun _ => by kernel_rfl) ?_
        refine Hs.condF (by kernel_rfl) ?_
        refine Hs.run0 300 (fun _ => by kernel_rfl) ?_
        refine Hs.condF (by kernel_rfl) ?_
        refine Hs.run0 300 (fun _ => by kernel_rfl) ?_
        refine Hs.condT (by kernel_rfl) ?_
        refine Hs.run0 300 (fun _ => by kernel_rfl) ?_
        refine Hs.cond (answered != wanted) (by kernel_rfl) (fun h9 => absurd he0 (by simpa using h9)) (fun _ => ?_)
        refine Hs.run0 300 (fun _ => by kernel_rfl) ?_
        refine Hs.slot 32 (.c (.v (.int .i64 (i + 1 : Nat)))) rfl ((by kernel_rfl : _ = Value.int .i64 (IntKind.i64.wrap ((i : Int) + 1))).trans (wrap_next hlen)) ?_
        refine Hs.loop (by kernel_rfl) ?_
        exact Hs.goto (loopAt Tryz.f3 0) [0] [.b true 31 (CH.sc c')] [(1, .c (.v (.int .u32 packet))), (30, .c (.v (.slice (some ⟨ab, aoff, none⟩) ops.length ac))), (31, .c (.v (.int .i64 ops.length))), (32, .c (.v (.int .i64 (i + 1 : Nat)))), (8, .c (.v (.int .u64 (granted)))), (9, .c (.v (.int .u64 (sent)))), (10, .c (.v (.int .i64 (wanted)))), (11, .c (.v (.int .i64 (answered)))), (12, .c (.v (.int .i64 (told)))), (13, .c (.v (.bool eof))), (14, .c (.v (.bool true))), (7, .c (.p 0 0))] (by kernel_rfl) (by decide) (by kernel_rfl) (by kernel_rfl) (fun _ => by kernel_rfl) (fun u => ih (i + 1) (by omega) (by omega) _ _ _ _ _ _ _ _ _ T' u)
      · subst hc0
        have tw' := T'.w0
        rcases hk0 with hk0 | hk0 <;> subst hk0
        · skip
          refine Hs.condF (by kernel_rfl) ?_
          refine Hs.run0 300 (fun _ => by kernel_rfl) ?_
          refine Hs.condF (by kernel_rfl) ?_
          refine Hs.run0 300 (fun _ => by kernel_rfl) ?_
          refine Hs.condF (by kernel_rfl) ?_
          refine Hs.run0 300 (fun _ => by kernel_rfl) ?_
          refine Hs.condF (by kernel_rfl) ?_
          refine Hs.run0 300 (fun _ => by kernel_rfl) ?_
          refine Hs.condF (by kernel_rfl) ?_
          refine Hs.run0 300 (fun _ => by kernel_rfl) ?_
          refine Hs.condF (by kernel_rfl) ?_
          refine Hs.run0 300 (fun _ => by kernel_rfl) ?_
          refine Hs.condT (by kernel_rfl) ?_
          refine Hs.run0 300 (fun _ => by kernel_rfl) ?_
          refine Hs.condT (by kernel_rfl) ?_
          refine Hs.run0 300 (fun _ => by kernel_rfl) ?_
          refine Hs.condP (IntKind.i64.wrap (answered + 1) > wanted) (by kernel_rfl) (fun h9 => absurd h9 (by rw [wrapI64 (by omega)]; omega)) (fun _ => ?_)
          refine Hs.run0 300 (fun _ => by kernel_rfl) ?_
          refine Hs.slot 32 (.c (.v (.int .i64 (i + 1 : Nat)))) rfl ((by kernel_rfl : _ = Value.int .i64 (IntKind.i64.wrap ((i : Int) + 1))).trans (wrap_next hlen)) ?_
          refine Hs.slot 11 (.c (.v (.int .i64 (answered + 1)))) rfl ((by kernel_rfl : _ = Value.int .i64 (IntKind.i64.wrap (answered + 1))).trans (congrArg (Value.int .i64) (wrapI64 (by omega)))) ?_
          refine Hs.loop (by kernel_rfl) ?_
          exact Hs.goto (loopAt Tryz.f3 0) [0] [.b true 31 (CH.sc c')] [(1, .c (.v (.int .u32 packet))), (30, .c (.v (.slice (some ⟨ab, aoff, none⟩) ops.length ac))), (31, .c (.v (.int .i64 ops.length))), (32, .c (.v (.int .i64 (i + 1 : Nat)))), (8, .c (.v (.int .u64 (granted)))), (9, .c (.v (.int .u64 (sent)))), (10, .c (.v (.int .i64 (wanted)))), (11, .c (.v (.int .i64 (answered + 1)))), (12, .c (.v (.int .i64 (told)))), (13, .c (.v (.bool eof))), (14, .c (.v (.bool false))), (7, .c (.p 0 0))] (by kernel_rfl) (by decide) (by kernel_rfl) (by kernel_rfl) (fun _ => by kernel_rfl) (fun u => ih (i + 1) (by omega) (by omega) _ _ _ _ _ _ _ _ _ T' u)
        · skip
          refine Hs.condF (by kernel_rfl) ?_
          refine Hs.run0 300 (fun _ => by kernel_rfl) ?_
          refine Hs.condF (by kernel_rfl) ?_
          refine Hs.run0 300 (fun _ => by kernel_rfl) ?_
          refine Hs.condF (by kernel_rfl) ?_
          refine Hs.run0 300 (fun _ => by kernel_rfl) ?_
          refine Hs.condF (by kernel_rfl) ?_
          refine Hs.run0 300 (fun _ => by kernel_rfl) ?_
          refine Hs.condF (by kernel_rfl) ?_
          refine Hs.run0 300 (fun _ => by kernel_rfl) ?_
          refine Hs.condF (by kernel_rfl) ?_
          refine Hs.run0 300 (fun _ => by kernel_rfl) ?_
          refine Hs.condF (by kernel_rfl) ?_
          refine Hs.run0 300 (fun _ => by kernel_rfl) ?_
          refine Hs.condT (by kernel_rfl) ?_
          refine Hs.run0 300 (fun _ => by kernel_rfl) ?_
          refine Hs.condP (IntKind.i64.wrap (answered + 1) > wanted) (by kernel_rfl) (fun h9 => absurd h9 (by rw [wrapI64 (by omega)]; omega)) (fun _ => ?_)
          refine Hs.run0 300 (fun _ => by kernel_rfl) ?_
          refine Hs.slot 32 (.c (.v (.int .i64 (i + 1 : Nat)))) rfl ((by kernel_rfl : _ = Value.int .i64 (IntKind.i64.wrap ((i : Int) + 1))).trans (wrap_next hlen)) ?_
          refine Hs.slot 11 (.c (.v (.int .i64 (answered + 1)))) rfl ((by kernel_rfl : _ = Value.int .i64 (IntKind.i64.wrap (answered + 1))).trans (congrArg (Value.int .i64) (wrapI64 (by omega)))) ?_
          refine Hs.loop (by kernel_rfl) ?_
          exact Hs.goto (loopAt Tryz.f3 0) [0] [.b true 31 (CH.sc c')] [(1, .c (.v (.int .u32 packet))), (30, .c (.v (.slice (some ⟨ab, aoff, none⟩) ops.length ac))), (31, .c (.v (.int .i64 ops.length))), (32, .c (.v (.int .i64 (i + 1 : Nat)))), (8, .c (.v (.int .u64 (granted)))), (9, .c (.v (.int .u64 (sent)))), (10, .c (.v (.int .i64 (wanted)))), (11, .c (.v (.int .i64 (answered + 1)))), (12, .c (.v (.int .i64 (told)))), (13, .c (.v (.bool eof))), (14, .c (.v (.bool false))), (7, .c (.p 0 0))] (by kernel_rfl) (by decide) (by kernel_rfl) (by kernel_rfl) (fun _ => by kernel_rfl) (fun u => ih (i + 1) (by omega) (by omega) _ _ _ _ _ _ _ _ _ T' u)
      · subst hc0; subst hk0
        have ttb' := T'.tb
        rcases hn0 with hn0 | hn0 <;> subst hn0
        · skip
          refine Hs.condF (by kernel_rfl) ?_
          refine Hs.run0 300 (fun _ => by kernel_rfl) ?_
          refine Hs.condF (by kernel_rfl) ?_
          refine Hs.run0 300 (fun _ => by kernel_rfl) ?_
          refine Hs.condF (by kernel_rfl) ?_
          refine Hs.run0 300 (fun _ => by kernel_rfl) ?_
          refine Hs.condF (by kernel_rfl) ?_
          refine Hs.run0 300 (fun _ => by kernel_rfl) ?_
          refine Hs.condF (by kernel_rfl) ?_
          refine Hs.run0 300 (fun _ => by kernel_rfl) ?_
          refine Hs.condF (by kernel_rfl) ?_
          refine Hs.run0 300 (fun _ => by kernel_rfl) ?_
          refine Hs.condF (by kernel_rfl) ?_
          refine Hs.run0 300 (fun _ => by kernel_rfl) ?_
          refine Hs.condF (by kernel_rfl) ?_
          refine Hs.run0 300 (fun _ => by kernel_rfl) ?_
          refine Hs.condT (by kernel_rfl) ?_
          refine Hs.run0 300 (fun _ => by kernel_rfl) ?_
          refine Hs.rung0 [2, 6] 300 (fun _ => by kernel_rfl) ?_
          refine Hs.bool 131 false (by kernel_rfl) (fun h => by cases h) (fun _ => ?_)
          refine Hs.rung0 [2, 6, 12] 300 (fun _ => by kernel_rfl) ?_
          refine Hs.condP (IntKind.i64.wrap (told + 1) > 1) (by kernel_rfl) (fun h9 => absurd h9 (by rw [wrapI64 (by omega)]; omega)) (fun _ => ?_)
          refine Hs.run0 300 (fun _ => by kernel_rfl) ?_
          refine Hs.slot 32 (.c (.v (.int .i64 (i + 1 : Nat)))) rfl ((by kernel_rfl : _ = Value.int .i64 (IntKind.i64.wrap ((i : Int) + 1))).trans (wrap_next hlen)) ?_
          refine Hs.slot 12 (.c (.v (.int .i64 (told + 1)))) rfl ((by kernel_rfl : _ = Value.int .i64 (IntKind.i64.wrap (told + 1))).trans (congrArg (Value.int .i64) (wrapI64 (by omega)))) ?_
          refine Hs.loop (by kernel_rfl) ?_
          exact Hs.goto (loopAt Tryz.f3 0) [0] [.b true 31 (CH.sc c')] [(1, .c (.v (.int .u32 packet))), (30, .c (.v (.slice (some ⟨ab, aoff, none⟩) ops.length ac))), (31, .c (.v (.int .i64 ops.length))), (32, .c (.v (.int .i64 (i + 1 : Nat)))), (8, .c (.v (.int .u64 (granted)))), (9, .c (.v (.int .u64 (sent)))), (10, .c (.v (.int .i64 (wanted)))), (11, .c (.v (.int .i64 (answered)))), (12, .c (.v (.int .i64 (told + 1)))), (13, .c (.v (.bool eof))), (14, .c (.v (.bool false))), (7, .c (.p 0 0))] (by kernel_rfl) (by decide) (by kernel_rfl) (by kernel_rfl) (fun _ => by kernel_rfl) (fun u => ih (i + 1) (by omega) (by omega) _ _ _ _ _ _ _ _ _ T' u)
        · skip
          refine Hs.condF (by kernel_rfl) ?_
          refine Hs.run0 300 (fun _ => by kernel_rfl) ?_
          refine Hs.condF (by kernel_rfl) ?_
          refine Hs.run0 300 (fun _ => by kernel_rfl) ?_
          refine Hs.condF (by kernel_rfl) ?_
          refine Hs.run0 300 (fun _ => by kernel_rfl) ?_
          refine Hs.condF (by kernel_rfl) ?_
          refine Hs.run0 300 (fun _ => by kernel_rfl) ?_
          refine Hs.condF (by kernel_rfl) ?_
          refine Hs.run0 300 (fun _ => by kernel_rfl) ?_
          refine Hs.condF (by kernel_rfl) ?_
          refine Hs.run0 300 (fun _ => by kernel_rfl) ?_
          refine Hs.condF (by kernel_rfl) ?_
          refine Hs.run0 300 (fun _ => by kernel_rfl) ?_
          refine Hs.condF (by kernel_rfl) ?_
          refine Hs.run0 300 (fun _ => by kernel_rfl) ?_
          refine Hs.condT (by kernel_rfl) ?_
          refine Hs.run0 300 (fun _ => by kernel_rfl) ?_
          refine Hs.rung0 [2, 6] 300 (fun _ => by kernel_rfl) ?_
          refine Hs.bool 131 false (by kernel_rfl) (fun h => by cases h) (fun _ => ?_)
          refine Hs.rung0 [2, 6, 12] 300 (fun _ => by kernel_rfl) ?_
          refine Hs.condP (IntKind.i64.wrap (told + 1) > 1) (by kernel_rfl) (fun h9 => absurd h9 (by rw [wrapI64 (by omega)]; omega)) (fun _ => ?_)
          refine Hs.run0 300 (fun _ => by kernel_rfl) ?_
          refine Hs.slot 32 (.c (.v (.int .i64 (i + 1 : Nat)))) rfl ((by kernel_rfl : _ = Value.int .i64 (IntKind.i64.wrap ((i : Int) + 1))).trans (wrap_next hlen)) ?_
          refine Hs.slot 12 (.c (.v (.int .i64 (told + 1)))) rfl ((by kernel_rfl : _ = Value.int .i64 (IntKind.i64.wrap (told + 1))).trans (congrArg (Value.int .i64) (wrapI64 (by omega)))) ?_
          refine Hs.loop (by kernel_rfl) ?_
          exact Hs.goto (loopAt Tryz.f3 0) [0] [.b true 31 (CH.sc c')] [(1, .c (.v (.int .u32 packet))), (30, .c (.v (.slice (some ⟨ab, aoff, none⟩) ops.length ac))), (31, .c (.v (.int .i64 ops.length))), (32, .c (.v (.int .i64 (i + 1 : Nat)))), (8, .c (.v (.int .u64 (granted)))), (9, .c (.v (.int .u64 (sent)))), (10, .c (.v (.int .i64 (wanted)))), (11, .c (.v (.int .i64 (answered)))), (12, .c (.v (.int .i64 (told + 1)))), (13, .c (.v (.bool eof))), (14, .c (.v (.bool false))), (7, .c (.p 0 0))] (by kernel_rfl) (by decide) (by kernel_rfl) (by kernel_rfl) (fun _ => by kernel_rfl) (fun u => ih (i + 1) (by omega) (by omega) _ _ _ _ _ _ _ _ _ T' u)
      · subst hc0; subst hk0
        refine Hs.condF (by kernel_rfl) ?_
        refine Hs.run0 300 (fun _ => by kernel_rfl) ?_
        refine Hs.condF (by kernel_rfl) ?_
        refine Hs.run0 300 (fun _ => by kernel_rfl) ?_
        refine Hs.condF (by kernel_rfl) ?_
        refine Hs.run0 300 (fun _ => by kernel_rfl) ?_
        refine Hs.condF (by kernel_rfl) ?_
        refine Hs.run0 300 (fun _ => by kernel_rfl) ?_
        refine Hs.condF (by kernel_rfl) ?_
        refine Hs.run0 300 (fun _ => by kernel_rfl) ?_
        refine Hs.condF (by kernel_rfl) ?_
        refine Hs.run0 300 (fun _ => by kernel_rfl) ?_
        refine Hs.condF (by kernel_rfl) ?_
        refine Hs.run0 300 (fun _ => by kernel_rfl) ?_
        refine Hs.condF (by kernel_rfl) ?_
        refine Hs.run0 300 (fun _ => by kernel_rfl) ?_
        refine Hs.condF (by kernel_rfl) ?_
        refine Hs.run0 300 (fun _ => by kernel_rfl) ?_
        refine Hs.condT (by kernel_rfl) ?_
        refine Hs.run0 300 (fun _ => by kernel_rfl) ?_
        refine Hs.slot 32 (.c (.v (.int .i64 (i + 1 : Nat)))) rfl ((by kernel_rfl : _ = Value.int .i64 (IntKind.i64.wrap ((i : Int) + 1))).trans (wrap_next hlen)) ?_
        refine Hs.loop (by kernel_rfl) ?_
        exact Hs.goto (loopAt Tryz.f3 0) [0] [.b true 31 (CH.sc c')] [(1, .c (.v (.int .u32 packet))), (30, .c (.v (.slice (some ⟨ab, aoff, none⟩) ops.length ac))), (31, .c (.v (.int .i64 ops.length))), (32, .c (.v (.int .i64 (i + 1 : Nat)))), (8, .c (.v (.int .u64 (granted)))), (9, .c (.v (.int .u64 (sent)))), (10, .c (.v (.int .i64 (wanted)))), (11, .c (.v (.int .i64 (answered)))), (12, .c (.v (.int .i64 (told)))), (13, .c (.v (.bool eof))), (14, .c (.v (.bool false))), (7, .c (.p 0 0))] (by kernel_rfl) (by decide) (by kernel_rfl) (by kernel_rfl) (fun _ => by kernel_rfl) (fun u => ih (i + 1) (by omega) (by omega) _ _ _ _ _ _ _ _ _ T' u)
  refine Hs.run1 300 (fun _ => by kernel_rfl) fun b0 => ?_
  refine Hs.slot 8 (.c (.v (.int .u64 left))) rfl ((by kernel_rfl : _ = Value.int .u64 (IntKind.u64.wrap left)).trans (congrArg (Value.int .u64) (wrapU64 (by unfold U32 at hl; omega)))) ?_
  refine Hs.loop (by kernel_rfl) ?_
  exact Hs.goto (loopAt Tryz.f3 0) [0] [.b true 31 (CH.sc ⟨0, 0, left, packet, 0, 0, false, false, false, false, 0, false⟩)] [(1, .c (.v (.int .u32 packet))), (30, .c (.v (.slice A ops.length ac))), (31, .c (.v (.int .i64 ops.length))), (32, .c (.v (.int .i64 (0 : Nat)))), (8, .c (.v (.int .u64 (left)))), (9, .c (.v (.int .u64 (0)))), (10, .c (.v (.int .i64 (0)))), (11, .c (.v (.int .i64 (0)))), (12, .c (.v (.int .i64 (0)))), (13, .c (.v (.bool false))), (14, .c (.v (.bool false))), (7, .c (.p 0 0))] (by kernel_rfl) (by decide) (by kernel_rfl) (by kernel_rfl) (fun _ => by kernel_rfl) (fun u => J _ 0 rfl (by omega) _ _ _ _ _ _ _ _ _ (by
    have hz : U32 0 := by unfold U32; decide
    refine ⟨⟨hz, hz, hl, hp, hz, hz, by simp⟩, rfl, rfl, fun _ => rfl, by decide, rfl, by simp, by decide, ?_, rfl, by decide⟩
    unfold U32 at hl; omega) u)
end Go.Proofs.YtpojfcpeibnohaaGreatDoor

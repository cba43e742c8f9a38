/- Layer 19: a text as it is written; for all texts; no condition but their length · Layer 19: how many operations a run makes (the closure that calls itself); for all programs whose calls go forward; no other condition · Layer 19: Work; for all programs; no condition but lengths · Layer 19: what is printed is parsed as it was, in plain words; no condition but the length of the text · Layer 19: an operation as a line; for the operations that may be; no condition but what the library's variables hold · Layer 19, the document's: small things: a number between two, a byte that is itself, a digit of hex, a text and a number as they are written, the tables; no condition but lengths · Layer 19, the document's: a number's digits, a text as it is written; no condition but lengths · Layer 19, the document's: whether a name may be, which program has a name; no condition but lengths. -/
import Derived.Test.YtmmcamkmglpgiaaGreatDoorPxA
import Derived.Test.YtmmcamkmglpgiaaGreatDoorPxC
import Derived.Laws.Small
import Derived.Test.YtmmcamkmglpgiaaGreatDoorEngAO
import Derived.Laws.RangeString
import Derived.Lib.AtoiTie
import Derived.Lib.ItoaNum
import Derived.Laws.Concat
import Derived.Lib.ItoaLen
import Derived.Test.YtmmcamkmglpgiaaGreatDoorEngAN
import Derived.Test.YtmmcamkmglpgiaaGreatDoorEngQ
namespace Go.Proofs.YtmmcamkmglpgiaaGreatDoor
open Go.RowKit
set_option linter.all false
set_option maxRecDepth 100000
theorem writL_len : ∀ l : List UInt8, (writL l).length ≤ 3 * l.length
  | [] => Nat.le_refl _
  | c :: l => by
    have ih := writL_len l
    have e : writL (c :: l) = writB c ++ writL l := rfl
    rw [e, List.length_append, List.length_cons]
    have : (writB c).length ≤ 3 := by unfold writB; split <;> simp
    omega
theorem writL_take {l : List UInt8} {i : Nat} {c : UInt8} (h : l[i]? = some c) : writL (l.take (i + 1)) = writL (l.take i) ++ writB c := by
  rw [List.take_add_one, h, writL_app]
  simp [writL]
section
variable {f : FR} {R : Ending → World → Prop} {n : Nat} {w0 : World} {L : List Nat} {β : List Nat} {m : SM}
theorem Hs.sIdxU (l : List UInt8) (i : Nat) (c : UInt8) (hi : l[i]? = some c) (hs : semOf n β m = some (valS (Instr.index 9 (.string (strL l)) (.int .u8 (i : Int))))) (k : Hs Tryz.prog f R n w0 L β (m.put (dstOf m) (.c (.v (.int .u8 c.toNat))) m.hp)) : Hs Tryz.prog f R n w0 L β m := by
  refine Hs.opV (.c (.v (.int .u8 c.toNat))) hs rfl (fun w H => ?_) k
  have hu : Tryz.prog.underlying 9 = some .string := by kernel_rfl
  have hg : (strL l)[i]? = some c := by
    obtain ⟨h1, h2⟩ := (List.getElem?_eq_some_iff.1 hi)
    have h3 : i < (strL l).size := h1
    rw [getElem?_pos (strL l) i h3]
    exact congrArg some h2
  simp only [Instr.index, asIntOf, Sem.run_bind, Sem.run_pure, Result.andThen_ok, run_underlying hu w]
  rw [if_pos (Int.natCast_nonneg i)]
  simp only [Int.toNat_natCast, hg]
  rfl
end
theorem hex_get : ∀ n : Fin 16, hexL[n.val]? = some (hexD n.val) := by decide
theorem hex_at {n : Nat} (h : n < 16) : hexL[n]? = some (hexD n) := hex_get ⟨n, h⟩
theorem and15_all : ∀ n : Fin 256, IntKind.u8.wrap (((BitVec.ofInt 8 ((UInt8.ofNat n.val).toNat : Int)) &&& (BitVec.ofInt 8 15)).toNat) = (((UInt8.ofNat n.val).toNat % 16 : Nat) : Int) := by decide +kernel
theorem and15 (c : UInt8) : IntKind.u8.wrap (((BitVec.ofInt 8 (c.toNat : Int)) &&& (BitVec.ofInt 8 15)).toNat) = ((c.toNat % 16 : Nat) : Int) := u8_all (p := fun c => IntKind.u8.wrap (((BitVec.ofInt 8 (c.toNat : Int)) &&& (BitVec.ofInt 8 15)).toNat) = ((c.toNat % 16 : Nat) : Int)) and15_all c
theorem shr4 (c : UInt8) : (c.toNat : Int).fdiv 16 = ((c.toNat / 16 : Nat) : Int) := by
  rw [Int.fdiv_eq_ediv_of_nonneg _ (by decide)]
  omega
abbrev buB (g : Nat) (u : Bool) (A : Option Addr) (n cap : Nat) : HB := .b true 65 [.v (bdV g u), .v (.slice A n cap)]
set_option maxHeartbeats 4000000 in
theorem written_any (l : List UInt8) (hl : l.length ≤ 46912496118442) (w : World) : Calls Tryz.prog 45 #[.string (strL l)] w fun e w' => e = .returned (.string (strL (writL l))) ∧ Only [] w w' := by
  have J : ∀ (d i : Nat), l.length - i = d → i ≤ l.length → ∀ (bu : Bool) (A : Option Addr) (n cap : Nat), (writL (l.take i)).length = n → ∀ (b3 g : Nat) (u : Nat → Value), Hs Tryz.prog 45 (fun e w' => e = .returned (.string (strL (writL l))) ∧ Only [] w w') (Tryz.f45).ntmps w [] [b3, g] ⟨.no, loopAt Tryz.f45 0, pins [(0, .c (.v (.string (strL l)))), (3, .c (.p 0 0)), (7, .c (.v (.int .i64 l.length))), (8, .c (.v (.int .i64 i)))] (.vals u), [buB b3 bu A n cap, .s A cap n 5 1 ((u8v (writL (l.take i))).flatMap cu8)]⟩ := by
    intro d
    induction d with
    | zero =>
      intro i hd hi bu A n cap hn b3 g u
      obtain rfl : i = l.length := by omega
      rw [List.take_length] at hn ⊢
      refine Hs.run0 300 (fun _ => by kernel_rfl) ?_
      refine Hs.condP ((l.length : Int) < (l.length : Int)) (by kernel_rfl) (fun h => by omega) (fun _ => ?_)
      refine Hs.run0 300 (fun _ => by kernel_rfl) ?_
      refine Hs.callLast (.string (strL (writL l))) (fun w' H => str_any19 0 1 (u := bu) (A := A) (cap := cap) (l := writL l) H (by decide) (by kernel_rfl) (by kernel_rfl) hn) (by kernel_rfl) (by kernel_rfl) ?_
      refine Hs.run0 300 (fun _ => by kernel_rfl) ?_
      exact Hs.ret (v := .string (strL (writL l))) Tryz.func45 (by kernel_rfl) fun w' H => ⟨rfl, H.only⟩
    | succ d ih =>
      intro i hd hi bu A n cap hn b3 g u
      have hil : i < l.length := by omega
      obtain ⟨c, hc⟩ : ∃ c, l[i]? = some c := ⟨_, List.getElem?_eq_getElem hil⟩
      have hih := fun bu A n cap h b3 g u => ih (i + 1) (by omega) (by omega) bu A n cap h b3 g u
      clear ih
      have hN : (writL (l.take i)).length ≤ 3 * i := Nat.le_trans (writL_len _) (by rw [List.length_take]; omega)
      rw [writL_take hc] at hih
      refine Hs.run0 300 (fun _ => by kernel_rfl) ?_
      refine Hs.condP ((i : Int) < (l.length : Int)) (by kernel_rfl) (fun _ => ?_) (fun h => by omega)
      refine Hs.run0 300 (fun _ => by kernel_rfl) ?_
      refine Hs.sIdx l i c hc (by kernel_rfl) ?_
      refine Hs.run0 300 (fun _ => by kernel_rfl) ?_
      refine Hs.callV (v := .bool (itselfI c.toNat)) (fun w' H => itself_any _ w') (by kernel_rfl) ?_
      refine Hs.run0 300 (fun _ => by kernel_rfl) ?_
      refine Hs.cond (itselfI c.toNat) (by kernel_rfl) (fun h1 => ?_) (fun h1 => ?_)
      · have ew : writB c = [c] := by unfold writB; rw [if_pos (show itselfB c = true from h1)]
        rw [ew] at hih
        refine Hs.run0 300 (fun _ => by kernel_rfl) ?_
        refine Hs.callBS 0 1 (T := 65) (cs0 := [.v (bdV b3 bu), .v (.slice A n cap)]) .nilIface (fun A' cap' => [.v (bdV b3 true), .v (.slice A' (n + 1) cap')]) (u8v (writL (l.take i))) (u8v (writL (l.take i) ++ [c])) n (n + 1) (by rw [u8v_len, hn]) (by rw [u8v_len]; simp [hn]) (by decide) (by kernel_rfl) (by kernel_rfl) (fun w' H hB hO hne => by
          have := wb_any b3 bu A n cap (u8v (writL (l.take i))) c.toNat w' ⟨hB, hO, by rw [u8v_len, hn], hne⟩ (by omega)
          rw [← u8v_snoc] at this
          exact this) (by kernel_rfl) (by kernel_rfl) (fun _ _ => (by kernel_rfl)) fun A1 c1 _ _ => ?_
        refine Hs.run0 300 (fun _ => by kernel_rfl) ?_
        refine Hs.slot 8 (.c (.v (.int .i64 (i + 1 : Nat)))) rfl ((by kernel_rfl : _ = Value.int .i64 (IntKind.i64.wrap ((i : Int) + 1))).trans (wrap_nextK (by omega))) ?_
        refine Hs.loop (by kernel_rfl) ?_
        exact Hs.goto (loopAt Tryz.f45 0) [0, 1] [buB b3 true A1 (n + 1) c1, .s A1 c1 (n + 1) 5 1 ((u8v (writL (l.take i) ++ [c])).flatMap cu8)] [(0, .c (.v (.string (strL l)))), (3, .c (.p 0 0)), (7, .c (.v (.int .i64 l.length))), (8, .c (.v (.int .i64 (i + 1 : Nat))))] (by kernel_rfl) (by decide) (by kernel_rfl) (by kernel_rfl) (fun _ => (by kernel_rfl)) (fun u => hih true A1 (n + 1) c1 (by simp [hn]) b3 g u)
      · have ew : writB c = [92, hexD (c.toNat / 16), hexD (c.toNat % 16)] := by unfold writB; rw [if_neg (by show ¬ itselfI c.toNat = true; rw [h1]; decide)]
        rw [ew] at hih
        refine Hs.run0 300 (fun _ => by kernel_rfl) ?_
        refine Hs.callBS 0 1 (T := 65) (cs0 := [.v (bdV b3 bu), .v (.slice A n cap)]) .nilIface (fun A' cap' => [.v (bdV b3 true), .v (.slice A' (n + 1) cap')]) (u8v (writL (l.take i))) (u8v (writL (l.take i) ++ [92])) n (n + 1) (by rw [u8v_len, hn]) (by rw [u8v_len]; simp [hn]) (by decide) (by kernel_rfl) (by kernel_rfl) (fun w' H hB hO hne => by
          have := wb_any b3 bu A n cap (u8v (writL (l.take i))) 92 w' ⟨hB, hO, by rw [u8v_len, hn], hne⟩ (by omega)
          rw [show ((92 : Int)) = ((92 : UInt8).toNat : Int) from rfl, ← u8v_snoc] at this
          exact this) (by kernel_rfl) (by kernel_rfl) (fun _ _ => (by kernel_rfl)) fun A1 c1 _ _ => ?_
        refine Hs.run0 300 (fun _ => by kernel_rfl) ?_
        refine Hs.slot 20 (.c (.v (.int .u8 (c.toNat / 16 : Nat)))) rfl ((by kernel_rfl : _ = Value.int .u8 ((c.toNat : Int).fdiv 16)).trans (congrArg (Value.int .u8) (shr4 c))) ?_
        refine Hs.sIdxU hexL (c.toNat / 16) (hexD (c.toNat / 16)) (hex_at (by have := c.toNat_lt; omega)) (by kernel_rfl) ?_
        refine Hs.run0 300 (fun _ => by kernel_rfl) ?_
        refine Hs.callBS 0 1 (T := 65) (cs0 := [.v (bdV b3 true), .v (.slice A1 (n + 1) c1)]) .nilIface (fun A' cap' => [.v (bdV b3 true), .v (.slice A' (n + 1 + 1) cap')]) (u8v (writL (l.take i) ++ [92])) (u8v (writL (l.take i) ++ [92] ++ [hexD (c.toNat / 16)])) (n + 1) (n + 1 + 1) (by rw [u8v_len]; simp [hn]) (by rw [u8v_len]; simp [hn]) (by decide) (by kernel_rfl) (by kernel_rfl) (fun w' H hB hO hne => by
          have := wb_any b3 true A1 (n + 1) c1 (u8v (writL (l.take i) ++ [92])) (hexD (c.toNat / 16) : UInt8).toNat w' ⟨hB, hO, by rw [u8v_len]; simp [hn], hne⟩ (by omega)
          rw [← u8v_snoc] at this
          exact this) (by kernel_rfl) (by kernel_rfl) (fun _ _ => (by kernel_rfl)) fun A2 c2 _ _ => ?_
        refine Hs.run0 300 (fun _ => by kernel_rfl) ?_
        refine Hs.slot 24 (.c (.v (.int .u8 (c.toNat % 16 : Nat)))) rfl ((by kernel_rfl : _ = Value.int .u8 (IntKind.u8.wrap (((BitVec.ofInt 8 (c.toNat : Int)) &&& (BitVec.ofInt 8 15)).toNat))).trans (congrArg (Value.int .u8) (and15 c))) ?_
        refine Hs.sIdxU hexL (c.toNat % 16) (hexD (c.toNat % 16)) (hex_at (by omega)) (by kernel_rfl) ?_
        refine Hs.run0 300 (fun _ => by kernel_rfl) ?_
        refine Hs.callBS 0 1 (T := 65) (cs0 := [.v (bdV b3 true), .v (.slice A2 (n + 1 + 1) c2)]) .nilIface (fun A' cap' => [.v (bdV b3 true), .v (.slice A' (n + 1 + 1 + 1) cap')]) (u8v (writL (l.take i) ++ [92] ++ [hexD (c.toNat / 16)])) (u8v (writL (l.take i) ++ [92] ++ [hexD (c.toNat / 16)] ++ [hexD (c.toNat % 16)])) (n + 1 + 1) (n + 1 + 1 + 1) (by rw [u8v_len]; simp [hn]) (by rw [u8v_len]; simp [hn]) (by decide) (by kernel_rfl) (by kernel_rfl) (fun w' H hB hO hne => by
          have := wb_any b3 true A2 (n + 1 + 1) c2 (u8v (writL (l.take i) ++ [92] ++ [hexD (c.toNat / 16)])) (hexD (c.toNat % 16) : UInt8).toNat w' ⟨hB, hO, by rw [u8v_len]; simp [hn], hne⟩ (by omega)
          rw [← u8v_snoc] at this
          exact this) (by kernel_rfl) (by kernel_rfl) (fun _ _ => (by kernel_rfl)) fun A3 c3 _ _ => ?_
        refine Hs.run0 300 (fun _ => by kernel_rfl) ?_
        refine Hs.slot 8 (.c (.v (.int .i64 (i + 1 : Nat)))) rfl ((by kernel_rfl : _ = Value.int .i64 (IntKind.i64.wrap ((i : Int) + 1))).trans (wrap_nextK (by omega))) ?_
        refine Hs.loop (by kernel_rfl) ?_
        have e3 : writL (l.take i) ++ [92] ++ [hexD (c.toNat / 16)] ++ [hexD (c.toNat % 16)] = writL (l.take i) ++ [92, hexD (c.toNat / 16), hexD (c.toNat % 16)] := by simp
        rw [e3]
        exact Hs.goto (loopAt Tryz.f45 0) [0, 1] [buB b3 true A3 (n + 1 + 1 + 1) c3, .s A3 c3 (n + 1 + 1 + 1) 5 1 ((u8v (writL (l.take i) ++ [92, hexD (c.toNat / 16), hexD (c.toNat % 16)])).flatMap cu8)] [(0, .c (.v (.string (strL l)))), (3, .c (.p 0 0)), (7, .c (.v (.int .i64 l.length))), (8, .c (.v (.int .i64 (i + 1 : Nat))))] (by kernel_rfl) (by decide) (by kernel_rfl) (by kernel_rfl) (fun _ => (by kernel_rfl)) (fun u => hih true A3 (n + 1 + 1 + 1) c3 (by simp [hn]) b3 g u)
  refine Hs.enter Tryz.func45 [] [] [] [.c (.v (.string (strL l)))] (Mem.start0 w) (by kernel_rfl) (by kernel_rfl) ?_
  refine Hs.run1 300 (fun _ => by kernel_rfl) fun b3 => ?_
  refine Hs.nilS 5 1 (by kernel_rfl) ?_ (by kernel_rfl)
  refine Hs.loop (by kernel_rfl) ?_
  exact Hs.goto (loopAt Tryz.f45 0) [0, 1] [buB b3 false none 0 0, .s none 0 0 5 1 ((u8v (writL (l.take 0))).flatMap cu8)] [(0, .c (.v (.string (strL l)))), (3, .c (.p 0 0)), (7, .c (.v (.int .i64 l.length))), (8, .c (.v (.int .i64 (0 : Nat))))] (by kernel_rfl) (by decide) (by kernel_rfl) (by kernel_rfl) (fun _ => (by kernel_rfl)) (fun u => J l.length 0 (by omega) (by omega) false none 0 0 (by simp [writL]) b3 0 u)
end Go.Proofs.YtmmcamkmglpgiaaGreatDoor

namespace Go.Proofs.YtmmcamkmglpgiaaGreatDoor
open Go.RowKit Go.MapKept
set_option linter.all false
set_option maxRecDepth 100000
section
variable {P : Program} {f : FR} {R : Ending → World → Prop} {n : Nat} {w0 : World} {L : List Nat} {β : List Nat} {m : SM}
theorem Hs.minI {ts : Array TypeId} {ty : TypeId} {k k' : IntKind} (x y : Int) (hs : semOf n β m = some (valS (Builtin.min_ ts ty #[.int k x, .int k' y]))) (h : Hs P f R n w0 L β (m.put (dstOf m) (.c (.v (.int k (if y < x then y else x)))) m.hp)) : Hs P f R n w0 L β m :=
  Hs.opV (.c (.v (.int k (if y < x then y else x)))) hs rfl (fun w _ => run_min_int2 w ts ty k k' x y) h
variable {κ : Type} [DecidableEq κ] {ke : κ → Value}
/-- A call that turns a map of ours. -/
theorem Hs.callMp {X : Type} (k : Nat) {r : Nat} {es : List (κ × Value)} (es' : X → List (κ × Value)) (v : X → Value) (Q : X → Prop) {F : FuncId} {args : Array Value} (hk : m.hp[k]? = some (HB.mp ke r es)) (hC : ∀ w, Mem w0 L β m.hp w → Calls P F args w fun e w' => ∃ x, e = .returned (v x) ∧ Only [r] w w' ∧ MapM ke w' r (es' x) ∧ Q x) (hc : callOf P n β m = some (F, args)) (hrd : (rdOf m).contains k = false)
    (h : ∀ x, Q x → Hs P f R n w0 L β (m.put (dstOf m) (.c (.v (v x))) (m.hp.set k (HB.mp ke r (es' x))))) : Hs P f R n w0 L β m := by
  refine ⟨fun w H W => ?_⟩
  refine (Hs.call hc (fun w H => ?_)).go w H W
  refine Calls.mono (hC w H) ?_
  rintro e w' ⟨x, rfl, O, hM', hq⟩
  have hl : (HB.mp ke r (es' x)).lies w' β (nm β k) := ⟨hM', fun a ha => by injection ha with ha; subst ha; exact hM'.lt⟩
  refine ⟨[], .c (.v (v x)), m.hp.set k (HB.mp ke r (es' x)), rfl, by rw [List.append_nil]; exact H.swap k hk O (fun x hx => by simp only [List.mem_singleton] at hx; subst hx; rfl) rfl hl (fun x hx => .inl hx), ?_, fun j hj b hb => ?_, by rw [List.append_nil]; exact h x hq⟩
  · simp only [SV.wf, SC.wf, Bool.true_and, Bool.and_eq_true, Nat.ble_eq, List.length_set]
    exact ⟨Nat.le_refl _, set_wf (SM.wf_hp W) rfl⟩
  · rw [List.getElem?_set, if_neg (fun e => by
      subst e
      simp at hrd
      exact hrd hj)]
    exact hb
end
theorem keyW : KeyT Tryz.prog 59 3 3 (.int .i64 0) (kI .i64) := ⟨(by kernel_rfl), fun w => by kernel_rfl, ⟨.int .i64, by kernel_rfl, fun _ => rfl⟩, kI_inj⟩
def stepW (g : Int → Int) (o : OP9) (n : Int) : Int := if (1073741824 : Int) < (if o.k = 5 ∨ o.k = 6 then n + 1 + g o.a else n + 1) then 1073741824 else (if o.k = 5 ∨ o.k = 6 then n + 1 + g o.a else n + 1)
/-- How many operations a run makes of these. -/
def opsW (g : Int → Int) : List OP9 → Int → Int
  | [], n => n
  | o :: l, n => if o.k = 6 ∨ o.k = 1 then stepW g o n else opsW g l (stepW g o n)
theorem opsW_cons (g : Int → Int) (o : OP9) (l : List OP9) (n : Int) : opsW g (o :: l) n = if o.k = 6 ∨ o.k = 1 then stepW g o n else opsW g l (stepW g o n) := rfl
theorem stepW_bd {g : Int → Int} {o : OP9} {n : Int} (h0 : 0 ≤ n) (hg : 0 ≤ g o.a) : 0 ≤ stepW g o n ∧ stepW g o n ≤ 1073741824 := by
  unfold stepW
  split <;> split <;> omega
structure WorkOk (l : List PM) (W : Nat → Int) : Prop where
  eq : ∀ (k : Nat) (m : PM), l[k]? = some m → W k = opsW (fun a => W a.toNat) m.2 0
  bd : ∀ k : Nat, 0 ≤ W k ∧ W k ≤ 1073741824
  fw : ∀ (k : Nat) (m : PM) (o : OP9), l[k]? = some m → o ∈ m.2 → (o.k = 5 ∨ o.k = 6) → (k : Int) < o.a ∧ o.a < l.length
def EsOk (W : Nat → Int) (es : List (Int × Value)) : Prop := ∀ (k : Nat) v, lookM (k : Int) es = some v → v = .int .i64 (W k)
theorem EsOk.set {W : Nat → Int} {es : List (Int × Value)} (h : EsOk W es) (k : Nat) : EsOk W (setE (k : Int) (.int .i64 (W k)) es) := fun j v hj => by
  rw [lookM_setE] at hj
  split at hj
  · rename_i e
    injection hj with hj
    rw [← hj, show k = j by omega]
  · exact h j v hj
theorem map_apart {α : Type} {cf : α → List Value} {w w' : World} {A : Option Addr} {l : List α} {rm : Nat} {es : List (Int × Value)} (hne : ∀ x, 0 < (cf x).length) (h : RdX cf w A l) (hM : MapM (kI .i64) w rm es) (O : Only [rm] w w') : RdX cf w' A l :=
  h.far O fun a ha h0 hm => by
    obtain ⟨b, off, e, hlt, hc⟩ := h h0
    rw [ha] at e
    injection e with e
    subst e
    obtain rfl := List.mem_singleton.1 hm
    obtain ⟨x, t, rfl⟩ : ∃ x t, l = x :: t := by cases l with | nil => cases h0 | cons x t => exact ⟨x, t, rfl⟩
    have h1 := hne x
    obtain ⟨u, t2, hu⟩ : ∃ u t2, cf x = u :: t2 := by cases hx : cf x with | nil => rw [hx] at h1; cases h1 | cons u t2 => exact ⟨u, t2, rfl⟩
    have h2 := hc 0 u (by rw [List.flatMap_cons, hu]; rfl)
    obtain ⟨a, clock, hb, _⟩ := hM
    unfold World.cell? at h2
    dsimp only at h2 hb
    rw [hb] at h2
    cases h2
theorem pgs_map {w w' : World} {A : Option Addr} {c : Nat} {ps : List PG} {rm : Nat} {es : List (Int × Value)} (h : Pgs w A c ps) (hM : MapM (kI .i64) w rm es) (O : Only [rm] w w') : Pgs w' A c ps :=
  ⟨map_apart (fun x => by rw [cPG_len]; omega) h.rd hM O, h.le, h.max, fun x hx => ⟨map_apart (fun x => by rw [cOP_len]; omega) (h.all x hx).1 hM O, (h.all x hx).2⟩⟩
theorem wrap_nextW {n : Int} (h0 : 0 ≤ n) (h1 : n ≤ 1073741824) : Value.int .i64 (IntKind.i64.wrap (n + 1)) = (SV.c (.v (.int .i64 (n + 1)))).den [] := by
  rw [IntWalk.i64_in _ (by omega)]; rfl
theorem wrap_addW {n g : Int} (h0 : 0 ≤ n) (h1 : n ≤ 1073741824) (h2 : 0 ≤ g) (h3 : g ≤ 1073741824) : Value.int .i64 (IntKind.i64.wrap (n + 1 + g)) = (SV.c (.v (.int .i64 (n + 1 + g)))).den [] := by
  rw [IntWalk.i64_in _ (by omega)]; rfl
abbrev WkR (W : Nat → Int) (k : Nat) (rm : Nat) (w : World) : Ending → World → Prop := fun e w' => ∃ es', e = .returned (.int .i64 (W k)) ∧ Only [rm] w w' ∧ MapM (kI .i64) w' rm es' ∧ EsOk W es'
set_option maxHeartbeats 4000000 in
theorem work1_any (ps : List PG) (A : Option Addr) (c : Nat) (W : Nat → Int) (hW : WorkOk (ps.map PG.m) W) (hlen : ps.length ≤ 1000) (hops : ∀ x ∈ ps, x.ops.length ≤ 1000) (b5 b2 b6 rm : Nat) (hnd : [b5, b2, b6, rm].Nodup) : ∀ (d k : Nat), ps.length - k ≤ d → k < ps.length → ∀ (w : World) (es : List (Int × Value)), Blk w b5 59 [.map (some rm)] → Blk w b2 29 [.slice A ps.length c] → Blk w b6 60 [.func (.func 20) #[] #[.pointer (some ⟨b5, 0, none⟩), .pointer (some ⟨b2, 0, none⟩), .pointer (some ⟨b6, 0, none⟩)]] → Pgs w A c ps → MapM (kI .i64) w rm es → EsOk W es → Calls Tryz.prog 20 #[.int .i64 k, .pointer (some ⟨b5, 0, none⟩), .pointer (some ⟨b2, 0, none⟩), .pointer (some ⟨b6, 0, none⟩)] w (WkR W k rm w) := by
  intro d
  induction d with
  | zero => intro k h1 h2; omega
  | succ d ihd =>
    intro k hkd hk w es h5 h2 h6 hP hM hes
    obtain ⟨x, hx⟩ : ∃ x, ps[k]? = some x := ⟨_, List.getElem?_eq_getElem hk⟩
    have hxm : x ∈ ps := List.mem_of_getElem? hx
    have hxo := hP.all x hxm
    have hol := hops x hxm
    have hWe : W k = opsW (fun a => W a.toNat) x.ops 0 := hW.eq k x.m (by rw [List.getElem?_map, hx]; rfl)
    have hfw : ∀ o ∈ x.ops, (o.k = 5 ∨ o.k = 6) → (k : Int) < o.a ∧ o.a < ps.length := fun o ho h => by
      have := hW.fw k x.m o (by rw [List.getElem?_map, hx]; rfl) ho h
      rwa [List.length_map] at this
    obtain ⟨ab, aoff, hA, _, _⟩ := hP.rd (by omega)
    subst hA
    have hrm := hM.lt
    have H0 : Mem w [rm] [b5, b2, b6, 0] [.b false 59 [.v (.map (some rm))], .b false 29 [.v (.slice (some ⟨ab, aoff, none⟩) ps.length c)], .b false 60 [.v (.func (.func 20) #[] #[.pointer (some ⟨b5, 0, none⟩), .pointer (some ⟨b2, 0, none⟩), .pointer (some ⟨b6, 0, none⟩)])], HB.mp (kI .i64) rm es] w := by
      refine Mem.startW [rm] rfl ?_ ⟨h5, h2, h6, ⟨hM, fun a ha => by injection ha with ha; subst ha; exact hrm⟩, trivial⟩ (fun y hy => by simpa [wrN, HB.wr, HB.blk, HB.mp] using hy)
      simpa [bks, HB.blk, HB.mp] using hnd
    have hPw : ∀ {β : List Nat} {hp : List HB} {w' : World}, Mem w [rm] β hp w' → Pgs w' (some ⟨ab, aoff, none⟩) c ps := fun H => pgs_map hP hM H.only
    have J : ∀ (e i : Nat), x.ops.length - i = e → i ≤ x.ops.length → ∀ (n : Int) (es1 : List (Int × Value)), 0 ≤ n → n ≤ 1073741824 → W k = opsW (fun a => W a.toNat) (x.ops.drop i) n → EsOk W es1 → ∀ (u : Nat → Value), Hs Tryz.prog ⟨20, none⟩ (WkR W k rm w) (Tryz.f20).ntmps w [rm] [b5, b2, b6, 0] ⟨.no, loopAt Tryz.f20 0, pins [(0, .c (.v (.int .i64 k))), (1, .c (.p 0 0)), (2, .c (.p 1 0)), (3, .c (.p 2 0)), (8, .c (.v (.int .i64 n))), (23, .c (.v (.slice x.A x.ops.length x.c))), (24, .c (.v (.int .i64 x.ops.length))), (25, .c (.v (.int .i64 i)))] (.vals u), [.b false 59 [.v (.map (some rm))], .b false 29 [.v (.slice (some ⟨ab, aoff, none⟩) ps.length c)], .b false 60 [.v (.func (.func 20) #[] #[.pointer (some ⟨b5, 0, none⟩), .pointer (some ⟨b2, 0, none⟩), .pointer (some ⟨b6, 0, none⟩)])], HB.mp (kI .i64) rm es1]⟩ := by
      intro e
      induction e with
      | zero =>
        intro i hi hil n es1 h0 h1 hop hes1 u
        obtain rfl : i = x.ops.length := by omega
        rw [List.drop_length] at hop
        have hop : W k = n := hop
        refine Hs.run0 300 (fun _ => by kernel_rfl) ?_
        refine Hs.condP ((x.ops.length : Int) < (x.ops.length : Int)) (by kernel_rfl) (fun h => by omega) (fun _ => ?_)
        refine Hs.run0 300 (fun _ => by kernel_rfl) ?_
        refine Hs.setM 3 keyW (k : Int) (.int .i64 (n)) (es := es1) (r := rm) (by kernel_rfl) (by kernel_rfl) (by kernel_rfl) ?_
        refine Hs.run0 300 (fun _ => by kernel_rfl) ?_
        exact Hs.ret (v := .int .i64 (n)) Tryz.func20 (by kernel_rfl) fun w' H => ⟨setE (k : Int) (.int .i64 (n)) es1, by rw [hop], H.only, Mem.mapM (ke := kI .i64) (r := rm) (es := setE (k : Int) (.int .i64 (n)) es1) H 3 (by kernel_rfl), by rw [← hop]; exact hes1.set k⟩
      | succ e ihe =>
        intro i hi hil n es1 h0 h1 hop hes1 u
        have hil2 : i < x.ops.length := by omega
        obtain ⟨o, ho⟩ : ∃ o, x.ops[i]? = some o := ⟨_, List.getElem?_eq_getElem hil2⟩
        have hom : o ∈ x.ops := List.mem_of_getElem? ho
        have hdr : x.ops.drop i = o :: x.ops.drop (i + 1) := by
          rw [List.drop_eq_getElem_cons hil2]
          rw [List.getElem?_eq_getElem hil2] at ho
          injection ho with ho
          rw [ho]
        rw [hdr, opsW_cons] at hop
        obtain ⟨ob, ooff, hO, _, _⟩ := hxo.1 (by omega)
        have hih := fun n es1 h0 h1 hop hes1 u => ihe (i + 1) (by omega) (by omega) n es1 h0 h1 hop hes1 u
        clear ihe
        have hor : ∀ {β : List Nat} {hp : List HB} {w' : World}, Mem w [rm] β hp w' → RdX cOP w' (some ⟨ob, ooff, none⟩) x.ops := fun H => by rw [← hO]; exact ((hPw H).all x hxm).1
        rw [hO] at hih ⊢
        obtain ⟨oq, oa, oy, ot⟩ := o
        refine Hs.run0 300 (fun _ => by kernel_rfl) ?_
        refine Hs.condP ((i : Int) < (x.ops.length : Int)) (by kernel_rfl) (fun _ => ?_) (fun h => by omega)
        refine Hs.run0 300 (fun _ => by kernel_rfl) ?_
        refine Hs.idx (b := ob) (off := ooff) (len := x.ops.length) (c := x.c) (i := i) elemPo hil2 (by kernel_rfl) ?_
        refine Hs.ldx (cf := cOP) (size := 4) (E := 36) (b := ob) (off := ooff) (i := i) (l := x.ops) (x := ⟨oq, oa, oy, ot⟩) cOP_len (.g [.v (.int .i64 oq), .v (.int .i64 oa), .v (.int .i64 oy), .v (.string ot)]) (by kernel_rfl) (fun w' H => hor H) ho (by kernel_rfl) (by kernel_rfl) rfl (by kernel_rfl) ?_
        refine Hs.run1 300 (fun _ => by kernel_rfl) fun b7 => ?_
        refine Hs.slot 8 (.c (.v (.int .i64 (n + 1)))) rfl ((by kernel_rfl : _ = Value.int .i64 (IntKind.i64.wrap (n + 1))).trans (wrap_nextW h0 h1)) ?_
        by_cases h5 : oq = 5
        · subst h5
          rw [if_neg (by simp)] at hop
          obtain ⟨a', rfl⟩ : ∃ a' : Nat, oa = a' := ⟨oa.toNat, by have := (hfw _ hom (by simp)).1; dsimp only at this; omega⟩
          have hf := hfw _ hom (by simp)
          dsimp only at hf
          have hba := hW.bd a'
          have eS : stepW (fun a => W a.toNat) ⟨5, (a' : Int), oy, ot⟩ n = (if (1073741824 : Int) < n + 1 + W a' then 1073741824 else n + 1 + W a') := by unfold stepW; simp
          have hbd := stepW_bd (g := (fun a => W a.toNat)) (o := ⟨5, (a' : Int), oy, ot⟩) h0 hba.1
          have hC : ∀ w', Mem w [rm] ([b5, b2, b6, 0] ++ [b7]) [.b false 59 [.v (.map (some rm))], .b false 29 [.v (.slice (some ⟨ab, aoff, none⟩) ps.length c)], .b false 60 [.v (.func (.func 20) #[] #[.pointer (some ⟨b5, 0, none⟩), .pointer (some ⟨b2, 0, none⟩), .pointer (some ⟨b6, 0, none⟩)])], HB.mp (kI .i64) rm es1, .b true 36 [.v (.int .i64 5), .v (.int .i64 (a' : Int)), .v (.int .i64 oy), .v (.string ot)]] w' → Calls Tryz.prog 20 #[.int .i64 (a' : Int), .pointer (some ⟨b5, 0, none⟩), .pointer (some ⟨b2, 0, none⟩), .pointer (some ⟨b6, 0, none⟩)] w' fun e w2 => ∃ es', e = .returned (.int .i64 (W a')) ∧ Only [rm] w' w2 ∧ MapM (kI .i64) w2 rm es' ∧ EsOk W es' := fun w' H => ihd a' (by omega) (by omega) w' es1 (H.at 0 rfl) (H.at 1 rfl) (H.at 2 rfl) (hPw H) (Mem.mapM (ke := kI .i64) (r := rm) (es := es1) H 3 rfl) hes1
          refine Hs.rung0 [3] 300 (fun _ => by kernel_rfl) ?_
          refine Hs.condT (by kernel_rfl) ?_
          refine Hs.run0 300 (fun _ => by kernel_rfl) ?_
          refine Hs.callMp 3 (X := List (Int × Value)) (r := rm) (es := es1) (fun es' => es') (fun _ => .int .i64 (W a')) (EsOk W) (by kernel_rfl) (fun w' H => hC w' (Eq.mp (by kernel_rfl) H)) (by kernel_rfl) (by kernel_rfl) fun es2 hes2 => ?_
          refine Hs.run0 300 (fun _ => by kernel_rfl) ?_
          refine Hs.slot 8 (.c (.v (.int .i64 (stepW (fun a => W a.toNat) ⟨5, (a' : Int), oy, ot⟩ n)))) rfl ((by kernel_rfl : _ = Value.int .i64 (if (1073741824 : Int) < IntKind.i64.wrap (n + 1 + W a') then 1073741824 else IntKind.i64.wrap (n + 1 + W a'))).trans (by rw [IntWalk.i64_in _ (by omega), ← eS]; rfl)) ?_
          refine Hs.rung0 [3] 300 (fun _ => by kernel_rfl) ?_
          refine Hs.condF (by kernel_rfl) ?_
          refine Hs.run0 300 (fun _ => by kernel_rfl) ?_
          refine Hs.slot 25 (.c (.v (.int .i64 (i + 1 : Nat)))) rfl ((by kernel_rfl : _ = Value.int .i64 (IntKind.i64.wrap ((i : Int) + 1))).trans (wrap_nextK (by omega))) ?_
          refine Hs.loop (by kernel_rfl) ?_
          exact Hs.goto (loopAt Tryz.f20 0) [0, 1, 2, 3] [.b false 59 [.v (.map (some rm))], .b false 29 [.v (.slice (some ⟨ab, aoff, none⟩) ps.length c)], .b false 60 [.v (.func (.func 20) #[] #[.pointer (some ⟨b5, 0, none⟩), .pointer (some ⟨b2, 0, none⟩), .pointer (some ⟨b6, 0, none⟩)])], HB.mp (kI .i64) rm es2] [(0, .c (.v (.int .i64 k))), (1, .c (.p 0 0)), (2, .c (.p 1 0)), (3, .c (.p 2 0)), (8, .c (.v (.int .i64 (stepW (fun a => W a.toNat) ⟨5, (a' : Int), oy, ot⟩ n)))), (23, .c (.v (.slice (some ⟨ob, ooff, none⟩) x.ops.length x.c))), (24, .c (.v (.int .i64 x.ops.length))), (25, .c (.v (.int .i64 (i + 1 : Nat))))] (by kernel_rfl) (by decide) (by kernel_rfl) (by kernel_rfl) (fun _ => (by kernel_rfl)) (fun u => hih (stepW (fun a => W a.toNat) ⟨5, (a' : Int), oy, ot⟩ n) es2 hbd.1 hbd.2 hop hes2 u)
        · by_cases h6 : oq = 6
          · subst h6
            rw [if_pos (by simp)] at hop
            obtain ⟨a', rfl⟩ : ∃ a' : Nat, oa = a' := ⟨oa.toNat, by have := (hfw _ hom (by simp)).1; dsimp only at this; omega⟩
            have hf := hfw _ hom (by simp)
            dsimp only at hf
            have hba := hW.bd a'
            have eS : stepW (fun a => W a.toNat) ⟨6, (a' : Int), oy, ot⟩ n = (if (1073741824 : Int) < n + 1 + W a' then 1073741824 else n + 1 + W a') := by unfold stepW; simp
            have hbd := stepW_bd (g := (fun a => W a.toNat)) (o := ⟨6, (a' : Int), oy, ot⟩) h0 hba.1
            have hC : ∀ w', Mem w [rm] ([b5, b2, b6, 0] ++ [b7]) [.b false 59 [.v (.map (some rm))], .b false 29 [.v (.slice (some ⟨ab, aoff, none⟩) ps.length c)], .b false 60 [.v (.func (.func 20) #[] #[.pointer (some ⟨b5, 0, none⟩), .pointer (some ⟨b2, 0, none⟩), .pointer (some ⟨b6, 0, none⟩)])], HB.mp (kI .i64) rm es1, .b true 36 [.v (.int .i64 6), .v (.int .i64 (a' : Int)), .v (.int .i64 oy), .v (.string ot)]] w' → Calls Tryz.prog 20 #[.int .i64 (a' : Int), .pointer (some ⟨b5, 0, none⟩), .pointer (some ⟨b2, 0, none⟩), .pointer (some ⟨b6, 0, none⟩)] w' fun e w2 => ∃ es', e = .returned (.int .i64 (W a')) ∧ Only [rm] w' w2 ∧ MapM (kI .i64) w2 rm es' ∧ EsOk W es' := fun w' H => ihd a' (by omega) (by omega) w' es1 (H.at 0 rfl) (H.at 1 rfl) (H.at 2 rfl) (hPw H) (Mem.mapM (ke := kI .i64) (r := rm) (es := es1) H 3 rfl) hes1
            refine Hs.rung0 [3] 300 (fun _ => by kernel_rfl) ?_
            refine Hs.condT (by kernel_rfl) ?_
            refine Hs.run0 300 (fun _ => by kernel_rfl) ?_
            refine Hs.callMp 3 (X := List (Int × Value)) (r := rm) (es := es1) (fun es' => es') (fun _ => .int .i64 (W a')) (EsOk W) (by kernel_rfl) (fun w' H => hC w' (Eq.mp (by kernel_rfl) H)) (by kernel_rfl) (by kernel_rfl) fun es2 hes2 => ?_
            refine Hs.run0 300 (fun _ => by kernel_rfl) ?_
            refine Hs.slot 8 (.c (.v (.int .i64 (stepW (fun a => W a.toNat) ⟨6, (a' : Int), oy, ot⟩ n)))) rfl ((by kernel_rfl : _ = Value.int .i64 (if (1073741824 : Int) < IntKind.i64.wrap (n + 1 + W a') then 1073741824 else IntKind.i64.wrap (n + 1 + W a'))).trans (by rw [IntWalk.i64_in _ (by omega), ← eS]; rfl)) ?_
            refine Hs.rung0 [3] 300 (fun _ => by kernel_rfl) ?_
            refine Hs.condT (by kernel_rfl) ?_
            refine Hs.run0 300 (fun _ => by kernel_rfl) ?_
            refine Hs.setM 3 keyW (k : Int) (.int .i64 (stepW (fun a => W a.toNat) ⟨6, (a' : Int), oy, ot⟩ n)) (es := es2) (r := rm) (by kernel_rfl) (by kernel_rfl) (by kernel_rfl) ?_
            refine Hs.run0 300 (fun _ => by kernel_rfl) ?_
            exact Hs.ret (v := .int .i64 (stepW (fun a => W a.toNat) ⟨6, (a' : Int), oy, ot⟩ n)) Tryz.func20 (by kernel_rfl) fun w' H => ⟨setE (k : Int) (.int .i64 (stepW (fun a => W a.toNat) ⟨6, (a' : Int), oy, ot⟩ n)) es2, by rw [hop], H.only, Mem.mapM (ke := kI .i64) (r := rm) (es := setE (k : Int) (.int .i64 (stepW (fun a => W a.toNat) ⟨6, (a' : Int), oy, ot⟩ n)) es2) H 3 (by kernel_rfl), by rw [← hop]; exact hes2.set k⟩
          · have eS : stepW (fun a => W a.toNat) ⟨oq, oa, oy, ot⟩ n = (if (1073741824 : Int) < n + 1 then 1073741824 else n + 1) := by unfold stepW; simp [h5, h6]
            have hbd : 0 ≤ stepW (fun a => W a.toNat) ⟨oq, oa, oy, ot⟩ n ∧ stepW (fun a => W a.toNat) ⟨oq, oa, oy, ot⟩ n ≤ 1073741824 := by rw [eS]; split <;> omega
            refine Hs.bool 34 (decide (oq = 5)) (by kernel_rfl) (fun h => absurd (of_decide_eq_true h) h5) (fun _ => ?_)
            refine Hs.rung0 [3] 300 (fun _ => by kernel_rfl) ?_
            refine Hs.cond (decide (oq = 6)) (by kernel_rfl) (fun h => absurd (of_decide_eq_true h) h6) (fun _ => ?_)
            refine Hs.run0 300 (fun _ => by kernel_rfl) ?_
            refine Hs.slot 8 (.c (.v (.int .i64 (stepW (fun a => W a.toNat) ⟨oq, oa, oy, ot⟩ n)))) rfl ((by kernel_rfl : _ = Value.int .i64 (if (1073741824 : Int) < n + 1 then 1073741824 else n + 1)).trans (by rw [← eS]; rfl)) ?_
            refine Hs.bool 50 (decide (oq = 6)) (by kernel_rfl) (fun h => absurd (of_decide_eq_true h) h6) (fun _ => ?_)
            refine Hs.rung0 [3] 300 (fun _ => by kernel_rfl) ?_
            refine Hs.cond (decide (oq = 1)) (by kernel_rfl) (fun h => ?_) (fun h => ?_)
            · have h := of_decide_eq_true h
              rw [if_pos (.inr h)] at hop
              refine Hs.run0 300 (fun _ => by kernel_rfl) ?_
              refine Hs.setM 3 keyW (k : Int) (.int .i64 (stepW (fun a => W a.toNat) ⟨oq, oa, oy, ot⟩ n)) (es := es1) (r := rm) (by kernel_rfl) (by kernel_rfl) (by kernel_rfl) ?_
              refine Hs.run0 300 (fun _ => by kernel_rfl) ?_
              exact Hs.ret (v := .int .i64 (stepW (fun a => W a.toNat) ⟨oq, oa, oy, ot⟩ n)) Tryz.func20 (by kernel_rfl) fun w' H => ⟨setE (k : Int) (.int .i64 (stepW (fun a => W a.toNat) ⟨oq, oa, oy, ot⟩ n)) es1, by rw [hop], H.only, Mem.mapM (ke := kI .i64) (r := rm) (es := setE (k : Int) (.int .i64 (stepW (fun a => W a.toNat) ⟨oq, oa, oy, ot⟩ n)) es1) H 3 (by kernel_rfl), by rw [← hop]; exact hes1.set k⟩
            · have h := of_decide_eq_false h
              rw [if_neg (by simp [h6, h])] at hop
              refine Hs.run0 300 (fun _ => by kernel_rfl) ?_
              refine Hs.slot 25 (.c (.v (.int .i64 (i + 1 : Nat)))) rfl ((by kernel_rfl : _ = Value.int .i64 (IntKind.i64.wrap ((i : Int) + 1))).trans (wrap_nextK (by omega))) ?_
              refine Hs.loop (by kernel_rfl) ?_
              exact Hs.goto (loopAt Tryz.f20 0) [0, 1, 2, 3] [.b false 59 [.v (.map (some rm))], .b false 29 [.v (.slice (some ⟨ab, aoff, none⟩) ps.length c)], .b false 60 [.v (.func (.func 20) #[] #[.pointer (some ⟨b5, 0, none⟩), .pointer (some ⟨b2, 0, none⟩), .pointer (some ⟨b6, 0, none⟩)])], HB.mp (kI .i64) rm es1] [(0, .c (.v (.int .i64 k))), (1, .c (.p 0 0)), (2, .c (.p 1 0)), (3, .c (.p 2 0)), (8, .c (.v (.int .i64 (stepW (fun a => W a.toNat) ⟨oq, oa, oy, ot⟩ n)))), (23, .c (.v (.slice (some ⟨ob, ooff, none⟩) x.ops.length x.c))), (24, .c (.v (.int .i64 x.ops.length))), (25, .c (.v (.int .i64 (i + 1 : Nat))))] (by kernel_rfl) (by decide) (by kernel_rfl) (by kernel_rfl) (fun _ => (by kernel_rfl)) (fun u => hih (stepW (fun a => W a.toNat) ⟨oq, oa, oy, ot⟩ n) es1 hbd.1 hbd.2 hop hes1 u)
    refine Hs.enter Tryz.func20 [rm] [b5, b2, b6, 0] _ [.c (.v (.int .i64 k)), .c (.p 0 0), .c (.p 1 0), .c (.p 2 0)] H0 (by kernel_rfl) (by kernel_rfl) ?_
    refine Hs.run0 300 (fun _ => by kernel_rfl) ?_
    cases hl : lookM (k : Int) es with
    | some v =>
      obtain rfl := hes k v hl
      refine Hs.getM (r := rm) (es := es) keyW (k : Int) true (.tuple #[.int .i64 (W k), .bool true]) (by rw [hl]; rfl) (by kernel_rfl) (fun w' H => Mem.mapM (ke := kI .i64) (r := rm) (es := es) H 3 (by kernel_rfl)) ?_
      refine Hs.run0 300 (fun _ => by kernel_rfl) ?_
      refine Hs.condT (by kernel_rfl) ?_
      refine Hs.run0 300 (fun _ => by kernel_rfl) ?_
      exact Hs.ret (v := .int .i64 (W k)) Tryz.func20 (by kernel_rfl) fun w' H => ⟨es, rfl, H.only, Mem.mapM (ke := kI .i64) (r := rm) (es := es) H 3 (by kernel_rfl), hes⟩
    | none =>
      refine Hs.getM (r := rm) (es := es) keyW (k : Int) true (.tuple #[.int .i64 0, .bool false]) (by rw [hl]; rfl) (by kernel_rfl) (fun w' H => Mem.mapM (ke := kI .i64) (r := rm) (es := es) H 3 (by kernel_rfl)) ?_
      refine Hs.run0 300 (fun _ => by kernel_rfl) ?_
      refine Hs.condF (by kernel_rfl) ?_
      refine Hs.run0 300 (fun _ => by kernel_rfl) ?_
      refine Hs.idx (b := ab) (off := aoff) (len := ps.length) (c := c) (i := k) elemPr hk (by kernel_rfl) ?_
      refine Hs.run0 300 (fun _ => by kernel_rfl) ?_
      refine Hs.ldc (E' := 31) (b := ab) (off := aoff + k * 2 + 1) (.slice x.A x.ops.length x.c) (by kernel_rfl) (fun w' H => rdX_cell cPG_len (hPw H).rd hx (j := 1) rfl) (by kernel_rfl) ?_
      refine Hs.run0 300 (fun _ => by kernel_rfl) ?_
      refine Hs.loop (by kernel_rfl) ?_
      exact Hs.goto (loopAt Tryz.f20 0) [0, 1, 2, 3] [.b false 59 [.v (.map (some rm))], .b false 29 [.v (.slice (some ⟨ab, aoff, none⟩) ps.length c)], .b false 60 [.v (.func (.func 20) #[] #[.pointer (some ⟨b5, 0, none⟩), .pointer (some ⟨b2, 0, none⟩), .pointer (some ⟨b6, 0, none⟩)])], HB.mp (kI .i64) rm es] [(0, .c (.v (.int .i64 k))), (1, .c (.p 0 0)), (2, .c (.p 1 0)), (3, .c (.p 2 0)), (8, .c (.v (.int .i64 (0 : Int)))), (23, .c (.v (.slice x.A x.ops.length x.c))), (24, .c (.v (.int .i64 x.ops.length))), (25, .c (.v (.int .i64 (0 : Nat))))] (by kernel_rfl) (by decide) (by kernel_rfl) (by kernel_rfl) (fun _ => (by kernel_rfl)) (fun u => J x.ops.length 0 (by omega) (by omega) 0 es (Int.le_refl 0) (by omega) (by rw [List.drop_zero]; exact hWe) hes u)
end Go.Proofs.YtmmcamkmglpgiaaGreatDoor

namespace Go.Proofs.YtmmcamkmglpgiaaGreatDoor
open Go.RowKit Go.MapKept
set_option linter.all false
set_option maxRecDepth 100000
theorem check_len {l : List PM} (h : checkM l = 0) : 1 ≤ l.length ∧ l.length ≤ 32 := by
  unfold checkM at h
  cases hw : withinB (l.length : Int) 1 32 with
  | false => rw [hw] at h; cases h
  | true =>
    have : (1 : Int) ≤ (l.length : Int) ∧ (l.length : Int) ≤ 32 := by simpa [withinB] using hw
    omega
theorem check_wrongs {l : List PM} (h : checkM l = 0) : wrongs l.length l 0 = 0 ∧ dupM [] (l.map Prod.fst) = 0 := by
  have hl := check_len h
  unfold checkM at h
  cases hw : withinB (l.length : Int) 1 32 with
  | false => rw [hw] at h; cases h
  | true =>
    rw [hw] at h
    dsimp only at h
    by_cases h2 : wrongs l.length l 0 = 0
    · rw [if_pos h2] at h; exact ⟨h2, h⟩
    · rw [if_neg h2] at h; exact absurd h h2
theorem wrongs_all {q : Int} : ∀ {l : List PM} {i : Nat}, wrongs q l i = 0 → ∀ (k : Nat) (m : PM), l[k]? = some m → wrongM m ((i + k : Nat) : Int) q = 0
  | [], i, _, k, m, hk => by simp at hk
  | a :: l, i, h, 0, m, hk => by
    simp at hk; subst hk
    rw [wrongs_cons] at h
    by_cases h2 : wrongM a i q = 0
    · exact h2
    · rw [if_neg h2] at h; exact absurd h h2
  | a :: l, i, h, k + 1, m, hk => by
    rw [wrongs_cons] at h
    by_cases h2 : wrongM a i q = 0
    · rw [if_pos h2] at h
      have := wrongs_all h k m (by simpa using hk)
      rwa [show i + 1 + k = i + (k + 1) by omega] at this
    · rw [if_neg h2] at h; exact absurd h h2
theorem wrongM_ok {m : PM} {p q : Int} (h : wrongM m p q = 0) : nmB m.1 = true ∧ m.2.length ≤ 64 ∧ ∀ o ∈ m.2, rightB o p q = true := by
  unfold wrongM at h
  cases h1 : nmB m.1 with
  | false => rw [h1] at h; cases h
  | true =>
    rw [h1] at h
    dsimp only at h
    by_cases h2 : (64 : Int) < m.2.length
    · rw [if_pos h2] at h; cases h
    · rw [if_neg h2] at h
      cases h3 : badOps m.2 p q with
      | true => rw [h3] at h; cases h
      | false =>
        refine ⟨rfl, by omega, fun o ho => ?_⟩
        unfold badOps at h3
        have := List.any_eq_false.1 h3 o ho
        simpa using this
theorem check_prog {l : List PM} (h : checkM l = 0) {k : Nat} {m : PM} (hk : l[k]? = some m) : nmB m.1 = true ∧ m.2.length ≤ 64 ∧ ∀ o ∈ m.2, rightB o k l.length = true := by
  have := wrongs_all (check_wrongs h).1 k m hk
  rw [Nat.zero_add] at this
  exact wrongM_ok this
theorem right_later {o : OP9} {p q : Int} (h : rightB o p q = true) (hk : o.k = 5 ∨ o.k = 6) : laterB p q o.a = true := by
  unfold rightB restB at h
  simp only [Bool.and_eq_true] at h
  have h2 := h.2.2.2.2
  rcases hk with e | e
  · rw [e] at h2; exact h2
  · rw [e] at h2; exact h2
def workF (l : List PM) : Nat → Nat → Int
  | 0, _ => 0
  | d + 1, k => match l[k]? with
    | none => 0
    | some m => opsW (fun a => workF l d a.toNat) m.2 0
theorem opsW_congr {g g' : Int → Int} : ∀ (ops : List OP9) (n : Int), (∀ o ∈ ops, (o.k = 5 ∨ o.k = 6) → g o.a = g' o.a) → opsW g ops n = opsW g' ops n
  | [], n, _ => rfl
  | o :: l, n, h => by
    have e : stepW g o n = stepW g' o n := by
      unfold stepW
      by_cases h5 : o.k = 5 ∨ o.k = 6
      · rw [h o (by simp) h5]
      · simp only [if_neg h5]
    rw [opsW_cons, opsW_cons, e, opsW_congr l (stepW g' o n) (fun o ho => h o (by simp [ho]))]
theorem opsW_bd {g : Int → Int} (hg : ∀ a, 0 ≤ g a) : ∀ (ops : List OP9) (n : Int), 0 ≤ n → n ≤ 1073741824 → 0 ≤ opsW g ops n ∧ opsW g ops n ≤ 1073741824
  | [], n, h0, h1 => ⟨h0, h1⟩
  | o :: l, n, h0, h1 => by
    have h2 := stepW_bd (g := g) (o := o) h0 (hg o.a)
    rw [opsW_cons]
    split
    · exact h2
    · exact opsW_bd hg l _ h2.1 h2.2
theorem workF_bd (l : List PM) : ∀ (d k : Nat), 0 ≤ workF l d k ∧ workF l d k ≤ 1073741824
  | 0, k => ⟨Int.le_refl _, (by decide : (0 : Int) ≤ 1073741824)⟩
  | d + 1, k => by
    unfold workF
    split
    · exact ⟨Int.le_refl _, by decide⟩
    · exact opsW_bd (fun a => (workF_bd l d a.toNat).1) _ _ (Int.le_refl _) (by decide)
def Fwd (l : List PM) : Prop := ∀ (k : Nat) (m : PM) (o : OP9), l[k]? = some m → o ∈ m.2 → (o.k = 5 ∨ o.k = 6) → (k : Int) < o.a ∧ o.a < l.length
theorem workF_fuel {l : List PM} (hf : Fwd l) : ∀ (d1 d2 k : Nat), l.length - k ≤ d1 → l.length - k ≤ d2 → k < l.length → workF l d1 k = workF l d2 k
  | 0, d2, k, h1, h2, h3 => by omega
  | d1 + 1, 0, k, h1, h2, h3 => by omega
  | d1 + 1, d2 + 1, k, h1, h2, h3 => by
    unfold workF
    cases hk : l[k]? with
    | none => rfl
    | some m =>
      dsimp only
      refine opsW_congr _ _ fun o ho h5 => ?_
      have := hf k m o hk ho h5
      exact workF_fuel hf d1 d2 o.a.toNat (by omega) (by omega) (by omega)
def workW (l : List PM) (k : Nat) : Int := workF l (l.length - k) k
theorem workW_ok {l : List PM} (hf : Fwd l) : WorkOk l (workW l) := by
  refine ⟨fun k m hk => ?_, fun k => workF_bd l _ k, hf⟩
  have hkl := (List.getElem?_eq_some_iff.1 hk).1
  obtain ⟨d, hd⟩ : ∃ d, l.length - k = d + 1 := ⟨l.length - k - 1, by omega⟩
  show workF l (l.length - k) k = _
  rw [hd]
  unfold workF
  rw [hk]
  dsimp only
  refine opsW_congr _ _ fun o ho h5 => ?_
  have := hf k m o hk ho h5
  exact workF_fuel hf d _ o.a.toNat (by omega) (Nat.le_refl _) (by omega)
theorem check_fwd {l : List PM} (h : checkM l = 0) : Fwd l := fun k m o hk ho h5 => by
  have := right_later ((check_prog h hk).2.2 o ho) h5
  have : (k : Int) < o.a ∧ o.a < (l.length : Int) := by simpa [laterB] using this
  exact this
/-- How many operations a run of a program makes at most. -/
def workM (l : List PM) (i : Int) : Int := if checkM l = 0 ∧ 0 ≤ i ∧ i < l.length then workW l i.toNat else 0
set_option maxHeartbeats 1000000 in
theorem work_any19 (ps : List PG) (A : Option Addr) (c : Nat) (i : Int) (w : World) (h : Pgs w A c ps) : Calls Tryz.prog 11 #[.slice A ps.length c, .int .i64 i] w fun e w' => e = .returned (.int .i64 (workM (ps.map PG.m) i)) ∧ Only [] w w' := by
  refine Hs.enter Tryz.func11 [] [] [] [.c (.v (.slice A ps.length c)), .c (.v (.int .i64 i))] (Mem.start0 w) (by kernel_rfl) (by kernel_rfl) ?_
  refine Hs.run1 300 (fun _ => by kernel_rfl) fun b2 => ?_
  refine Hs.callV (v := .int .i64 (checkM (ps.map PG.m))) (fun w' H => check_any ps A c w' (h.only H.only)) (by kernel_rfl) ?_
  refine Hs.run0 300 (fun _ => by kernel_rfl) ?_
  refine Hs.bool 10 (!decide (checkM (ps.map PG.m) = 0)) (by kernel_rfl) (fun h1 => ?_) (fun h1 => ?_)
  · have h1 : ¬ checkM (ps.map PG.m) = 0 := by simpa using h1
    refine Hs.rung0 [3, 7] 300 (fun _ => by kernel_rfl) ?_
    refine Hs.condT (by kernel_rfl) ?_
    refine Hs.run0 300 (fun _ => by kernel_rfl) ?_
    exact Hs.ret (v := .int .i64 0) Tryz.func11 (by kernel_rfl) fun w' H => ⟨by unfold workM; rw [if_neg (fun h => h1 h.1)], H.only⟩
  · have h1 : checkM (ps.map PG.m) = 0 := by simpa using h1
    refine Hs.rung0 [3] 300 (fun _ => by kernel_rfl) ?_
    refine Hs.bool 14 (decide (i < 0)) (by kernel_rfl) (fun h2 => ?_) (fun h2 => ?_)
    · have h2 := of_decide_eq_true h2
      refine Hs.rung0 [3, 7] 300 (fun _ => by kernel_rfl) ?_
      refine Hs.condT (by kernel_rfl) ?_
      refine Hs.run0 300 (fun _ => by kernel_rfl) ?_
      exact Hs.ret (v := .int .i64 0) Tryz.func11 (by kernel_rfl) fun w' H => ⟨by unfold workM; rw [if_neg (fun h => by omega)], H.only⟩
    · have h2 := of_decide_eq_false h2
      refine Hs.rung0 [3, 7] 300 (fun _ => by kernel_rfl) ?_
      refine Hs.cond (decide ((ps.length : Int) ≤ i)) (by kernel_rfl) (fun h3 => ?_) (fun h3 => ?_)
      · have h3 := of_decide_eq_true h3
        refine Hs.run0 300 (fun _ => by kernel_rfl) ?_
        exact Hs.ret (v := .int .i64 0) Tryz.func11 (by kernel_rfl) fun w' H => ⟨by unfold workM; rw [if_neg (fun h => by rw [List.length_map] at h; omega)], H.only⟩
      · have h3 := of_decide_eq_false h3
        obtain ⟨i, rfl⟩ : ∃ j : Nat, i = j := ⟨i.toNat, by omega⟩
        have hl := check_len h1
        rw [List.length_map] at hl
        have hops : ∀ x ∈ ps, x.ops.length ≤ 1000 := fun x hx => by
          obtain ⟨k, hk⟩ := List.mem_iff_getElem?.1 hx
          have := (check_prog h1 (k := k) (m := x.m) (by rw [List.getElem?_map, hk]; rfl)).2.1
          have : x.ops.length ≤ 64 := this
          omega
        have eW : workM (ps.map PG.m) i = workW (ps.map PG.m) i := by
          unfold workM
          rw [if_pos ⟨h1, by omega, by rw [List.length_map]; omega⟩, Int.toNat_natCast]
        rw [eW]
        have hC : ∀ rm b5 b6 w', Mem w [] ([] ++ [b2] ++ [rm] ++ [b5, b6]) [.b true 29 [.v (.slice A ps.length c)], HB.mp (kI .i64) rm [], .b true 59 [.v (.map (some rm))], .b true 60 [.v (.func (.func 20) #[] #[.pointer (some ⟨b5, 0, none⟩), .pointer (some ⟨b2, 0, none⟩), .pointer (some ⟨b6, 0, none⟩)])]] w' → Calls Tryz.prog 20 #[.int .i64 (i : Int), .pointer (some ⟨b5, 0, none⟩), .pointer (some ⟨b2, 0, none⟩), .pointer (some ⟨b6, 0, none⟩)] w' fun e w2 => ∃ es', e = .returned (.int .i64 (workW (ps.map PG.m) i)) ∧ Only [rm] w' w2 ∧ MapM (kI .i64) w2 rm es' ∧ EsOk (workW (ps.map PG.m)) es' := fun rm b5 b6 w' H => by
          have hnd : [b2, rm, b5, b6].Nodup := (Mem.bks H rfl).1
          have hnd2 : [b5, b2, b6, rm].Nodup := by
            simp only [List.nodup_cons, List.mem_cons, List.not_mem_nil, or_false, not_or, not_false_eq_true, List.nodup_nil, and_true] at hnd ⊢
            obtain ⟨⟨q1, q2, q3⟩, ⟨q4, q5⟩, q6⟩ := hnd
            exact ⟨⟨Ne.symm q2, q6, Ne.symm q4⟩, ⟨q3, q1⟩, Ne.symm q5⟩
          exact work1_any ps A c (workW (ps.map PG.m)) (workW_ok (check_fwd h1)) (by omega) hops b5 b2 b6 rm hnd2 ps.length i (by omega) (by omega) w' [] (H.at 2 rfl) (H.at 0 rfl) (H.at 3 rfl) (h.only H.only) (Mem.mapM (ke := kI .i64) (r := rm) (es := []) H 1 rfl) (fun j v hj => by cases hj)
        refine Hs.run0 300 (fun _ => by kernel_rfl) ?_
        refine Hs.mkM (T := 59) (kI .i64) (by kernel_rfl) (by kernel_rfl) fun rm => ?_
        refine Hs.run2 300 (fun _ => by kernel_rfl) fun b5 b6 => ?_
        refine Hs.callMp 1 (X := List (Int × Value)) (r := rm) (es := []) (fun es' => es') (fun _ => .int .i64 (workW (ps.map PG.m) i)) (EsOk (workW (ps.map PG.m))) (by kernel_rfl) (fun w' H => hC rm b5 b6 w' (Eq.mp (by kernel_rfl) H)) (by kernel_rfl) (by kernel_rfl) fun es2 _ => ?_
        refine Hs.run0 300 (fun _ => by kernel_rfl) ?_
        exact Hs.ret (v := .int .i64 (workW (ps.map PG.m) i)) Tryz.func11 (by kernel_rfl) fun w' H => ⟨rfl, H.only⟩
end Go.Proofs.YtmmcamkmglpgiaaGreatDoor

namespace Go.Proofs.YtmmcamkmglpgiaaGreatDoor
open Go.RowKit Go.Shelf
set_option linter.all false
set_option maxRecDepth 100000
theorem decFrom_app : ∀ (a b : List UInt8) (acc : Nat), Lib.decFrom acc (a ++ b) = (Lib.decFrom acc a).bind fun n => Lib.decFrom n b
  | [], b, acc => rfl
  | c :: a, b, acc => by
    have e : ∀ l, Lib.decFrom acc (c :: l) = (match Lib.digitVal c with
      | some d => Lib.decFrom (acc * 10 + d) l
      | none => none) := fun l => rfl
    rw [List.cons_append, e, e]
    cases Lib.digitVal c with
    | none => rfl
    | some d => exact decFrom_app a b _
theorem digit_of {d : Nat} (h : d < 10) : Lib.digitVal (UInt8.ofNat (48 + d)) = some d := by
  have : d = 0 ∨ d = 1 ∨ d = 2 ∨ d = 3 ∨ d = 4 ∨ d = 5 ∨ d = 6 ∨ d = 7 ∨ d = 8 ∨ d = 9 := by omega
  rcases this with rfl | rfl | rfl | rfl | rfl | rfl | rfl | rfl | rfl | rfl <;> rfl
theorem decFrom_dig {acc d : Nat} (h : d < 10) : Lib.decFrom acc [UInt8.ofNat (48 + d)] = some (acc * 10 + d) := by
  unfold Lib.decFrom
  rw [digit_of h]
  rfl
theorem dec_digits (u : Nat) : Lib.decFrom 0 (Lib.decDigits u) = some u := by
  induction u using Nat.strongRecOn with
  | _ u ih =>
    rw [Lib.decDigits]
    by_cases h : u < 10
    · rw [dif_pos h, decFrom_dig h]
      simp
    · rw [dif_neg h, decFrom_app, ih (u / 10) (by omega)]
      show Lib.decFrom (u / 10) [_] = _
      rw [decFrom_dig (by omega)]
      congr 1
      omega
theorem digits_in {u : Nat} {b : UInt8} (h : b ∈ Lib.decDigits u) : 48 ≤ b.toNat ∧ b.toNat ≤ 57 := by
  obtain ⟨k, hk⟩ := List.getElem?_of_mem h
  obtain ⟨d, hd⟩ := Lib.digit_of_decFrom _ _ _ (dec_digits u) k b hk
  have := Lib.digitVal_eq hd
  exact ⟨this.1, this.2.1⟩
theorem digits_len (k : Nat) : ∀ u : Nat, u < 10 ^ (k + 1) → (Lib.decDigits u).length ≤ k + 1 := by
  induction k with
  | zero =>
    intro u h
    rw [Lib.decDigits, dif_pos (by simpa using h)]
    simp
  | succ k ih =>
    intro u h
    rw [Lib.decDigits]
    by_cases h2 : u < 10
    · rw [dif_pos h2]; simp
    · rw [dif_neg h2]
      have := ih (u / 10) (by rw [Nat.pow_succ] at h; omega)
      simp
      omega
theorem atoi_itoa {n : Int} (h0 : 0 ≤ n) (h1 : n ≤ 999999) : Lib.atoiAll (Lib.itoa n) = .ok n := by
  obtain ⟨u, rfl⟩ : ∃ u : Nat, n = u := ⟨n.toNat, by omega⟩
  have e : Lib.itoa (u : Int) = Lib.decDigits u := by
    unfold Lib.itoa
    rw [if_neg (by omega), Int.toNat_natCast]
  have hl := digits_len 5 u (by omega)
  have hd := dec_digits u
  rw [e, Lib.atoiAll_short _ (by omega)]
  have hin : ∀ b ∈ Lib.decDigits u, 48 ≤ b.toNat ∧ b.toNat ≤ 57 := fun b hb => digits_in hb
  cases hL : Lib.decDigits u with
  | nil =>
    have : (Lib.decDigits u).length ≠ 0 := by
      rw [Lib.decDigits]
      by_cases h2 : u < 10
      · rw [dif_pos h2]; simp
      · rw [dif_neg h2]; simp
    rw [hL] at this
    exact absurd rfl this
  | cons b r =>
    rw [hL] at hin hd
    have hb := hin b (by simp)
    have h45 : (b == 45) = false := by
      rw [beq_eq_false_iff_ne]
      rintro rfl
      exact absurd hb.1 (by decide)
    have h43 : (b == 43) = false := by
      rw [beq_eq_false_iff_ne]
      rintro rfl
      exact absurd hb.1 (by decide)
    have e1 : Lib.decNat (b :: r) = some u := by
      unfold Lib.decNat
      rw [if_neg (by simp), hd]
    have e2 : Lib.atoi (b :: r) = some (u : Int) := by
      show (if b == 45 then _ else if b == 43 then _ else (Lib.decNat (b :: r)).map fun (m : Nat) => (m : Int)) = _
      rw [h45, h43, e1]
      rfl
    rw [e2]
    rfl
theorem num_itoa {n : Int} (h0 : 0 ≤ n) (h1 : n ≤ 999999) : numOk (Lib.itoa n) = true ∧ atoiN (Lib.itoa n) = n := by
  have h := atoi_itoa h0 h1
  have e1 : atoiN (Lib.itoa n) = n := by unfold atoiN; rw [h]
  refine ⟨?_, e1⟩
  unfold numOk
  rw [e1, show atoiE (Lib.itoa n) = true by unfold atoiE; rw [h]]
  simp [withinB]
  exact ⟨h0, h1⟩
theorem itoa_in {n : Int} (h0 : 0 ≤ n) {b : UInt8} (h : b ∈ Lib.itoa n) : 48 ≤ b.toNat ∧ b.toNat ≤ 57 := by
  unfold Lib.itoa at h
  rw [if_neg (by omega)] at h
  exact digits_in h
theorem writ_big : ∀ n : Fin 256, ∀ b ∈ writB (UInt8.ofNat n.val), 32 < b.toNat := by decide +kernel
theorem writ_in {s : List UInt8} {b : UInt8} (h : b ∈ writL s) : 32 < b.toNat := by
  unfold writL at h
  obtain ⟨c, _, hb⟩ := List.mem_flatMap.1 h
  exact u8_all (p := fun c => ∀ b ∈ writB c, 32 < b.toNat) writ_big c b hb
theorem writ_hex : ∀ n : Fin 256, (digI (hexD ((UInt8.ofNat n.val).toNat / 16)).toNat = ((UInt8.ofNat n.val).toNat / 16 : Nat) ∧ digI (hexD ((UInt8.ofNat n.val).toNat % 16)).toNat = ((UInt8.ofNat n.val).toNat % 16 : Nat)) := by decide +kernel
theorem readB_self (k : Nat) (c : UInt8) (l out : List UInt8) (h : itselfB c = true) : readB (k + 1) (c :: l) out = readB k l (out ++ [c]) := by
  show (match itselfB c with | true => readB k l (out ++ [c]) | false => _) = _
  rw [h]
theorem writ_read : ∀ (s : List UInt8) (k : Nat) (out : List UInt8), (writL s).length < k → readB k (writL s) out = some (out ++ s)
  | [], k + 1, out, _ => by simp [writL, readB]
  | c :: s, k + 1, out, h => by
    have e : writL (c :: s) = writB c ++ writL s := rfl
    rw [e] at h ⊢
    cases hi : itselfB c with
    | true =>
      have ew : writB c = [c] := by unfold writB; rw [if_pos hi]
      rw [ew] at h ⊢
      rw [List.singleton_append, readB_self k c _ _ hi, writ_read s k (out ++ [c]) (by simp at h; omega)]
      simp
    | false =>
      have ew : writB c = [92, hexD (c.toNat / 16), hexD (c.toNat % 16)] := by unfold writB; rw [if_neg (by rw [hi]; decide)]
      rw [ew] at h ⊢
      obtain ⟨h1, h2⟩ := u8_all (p := fun c => digI (hexD (c.toNat / 16)).toNat = (c.toNat / 16 : Nat) ∧ digI (hexD (c.toNat % 16)).toNat = (c.toNat % 16 : Nat)) writ_hex c
      have hc := c.toNat_lt
      show readB (k + 1) (92 :: hexD (c.toNat / 16) :: hexD (c.toNat % 16) :: writL s) out = _
      rw [readB_esc k 92 _ out (by decide)]
      dsimp only
      rw [show (!decide (((92 : UInt8).toNat : Int) = 92)) = false by decide, h1, h2]
      dsimp only
      rw [decide_eq_false (by omega), decide_eq_false (by omega)]
      have hv : hexV ((c.toNat / 16 : Nat) : Int) ((c.toNat % 16 : Nat) : Int) = (c.toNat : Int) := by
        rw [hexV_in (by omega) (by omega)]
        omega
      rw [hv, show itselfI (c.toNat : Int) = false from hi]
      dsimp only
      have e2 : (c.toNat : Int).toNat.toUInt8 = c := by
        rw [Int.toNat_natCast]
        exact UInt8.ofNat_toNat
      rw [e2]
      show readB k (writL s) (out ++ [c]) = _
      rw [writ_read s k (out ++ [c]) (by simp at h; omega)]
      simp
/-- What of an operation a line tells. -/
structure OpFit (o : OP9) (k : Nat) (r : SoR) : Prop where
  kk : o.k = k
  k1 : 1 ≤ k
  row : sortRows[k]? = some r
  a : r.2.1 = 1 ∨ r.2.1 = 2 → 0 ≤ o.a ∧ o.a ≤ 999999
  b : r.2.1 = 2 → 0 ≤ o.b ∧ o.b ≤ 999999
  a0 : r.2.1 = 0 ∨ r.2.1 = 3 → o.a = 0
  b0 : r.2.1 ≠ 2 → o.b = 0
  t0 : r.2.1 ≠ 3 → o.t = ⟨#[]⟩
theorem textE_no {t : ByteArray} (h : textE t = false) : t = ⟨#[]⟩ := by
  unfold textE at h
  have h2 : t.toList = (⟨#[]⟩ : ByteArray).toList := by simpa using h
  rw [ByteArray.toList_eq, ByteArray.toList_eq] at h2
  exact bytes_extS h2
theorem isS_bd {n : Int} (h : isS n = true) : 0 ≤ n ∧ n ≤ 999999 := by
  unfold isS at h
  simp only [Bool.or_eq_true, Bool.and_eq_true, decide_eq_true_eq] at h
  omega
theorem isF_bd {n : Int} (h : isFlagB n = true) : 0 ≤ n ∧ n ≤ 999999 := by
  unfold isFlagB at h
  simp only [Bool.or_eq_true, Bool.and_eq_true, decide_eq_true_eq] at h
  omega
theorem within_bd {n lo hi : Int} (h : withinB n lo hi = true) : lo ≤ n ∧ n ≤ hi := by
  unfold withinB at h
  simpa using h
theorem ask_fit (k : Nat) (a b p q : Int) (t : ByteArray) (hp : 0 ≤ p) (hq : q ≤ 32) (hk : k = 1 ∨ k = 2 ∨ k = 3 ∨ k = 4 ∨ k = 5 ∨ k = 6 ∨ k = 7 ∨ k = 8 ∨ k = 9 ∨ k = 10 ∨ k = 11 ∨ k = 12 ∨ k = 13 ∨ k = 14 ∨ k = 15 ∨ k = 16) (h : askB k p q ⟨(k : Nat), a, b, t⟩ = true) : (shN k = 1 ∨ shN k = 2 → 0 ≤ a ∧ a ≤ 999999) ∧ (shN k = 2 → 0 ≤ b ∧ b ≤ 999999) := by
  rcases hk with rfl | rfl | rfl | rfl | rfl | rfl | rfl | rfl | rfl | rfl | rfl | rfl | rfl | rfl | rfl | rfl
  · have := within_bd (show withinB a 0 255 = true from h); exact ⟨fun _ => by omega, fun h => absurd h (by decide)⟩
  · exact ⟨fun h => absurd h (by decide), fun h => absurd h (by decide)⟩
  · exact ⟨fun h => absurd h (by decide), fun h => absurd h (by decide)⟩
  · have := within_bd (show withinB a 1 1024 = true from h); exact ⟨fun _ => by omega, fun h => absurd h (by decide)⟩
  · have h2 : laterB p q a = true := h
    unfold laterB at h2
    simp only [Bool.and_eq_true, decide_eq_true_eq] at h2
    exact ⟨fun _ => by omega, fun h => absurd h (by decide)⟩
  · have h2 : laterB p q a = true := h
    unfold laterB at h2
    simp only [Bool.and_eq_true, decide_eq_true_eq] at h2
    exact ⟨fun _ => by omega, fun h => absurd h (by decide)⟩
  · have := within_bd (show withinB a 0 3 = true from h); exact ⟨fun _ => by omega, fun h => absurd h (by decide)⟩
  · have h2 : (withinB a 0 4 && isS b) = true := h
    rw [Bool.and_eq_true] at h2
    have := within_bd h2.1
    exact ⟨fun _ => by omega, fun _ => isS_bd h2.2⟩
  · have := within_bd (show withinB a 0 2 = true from h); exact ⟨fun _ => by omega, fun h => absurd h (by decide)⟩
  · exact ⟨fun h => absurd h (by decide), fun h => absurd h (by decide)⟩
  · have := within_bd (show withinB a 0 1 = true from h); exact ⟨fun _ => by omega, fun h => absurd h (by decide)⟩
  · have h2 : (isS a && (!sureB a && withinB b 0 2)) = true := h
    simp only [Bool.and_eq_true] at h2
    have := within_bd h2.2.2
    exact ⟨fun _ => isS_bd h2.1, fun _ => by omega⟩
  · have h2 : (isS a && withinB b 0 1) = true := h
    rw [Bool.and_eq_true] at h2
    have := within_bd h2.2
    exact ⟨fun _ => isS_bd h2.1, fun _ => by omega⟩
  · have := within_bd (show withinB a 0 1000 = true from h); exact ⟨fun _ => by omega, fun h => absurd h (by decide)⟩
  · have h2 : (isFlagB a && withinB b 0 1) = true := h
    rw [Bool.and_eq_true] at h2
    have := within_bd h2.2
    exact ⟨fun _ => isF_bd h2.1, fun _ => by omega⟩
  · exact ⟨fun h => absurd h (by decide), fun h => absurd h (by decide)⟩
theorem sh_row (k : Nat) (h1 : 1 ≤ k) (h2 : k ≤ 16) : ∃ r, sortRows[k]? = some r ∧ r.2.1 = (shN k : Int) ∧ ixI r.1 = k ∧ (∃ c s, r.1 = c :: s ∧ c ≠ 112) ∧ (∀ b ∈ r.1, 32 < b.toNat) ∧ shK k = r.2.1 := by
  have hk : k = 1 ∨ k = 2 ∨ k = 3 ∨ k = 4 ∨ k = 5 ∨ k = 6 ∨ k = 7 ∨ k = 8 ∨ k = 9 ∨ k = 10 ∨ k = 11 ∨ k = 12 ∨ k = 13 ∨ k = 14 ∨ k = 15 ∨ k = 16 := by omega
  rcases hk with rfl | rfl | rfl | rfl | rfl | rfl | rfl | rfl | rfl | rfl | rfl | rfl | rfl | rfl | rfl | rfl <;> exact ⟨_, rfl, rfl, by kernel_rfl, ⟨_, _, rfl, by decide⟩, by decide, rfl⟩
theorem right_fit {o : OP9} {p q : Int} (hp : 0 ≤ p) (hq : q ≤ 32) (h : rightB o p q = true) : ∃ k r, OpFit o k r ∧ k ≤ 16 := by
  obtain ⟨kk, a, b, t⟩ := o
  unfold rightB at h
  rw [Bool.and_eq_true] at h
  have hw := within_bd h.1
  have h2 := h.2
  dsimp only at h2 hw
  obtain ⟨k, rfl⟩ : ∃ k : Nat, kk = k := ⟨kk.toNat, by omega⟩
  rw [Int.toNat_natCast] at h2
  obtain ⟨r, hr, hs, -, -, -, -⟩ := sh_row k (by omega) (by omega)
  unfold restB at h2
  simp only [Bool.and_eq_true, Bool.not_eq_true', Bool.and_eq_false_imp, Bool.not_eq_true', Nat.beq_eq_true_eq] at h2
  obtain ⟨ht, hb, ha, hq2⟩ := h2
  have hf := ask_fit k a b p q t hp hq (by omega) hq2
  have sne : ∀ j : Nat, shN k ≠ j → (Nat.beq (shN k) j) = false := fun j hj => by
    cases e : Nat.beq (shN k) j with
    | false => rfl
    | true => exact absurd (Nat.eq_of_beq_eq_true e) hj
  refine ⟨k, r, ⟨rfl, by omega, hr, fun h => hf.1 (by omega), fun h => hf.2 (by omega), fun h => ?_, fun h => ?_, fun h => ?_⟩, by omega⟩
  · have := ha ⟨sne 2 (by omega), sne 1 (by omega)⟩
    simpa using this
  · have := hb (sne 2 (by omega))
    simpa using this
  · have := ht (sne 3 (by omega))
    exact textE_no this
theorem op_fit {o : OP9} {k : Nat} {r : SoR} (F : OpFit o k r) (h16 : k ≤ 16) : opB (lineL o) = (o, true) ∧ isHead (lineL o) = false ∧ ∀ b ∈ lineL o, b ≠ 10 := by
  obtain ⟨r2, hr, hs, hix, ⟨c, cs, hc, hc2⟩, hw, hK⟩ := sh_row k F.k1 h16
  obtain rfl : r2 = r := by have := F.row; rw [hr] at this; injection this
  have hrow : lineL o = _ := lineL_row (o := o) (r := r2) (by rw [F.kk, Int.toNat_natCast]; exact hr)
  have hw32 : ∀ b ∈ r2.1, b ≠ 32 := fun b hb e => by have := hw b hb; rw [e] at this; exact absurd this (by decide)
  have hw10 : ∀ b ∈ r2.1, b ≠ 10 := fun b hb e => by have := hw b hb; rw [e] at this; exact absurd this (by decide)
  have h1 : ¬ ixI r2.1 < 1 := by rw [hix]; have := F.k1; omega
  have hsc := sh_cases hr
  have hhead : isHead (lineL o) = false := by
    rw [hrow, hc]
    unfold isHead Lib.hasPrefix headL
    simp [List.isPrefixOf, Ne.symm hc2]
  refine ⟨?_, hhead, ?_⟩
  · unfold opB
    rcases hsc with e | e | e | e
    · have hl : lineL o = r2.1 := by rw [hrow, e]; simp
      rw [hl, cutS_one hw32, opW_cons, decide_eq_false h1, hix, hK, e]
      dsimp only
      rw [show ((0 : Int) == 3) = false from rfl]
      dsimp only
      rw [show decide (((([] : List (List UInt8)).length + 1 : Nat) : Int) = 1 + 0) = true from rfl]
      dsimp only
      unfold opN
      dsimp only
      obtain ⟨ok, oa, ob, ot⟩ := o
      have e1 := F.kk; have e2 := F.a0 (.inl e); have e3 := F.b0 (by rw [e]; decide); have e4 := F.t0 (by rw [e]; decide)
      dsimp only at e1 e2 e3 e4
      rw [e1, e2, e3, e4]
    · have ha := F.a (.inl e)
      have hl : lineL o = r2.1 ++ 32 :: Lib.itoa o.a := by rw [hrow, e]; simp
      have hn := num_itoa ha.1 ha.2
      rw [hl, cutS_app hw32, cutS_one (fun b hb e => by have := itoa_in ha.1 hb; rw [e] at this; exact absurd this.1 (by decide)), opW_cons, decide_eq_false h1, hix, hK, e]
      dsimp only
      rw [show ((1 : Int) == 3) = false from rfl]
      dsimp only
      rw [show decide ((([Lib.itoa o.a].length + 1 : Nat) : Int) = 1 + 1) = true from rfl]
      dsimp only
      unfold opN
      dsimp only
      rw [hn.1, hn.2]
      obtain ⟨ok, oa, ob, ot⟩ := o
      have e1 := F.kk; have e3 := F.b0 (by rw [e]; decide); have e4 := F.t0 (by rw [e]; decide)
      dsimp only at e1 e3 e4 ⊢
      rw [e1, e3, e4]
    · have ha := F.a (.inr e)
      have hb := F.b e
      have hl : lineL o = r2.1 ++ 32 :: (Lib.itoa o.a ++ 32 :: Lib.itoa o.b) := by rw [hrow, e]; simp
      have hn := num_itoa ha.1 ha.2
      have hn2 := num_itoa hb.1 hb.2
      rw [hl, cutS_app hw32, cutS_app (fun b hb e => by have := itoa_in ha.1 hb; rw [e] at this; exact absurd this.1 (by decide)), cutS_one (fun b hb2 e => by have := itoa_in hb.1 hb2; rw [e] at this; exact absurd this.1 (by decide)), opW_cons, decide_eq_false h1, hix, hK, e]
      dsimp only
      rw [show ((2 : Int) == 3) = false from rfl]
      dsimp only
      rw [show decide ((([Lib.itoa o.a, Lib.itoa o.b].length + 1 : Nat) : Int) = 1 + 2) = true from rfl]
      dsimp only
      unfold opN
      dsimp only
      rw [hn.1, hn.2]
      dsimp only
      rw [hn2.1, hn2.2]
      obtain ⟨ok, oa, ob, ot⟩ := o
      have e1 := F.kk; have e4 := F.t0 (by rw [e]; decide)
      dsimp only at e1 e4 ⊢
      rw [e1, e4]
    · have hl : lineL o = r2.1 ++ 32 :: writL o.t.data.toList := by rw [hrow, e]; simp
      rw [hl, cutS_app hw32, cutS_one (fun b hb e => by have := writ_in hb; rw [e] at this; exact absurd this (by decide)), opW_cons, decide_eq_false h1, hix, hK, e]
      dsimp only
      rw [show ((3 : Int) == 3) = true from rfl]
      dsimp only
      unfold opT
      dsimp only
      rw [writ_read _ _ _ (by omega)]
      obtain ⟨ok, oa, ob, ot⟩ := o
      have e1 := F.kk; have e2 := F.a0 (.inr e); have e3 := F.b0 (by rw [e]; decide)
      dsimp only at e1 e2 e3 ⊢
      rw [e1, e2, e3, List.nil_append, ← strL_of]
  · intro b hb
    rw [hrow] at hb
    rcases hsc with e | e | e | e
    · rw [e] at hb
      have hb : b ∈ r2.1 := by simpa using hb
      exact hw10 b hb
    · rw [e] at hb
      have hb : b ∈ r2.1 ∨ b = 32 ∨ b ∈ Lib.itoa o.a := by simpa using hb
      rcases hb with hb | rfl | hb
      · exact hw10 b hb
      · decide
      · have := itoa_in (F.a (.inl e)).1 hb
        rintro rfl
        exact absurd this.1 (by decide)
    · rw [e] at hb
      have hb : b ∈ r2.1 ∨ b = 32 ∨ b ∈ Lib.itoa o.a ∨ b = 32 ∨ b ∈ Lib.itoa o.b := by simpa using hb
      rcases hb with hb | rfl | hb | rfl | hb
      · exact hw10 b hb
      · decide
      · have := itoa_in (F.a (.inr e)).1 hb
        rintro rfl
        exact absurd this.1 (by decide)
      · decide
      · have := itoa_in (F.b e).1 hb
        rintro rfl
        exact absurd this.1 (by decide)
    · rw [e] at hb
      have hb : b ∈ r2.1 ∨ b = 32 ∨ b ∈ writL o.t.data.toList := by simpa using hb
      rcases hb with hb | rfl | hb
      · exact hw10 b hb
      · decide
      · have := writ_in hb
        rintro rfl
        exact absurd this (by decide)
/-- A name that may be: letters and digits alone. -/
theorem dropW_all {p : UInt8 → Bool} : ∀ {l : List UInt8}, l.dropWhile p = [] → ∀ b ∈ l, p b = true
  | [], _, b, h => by cases h
  | c :: l, h, b, hb => by
    rw [List.dropWhile_cons] at h
    split at h
    · rename_i hc
      rcases List.mem_cons.1 hb with rfl | hb
      · exact hc
      · exact dropW_all h b hb
    · cases h
theorem trimS_nil {l cs : List UInt8} (h : Lib.trimS l cs = []) : ∀ b ∈ l, cs.contains b = true := by
  unfold Lib.trimS Lib.trimLeftS at h
  have h1 := dropW_all h
  unfold Lib.trimRightS at h1
  intro b hb
  by_cases hm : b ∈ l.reverse.dropWhile (cs.contains ·)
  · exact h1 b (by simpa using hm)
  · have := List.takeWhile_append_dropWhile (p := (cs.contains ·)) (l := l.reverse)
    have hb2 : b ∈ l.reverse := by simpa using hb
    rw [← this] at hb2
    rcases List.mem_append.1 hb2 with h3 | h3
    · exact List.all_eq_true.1 (List.all_takeWhile) b h3
    · exact absurd h3 hm
theorem nm_chars {t : ByteArray} (h : nmB t = true) : ∀ b ∈ t.data.toList, b ∈ alnumL := by
  unfold nmB at h
  simp only [Bool.and_eq_true] at h
  have h2 := h.2.2
  rw [str_cmp0] at h2
  have h3 : Lib.trimS t.data.toList alnumL = [] := by simpa using h2
  intro b hb
  simpa using trimS_nil h3 b hb
theorem alnum_in {b : UInt8} (h : b ∈ alnumL) : 48 ≤ b.toNat ∧ b.toNat ≤ 122 := by
  unfold alnumL at h
  simp only [List.mem_cons, List.not_mem_nil, or_false] at h
  rcases h with rfl | rfl | rfl | rfl | rfl | rfl | rfl | rfl | rfl | rfl | rfl | rfl | rfl | rfl | rfl | rfl | rfl | rfl | rfl | rfl | rfl | rfl | rfl | rfl | rfl | rfl | rfl | rfl | rfl | rfl | rfl | rfl | rfl | rfl | rfl | rfl <;> decide
theorem idx_none {s : ByteArray} (h : ∀ b ∈ s.data.toList, 48 ≤ b.toNat ∧ b.toNat ≤ 122) : ∀ (f pos : Nat), Lib.idxFuncFrom (fun c : Nat => badR c) true s f pos = -1
  | 0, pos => rfl
  | f + 1, pos => by
    unfold Lib.idxFuncFrom
    split
    · rename_i hp
      have hm : s[pos]'hp ∈ s.data.toList := by
        show s.data[pos]'hp ∈ _
        simp
      have hb := h _ hm
      rw [decode_ascii s pos hp (by omega)]
      dsimp only
      have e : badR ((s[pos]'hp).toNat : Int) = false := by
        unfold badR
        rw [decide_eq_false (by omega), decide_eq_false (by omega)]
        rfl
      rw [e, if_neg (by decide)]
      exact idx_none h f _
    · rfl
theorem bad_nm {t : ByteArray} (h : nmB t = true) : badName t.data.toList = false := by
  unfold badName Lib.idxFunc
  rw [idx_none (s := strL t.data.toList) fun b hb => alnum_in (nm_chars h b hb)]
  rfl
theorem lines_one : ∀ {y s : List UInt8}, (∀ b ∈ y, b ≠ 10) → linesB (y ++ 10 :: s) = (y ++ [10]) :: linesB s
  | [], s, _ => by
    rw [List.nil_append]
    conv => lhs; unfold linesB
    rw [if_pos rfl]
    rfl
  | c :: y, s, h => by
    have ih := lines_one (y := y) (s := s) fun b hb => h b (by simp [hb])
    rw [List.cons_append]
    conv => lhs; unfold linesB
    rw [if_neg (h c (by simp)), ih]
    rfl
theorem ops_back : ∀ {ops : List OP9} {l : List PM} {m : PM} {rest : List UInt8}, (∀ o ∈ ops, opB (lineL o) = (o, true) ∧ isHead (lineL o) = false ∧ ∀ b ∈ lineL o, b ≠ 10) → foldP (l ++ [m]) (linesB (opLn ops ++ rest)) = foldP (l ++ [(m.1, m.2 ++ ops)]) (linesB rest)
  | [], l, m, rest, _ => by
    rw [show opLn [] = [] from rfl, List.nil_append, List.append_nil]
  | o :: ops, l, m, rest, h => by
    obtain ⟨h1, h2, h3⟩ := h o (by simp)
    have e : opLn (o :: ops) ++ rest = lineL o ++ 10 :: (opLn ops ++ rest) := by simp [opLn]
    rw [e, lines_one h3]
    have hs : stepP (l ++ [m]) (lineL o ++ [10]) = some (l ++ [(m.1, m.2 ++ [o])]) := by
      unfold stepP stepX
      rw [suffix_ten, h2]
      dsimp only
      rw [h1]
      exact addOp_app o m l
    show (match stepP (l ++ [m]) (lineL o ++ [10]) with
      | some l' => foldP l' (linesB (opLn ops ++ rest))
      | none => none) = _
    rw [hs]
    dsimp only
    rw [ops_back (m := (m.1, m.2 ++ [o])) fun o ho => h o (by simp [ho])]
    simp
theorem all_back : ∀ {ms : List PM} {l : List PM}, (∀ m ∈ ms, nmB m.1 = true ∧ ∀ o ∈ m.2, opB (lineL o) = (o, true) ∧ isHead (lineL o) = false ∧ ∀ b ∈ lineL o, b ≠ 10) → foldP l (linesB (printL ms)) = some (l ++ ms)
  | [], l, _ => by simp [printL, linesB, foldP]
  | m :: ms, l, h => by
    obtain ⟨h1, h2⟩ := h m (by simp)
    have e : printL (m :: ms) = (headL ++ m.1.data.toList) ++ 10 :: (opLn m.2 ++ printL ms) := by simp [printL, progL]
    have hn : ∀ b ∈ headL ++ m.1.data.toList, b ≠ 10 := fun b hb => by
      rcases List.mem_append.1 hb with hb | hb
      · unfold headL at hb
        simp only [List.mem_cons, List.not_mem_nil, or_false] at hb
        rcases hb with rfl | rfl | rfl | rfl | rfl <;> decide
      · have := alnum_in (nm_chars h1 b hb)
        rintro rfl
        exact absurd this.1 (by decide)
    rw [e, lines_one hn]
    have hh : isHead (headL ++ m.1.data.toList) = true := by
      unfold isHead Lib.hasPrefix
      rw [List.isPrefixOf_iff_prefix]
      exact ⟨_, rfl⟩
    have hbh : behind (headL ++ m.1.data.toList) = m.1.data.toList := by
      have := head_behind hh
      exact List.append_cancel_left this
    have hs : stepP l ((headL ++ m.1.data.toList) ++ [10]) = some (l ++ [(m.1, [])]) := by
      unfold stepP stepX
      rw [suffix_ten, hh]
      dsimp only
      rw [hbh, bad_nm h1, ← strL_of]
    show (match stepP l ((headL ++ m.1.data.toList) ++ [10]) with
      | some l' => foldP l' (linesB (opLn m.2 ++ printL ms))
      | none => none) = _
    rw [hs]
    dsimp only
    rw [ops_back h2, all_back fun m hm => h m (by simp [hm])]
    simp
theorem prog_end (m : PM) : ∃ t, progL m = t ++ [10] := by
  rcases List.eq_nil_or_concat m.2 with h | ⟨l, o, h⟩
  · exact ⟨headL ++ m.1.data.toList, by simp [progL, h, opLn]⟩
  · exact ⟨headL ++ m.1.data.toList ++ [10] ++ (opLn l ++ lineL o), by simp [progL, h, opLn]⟩
theorem print_end {l : List PM} (h : l ≠ []) : endsN (printL l) = true := by
  obtain ⟨a, m, rfl⟩ := List.eq_nil_or_concat l |>.resolve_left h
  obtain ⟨t, ht⟩ := prog_end m
  unfold endsN Lib.hasSuffix
  rw [List.isSuffixOf_iff_suffix]
  refine ⟨printL a ++ t, ?_⟩
  rw [List.concat_eq_append, printL_app, List.append_assoc, ← ht]
  simp [printL]
/-- What is printed is parsed as it was. -/
theorem print_parse {l : List PM} (h : checkM l = 0) (hl : (printL l).length ≤ 262144) : parseM (printL l) = (some l, 0) := by
  have hn := check_len h
  have hne : l ≠ [] := by rintro rfl; simp at hn
  unfold parseM
  rw [decide_eq_false (by omega), print_end hne]
  dsimp only
  rw [show (!(printL l).isEmpty && !true) = false by simp]
  dsimp only
  rw [all_back (l := []) fun m hm => ?_]
  · dsimp only
    rw [List.nil_append, if_pos h]
  · obtain ⟨k, hk⟩ := List.getElem?_of_mem hm
    obtain ⟨h1, _, h3⟩ := check_prog h hk
    refine ⟨h1, fun o ho => ?_⟩
    obtain ⟨j, r, F, hj⟩ := right_fit (by omega) (by omega) (h3 o ho)
    exact op_fit F hj
end Go.Proofs.YtmmcamkmglpgiaaGreatDoor

namespace Go.Proofs.YtmmcamkmglpgiaaGreatDoor
open Go.RowKit
set_option linter.all false
set_option maxRecDepth 100000
theorem strL_add (a b : List UInt8) : strL a ++ strL b = strL (a ++ b) := by
  apply ByteArray.ext
  simp [strL]
section
variable {P : Program} {f : FR} {R : Ending → World → Prop} {n : Nat} {w0 : World} {L : List Nat} {β : List Nat} {m : SM}
/-- Two texts, one behind the other. -/
theorem Hs.cat {T : TypeId} (a b : List UInt8) (hl : a.length + b.length ≤ 9223372036854775807) (hs : semOf n β m = some (valS (binOp .add T (.string (strL a)) (.string (strL b))))) (h : Hs P f R n w0 L β (m.put (dstOf m) (.c (.v (.string (strL (a ++ b))))) m.hp)) : Hs P f R n w0 L β m :=
  Hs.opV (.c (.v (.string (strL (a ++ b))))) hs rfl (fun w H => by
    show (Op.stringOp .add (strL a) (strL b)).run P w = _
    have e := run_string_add_sum (P := P) w (strL a) (strL b) hl
    rw [strL_add] at e
    exact e) h
theorem Hs.takeCat (j : Nat) {T : TypeId} (a b : List UInt8) {rd : List Nat} (hl : a.length + b.length ≤ 9223372036854775807) (hs : semAt j n β m = some (valS (binOp .add T (.string (strL a)) (.string (strL b))), rd)) (k : Hs P f R n w0 L β (takeM j (.c (.v (.string (strL (a ++ b))))) m)) : Hs P f R n w0 L β m :=
  Hs.takeV j (.c (.v (.string (strL (a ++ b))))) hs rfl (fun w _ => by
    have e := run_string_add_sum (P := P) w (strL a) (strL b) hl
    rw [strL_add] at e
    exact e) k
end
theorem itoa_len {n : Int} (h0 : -9223372036854775808 ≤ n) (h1 : n ≤ 9223372036854775807) : (Lib.itoa n).length ≤ 21 := Lib.itoa_length_le n h0 h1
abbrev LineR (l : List UInt8) (w : World) : Ending → World → Prop := fun e w' => e = .returned (.string (strL l)) ∧ Only [] w w'
set_option maxHeartbeats 4000000 in
theorem line_1 (a b : Int) (t : ByteArray) (w : World) (hS : SLib w) (h0 : -9223372036854775808 ≤ a) (h1 : a ≤ 9223372036854775807) : Calls Tryz.prog 24 #[opA ⟨1, a, b, t⟩] w (LineR ([101, 120, 105, 116, 32] ++ Lib.itoa a) w) := by
  refine Hs.enter Tryz.func24 [] [] [] [.g [.v (.int .i64 1), .v (.int .i64 a), .v (.int .i64 b), .v (.string t)]] (Mem.start0 w) (by kernel_rfl) (by kernel_rfl) ?_
  refine Hs.run1 300 (fun _ => by kernel_rfl) fun b0 => ?_
  refine Hs.any [0] (by kernel_rfl) ?_
  refine Hs.run0 300 (fun _ => by kernel_rfl) ?_
  apply Hs.share1 (β' := [] ++ [b0])
  · intro K
    refine Hs.branch2 0 4 (by kernel_rfl) ?_ ?_
    · refine Hs.callV (v := .agg sortC.toArray) (fun w' H => sorts_any w') (by kernel_rfl) ?_
      refine Hs.run1 300 (fun _ => by kernel_rfl) fun b1 => ?_
      exact K b1
    · refine Hs.run1 300 (fun _ => by kernel_rfl) fun b1 => ?_
      refine Hs.callV (v := .agg sortC.toArray) (fun w' H => sorts_any w') (by kernel_rfl) ?_
      refine Hs.run0 300 (fun _ => by kernel_rfl) ?_
      exact Hs.eqM (K b1) (by kernel_rfl) (by kernel_rfl)
  intro b1
  refine Hs.run0 300 (fun _ => by kernel_rfl) ?_
  refine Hs.condT (by kernel_rfl) ?_
  refine Hs.run0 300 (fun _ => by kernel_rfl) ?_
  refine Hs.any [0, 1] (by kernel_rfl) ?_
  refine Hs.run0 300 (fun _ => by kernel_rfl) ?_
  refine Hs.callV (v := .string (strL (Lib.itoa a))) (fun w' H => itoa_any a h0 h1 w' (hS.only H.only)) (by kernel_rfl) ?_
  refine Hs.takeCat (T := 9) (rd := [0, 1]) 6 [101, 120, 105, 116, 32] (Lib.itoa a) (by have := itoa_len h0 h1; simp; omega) (by kernel_rfl) ?_
  refine Hs.run0 300 (fun _ => by kernel_rfl) ?_
  exact Hs.ret (v := .string (strL ([101, 120, 105, 116, 32] ++ Lib.itoa a))) Tryz.func24 (by kernel_rfl) fun w' H => ⟨rfl, H.only⟩
set_option maxHeartbeats 4000000 in
theorem line_2 (a b : Int) (t : ByteArray) (w : World) (ht : t.size ≤ 1024) : Calls Tryz.prog 24 #[opA ⟨2, a, b, t⟩] w (LineR ([111, 117, 116, 32] ++ writL t.data.toList) w) := by
  refine Hs.enter Tryz.func24 [] [] [] [.g [.v (.int .i64 2), .v (.int .i64 a), .v (.int .i64 b), .v (.string t)]] (Mem.start0 w) (by kernel_rfl) (by kernel_rfl) ?_
  refine Hs.run1 300 (fun _ => by kernel_rfl) fun b0 => ?_
  refine Hs.any [0] (by kernel_rfl) ?_
  refine Hs.run0 300 (fun _ => by kernel_rfl) ?_
  apply Hs.share1 (β' := [] ++ [b0])
  · intro K
    refine Hs.branch2 0 4 (by kernel_rfl) ?_ ?_
    · refine Hs.callV (v := .agg sortC.toArray) (fun w' H => sorts_any w') (by kernel_rfl) ?_
      refine Hs.run1 300 (fun _ => by kernel_rfl) fun b1 => ?_
      exact K b1
    · refine Hs.run1 300 (fun _ => by kernel_rfl) fun b1 => ?_
      refine Hs.callV (v := .agg sortC.toArray) (fun w' H => sorts_any w') (by kernel_rfl) ?_
      refine Hs.run0 300 (fun _ => by kernel_rfl) ?_
      exact Hs.eqM (K b1) (by kernel_rfl) (by kernel_rfl)
  intro b1
  refine Hs.run0 300 (fun _ => by kernel_rfl) ?_
  refine Hs.condF (by kernel_rfl) ?_
  refine Hs.run0 300 (fun _ => by kernel_rfl) ?_
  refine Hs.condF (by kernel_rfl) ?_
  refine Hs.run0 300 (fun _ => by kernel_rfl) ?_
  refine Hs.condT (by kernel_rfl) ?_
  refine Hs.run0 300 (fun _ => by kernel_rfl) ?_
  refine Hs.any [0, 1] (by kernel_rfl) ?_
  refine Hs.run0 300 (fun _ => by kernel_rfl) ?_
  refine Hs.callV (v := .string (strL (writL t.data.toList))) (fun w' H => (strL_of t) ▸ written_any t.data.toList (by show t.size ≤ _; omega) w') (by kernel_rfl) ?_
  have l1 := writL_len t.data.toList
  have l2 : t.data.toList.length = t.size := rfl
  refine Hs.takeCat (T := 9) (rd := [0, 1]) 6 [111, 117, 116, 32] (writL t.data.toList) (by simp; omega) (by kernel_rfl) ?_
  refine Hs.run0 300 (fun _ => by kernel_rfl) ?_
  exact Hs.ret (v := .string (strL ([111, 117, 116, 32] ++ writL t.data.toList))) Tryz.func24 (by kernel_rfl) fun w' H => ⟨rfl, H.only⟩
set_option maxHeartbeats 4000000 in
theorem line_3 (a b : Int) (t : ByteArray) (w : World) (ht : t.size ≤ 1024) : Calls Tryz.prog 24 #[opA ⟨3, a, b, t⟩] w (LineR ([101, 114, 114, 32] ++ writL t.data.toList) w) := by
  refine Hs.enter Tryz.func24 [] [] [] [.g [.v (.int .i64 3), .v (.int .i64 a), .v (.int .i64 b), .v (.string t)]] (Mem.start0 w) (by kernel_rfl) (by kernel_rfl) ?_
  refine Hs.run1 300 (fun _ => by kernel_rfl) fun b0 => ?_
  refine Hs.any [0] (by kernel_rfl) ?_
  refine Hs.run0 300 (fun _ => by kernel_rfl) ?_
  apply Hs.share1 (β' := [] ++ [b0])
  · intro K
    refine Hs.branch2 0 4 (by kernel_rfl) ?_ ?_
    · refine Hs.callV (v := .agg sortC.toArray) (fun w' H => sorts_any w') (by kernel_rfl) ?_
      refine Hs.run1 300 (fun _ => by kernel_rfl) fun b1 => ?_
      exact K b1
    · refine Hs.run1 300 (fun _ => by kernel_rfl) fun b1 => ?_
      refine Hs.callV (v := .agg sortC.toArray) (fun w' H => sorts_any w') (by kernel_rfl) ?_
      refine Hs.run0 300 (fun _ => by kernel_rfl) ?_
      exact Hs.eqM (K b1) (by kernel_rfl) (by kernel_rfl)
  intro b1
  refine Hs.run0 300 (fun _ => by kernel_rfl) ?_
  refine Hs.condF (by kernel_rfl) ?_
  refine Hs.run0 300 (fun _ => by kernel_rfl) ?_
  refine Hs.condF (by kernel_rfl) ?_
  refine Hs.run0 300 (fun _ => by kernel_rfl) ?_
  refine Hs.condT (by kernel_rfl) ?_
  refine Hs.run0 300 (fun _ => by kernel_rfl) ?_
  refine Hs.any [0, 1] (by kernel_rfl) ?_
  refine Hs.run0 300 (fun _ => by kernel_rfl) ?_
  refine Hs.callV (v := .string (strL (writL t.data.toList))) (fun w' H => (strL_of t) ▸ written_any t.data.toList (by show t.size ≤ _; omega) w') (by kernel_rfl) ?_
  have l1 := writL_len t.data.toList
  have l2 : t.data.toList.length = t.size := rfl
  refine Hs.takeCat (T := 9) (rd := [0, 1]) 6 [101, 114, 114, 32] (writL t.data.toList) (by simp; omega) (by kernel_rfl) ?_
  refine Hs.run0 300 (fun _ => by kernel_rfl) ?_
  exact Hs.ret (v := .string (strL ([101, 114, 114, 32] ++ writL t.data.toList))) Tryz.func24 (by kernel_rfl) fun w' H => ⟨rfl, H.only⟩
set_option maxHeartbeats 4000000 in
theorem line_4 (a b : Int) (t : ByteArray) (w : World) (hS : SLib w) (h0 : -9223372036854775808 ≤ a) (h1 : a ≤ 9223372036854775807) : Calls Tryz.prog 24 #[opA ⟨4, a, b, t⟩] w (LineR ([105, 110, 32] ++ Lib.itoa a) w) := by
  refine Hs.enter Tryz.func24 [] [] [] [.g [.v (.int .i64 4), .v (.int .i64 a), .v (.int .i64 b), .v (.string t)]] (Mem.start0 w) (by kernel_rfl) (by kernel_rfl) ?_
  refine Hs.run1 300 (fun _ => by kernel_rfl) fun b0 => ?_
  refine Hs.any [0] (by kernel_rfl) ?_
  refine Hs.run0 300 (fun _ => by kernel_rfl) ?_
  apply Hs.share1 (β' := [] ++ [b0])
  · intro K
    refine Hs.branch2 0 4 (by kernel_rfl) ?_ ?_
    · refine Hs.callV (v := .agg sortC.toArray) (fun w' H => sorts_any w') (by kernel_rfl) ?_
      refine Hs.run1 300 (fun _ => by kernel_rfl) fun b1 => ?_
      exact K b1
    · refine Hs.run1 300 (fun _ => by kernel_rfl) fun b1 => ?_
      refine Hs.callV (v := .agg sortC.toArray) (fun w' H => sorts_any w') (by kernel_rfl) ?_
      refine Hs.run0 300 (fun _ => by kernel_rfl) ?_
      exact Hs.eqM (K b1) (by kernel_rfl) (by kernel_rfl)
  intro b1
  refine Hs.run0 300 (fun _ => by kernel_rfl) ?_
  refine Hs.condT (by kernel_rfl) ?_
  refine Hs.run0 300 (fun _ => by kernel_rfl) ?_
  refine Hs.any [0, 1] (by kernel_rfl) ?_
  refine Hs.run0 300 (fun _ => by kernel_rfl) ?_
  refine Hs.callV (v := .string (strL (Lib.itoa a))) (fun w' H => itoa_any a h0 h1 w' (hS.only H.only)) (by kernel_rfl) ?_
  refine Hs.takeCat (T := 9) (rd := [0, 1]) 6 [105, 110, 32] (Lib.itoa a) (by have := itoa_len h0 h1; simp; omega) (by kernel_rfl) ?_
  refine Hs.run0 300 (fun _ => by kernel_rfl) ?_
  exact Hs.ret (v := .string (strL ([105, 110, 32] ++ Lib.itoa a))) Tryz.func24 (by kernel_rfl) fun w' H => ⟨rfl, H.only⟩
set_option maxHeartbeats 4000000 in
theorem line_5 (a b : Int) (t : ByteArray) (w : World) (hS : SLib w) (h0 : -9223372036854775808 ≤ a) (h1 : a ≤ 9223372036854775807) : Calls Tryz.prog 24 #[opA ⟨5, a, b, t⟩] w (LineR ([102, 111, 114, 107, 32] ++ Lib.itoa a) w) := by
  refine Hs.enter Tryz.func24 [] [] [] [.g [.v (.int .i64 5), .v (.int .i64 a), .v (.int .i64 b), .v (.string t)]] (Mem.start0 w) (by kernel_rfl) (by kernel_rfl) ?_
  refine Hs.run1 300 (fun _ => by kernel_rfl) fun b0 => ?_
  refine Hs.any [0] (by kernel_rfl) ?_
  refine Hs.run0 300 (fun _ => by kernel_rfl) ?_
  apply Hs.share1 (β' := [] ++ [b0])
  · intro K
    refine Hs.branch2 0 4 (by kernel_rfl) ?_ ?_
    · refine Hs.callV (v := .agg sortC.toArray) (fun w' H => sorts_any w') (by kernel_rfl) ?_
      refine Hs.run1 300 (fun _ => by kernel_rfl) fun b1 => ?_
      exact K b1
    · refine Hs.run1 300 (fun _ => by kernel_rfl) fun b1 => ?_
      refine Hs.callV (v := .agg sortC.toArray) (fun w' H => sorts_any w') (by kernel_rfl) ?_
      refine Hs.run0 300 (fun _ => by kernel_rfl) ?_
      exact Hs.eqM (K b1) (by kernel_rfl) (by kernel_rfl)
  intro b1
  refine Hs.run0 300 (fun _ => by kernel_rfl) ?_
  refine Hs.condT (by kernel_rfl) ?_
  refine Hs.run0 300 (fun _ => by kernel_rfl) ?_
  refine Hs.any [0, 1] (by kernel_rfl) ?_
  refine Hs.run0 300 (fun _ => by kernel_rfl) ?_
  refine Hs.callV (v := .string (strL (Lib.itoa a))) (fun w' H => itoa_any a h0 h1 w' (hS.only H.only)) (by kernel_rfl) ?_
  refine Hs.takeCat (T := 9) (rd := [0, 1]) 6 [102, 111, 114, 107, 32] (Lib.itoa a) (by have := itoa_len h0 h1; simp; omega) (by kernel_rfl) ?_
  refine Hs.run0 300 (fun _ => by kernel_rfl) ?_
  exact Hs.ret (v := .string (strL ([102, 111, 114, 107, 32] ++ Lib.itoa a))) Tryz.func24 (by kernel_rfl) fun w' H => ⟨rfl, H.only⟩
set_option maxHeartbeats 4000000 in
theorem line_6 (a b : Int) (t : ByteArray) (w : World) (hS : SLib w) (h0 : -9223372036854775808 ≤ a) (h1 : a ≤ 9223372036854775807) : Calls Tryz.prog 24 #[opA ⟨6, a, b, t⟩] w (LineR ([101, 120, 101, 99, 32] ++ Lib.itoa a) w) := by
  refine Hs.enter Tryz.func24 [] [] [] [.g [.v (.int .i64 6), .v (.int .i64 a), .v (.int .i64 b), .v (.string t)]] (Mem.start0 w) (by kernel_rfl) (by kernel_rfl) ?_
  refine Hs.run1 300 (fun _ => by kernel_rfl) fun b0 => ?_
  refine Hs.any [0] (by kernel_rfl) ?_
  refine Hs.run0 300 (fun _ => by kernel_rfl) ?_
  apply Hs.share1 (β' := [] ++ [b0])
  · intro K
    refine Hs.branch2 0 4 (by kernel_rfl) ?_ ?_
    · refine Hs.callV (v := .agg sortC.toArray) (fun w' H => sorts_any w') (by kernel_rfl) ?_
      refine Hs.run1 300 (fun _ => by kernel_rfl) fun b1 => ?_
      exact K b1
    · refine Hs.run1 300 (fun _ => by kernel_rfl) fun b1 => ?_
      refine Hs.callV (v := .agg sortC.toArray) (fun w' H => sorts_any w') (by kernel_rfl) ?_
      refine Hs.run0 300 (fun _ => by kernel_rfl) ?_
      exact Hs.eqM (K b1) (by kernel_rfl) (by kernel_rfl)
  intro b1
  refine Hs.run0 300 (fun _ => by kernel_rfl) ?_
  refine Hs.condT (by kernel_rfl) ?_
  refine Hs.run0 300 (fun _ => by kernel_rfl) ?_
  refine Hs.any [0, 1] (by kernel_rfl) ?_
  refine Hs.run0 300 (fun _ => by kernel_rfl) ?_
  refine Hs.callV (v := .string (strL (Lib.itoa a))) (fun w' H => itoa_any a h0 h1 w' (hS.only H.only)) (by kernel_rfl) ?_
  refine Hs.takeCat (T := 9) (rd := [0, 1]) 6 [101, 120, 101, 99, 32] (Lib.itoa a) (by have := itoa_len h0 h1; simp; omega) (by kernel_rfl) ?_
  refine Hs.run0 300 (fun _ => by kernel_rfl) ?_
  exact Hs.ret (v := .string (strL ([101, 120, 101, 99, 32] ++ Lib.itoa a))) Tryz.func24 (by kernel_rfl) fun w' H => ⟨rfl, H.only⟩
set_option maxHeartbeats 4000000 in
theorem line_7 (a b : Int) (t : ByteArray) (w : World) (hS : SLib w) (h0 : -9223372036854775808 ≤ a) (h1 : a ≤ 9223372036854775807) : Calls Tryz.prog 24 #[opA ⟨7, a, b, t⟩] w (LineR ([119, 97, 105, 116, 32] ++ Lib.itoa a) w) := by
  refine Hs.enter Tryz.func24 [] [] [] [.g [.v (.int .i64 7), .v (.int .i64 a), .v (.int .i64 b), .v (.string t)]] (Mem.start0 w) (by kernel_rfl) (by kernel_rfl) ?_
  refine Hs.run1 300 (fun _ => by kernel_rfl) fun b0 => ?_
  refine Hs.any [0] (by kernel_rfl) ?_
  refine Hs.run0 300 (fun _ => by kernel_rfl) ?_
  apply Hs.share1 (β' := [] ++ [b0])
  · intro K
    refine Hs.branch2 0 4 (by kernel_rfl) ?_ ?_
    · refine Hs.callV (v := .agg sortC.toArray) (fun w' H => sorts_any w') (by kernel_rfl) ?_
      refine Hs.run1 300 (fun _ => by kernel_rfl) fun b1 => ?_
      exact K b1
    · refine Hs.run1 300 (fun _ => by kernel_rfl) fun b1 => ?_
      refine Hs.callV (v := .agg sortC.toArray) (fun w' H => sorts_any w') (by kernel_rfl) ?_
      refine Hs.run0 300 (fun _ => by kernel_rfl) ?_
      exact Hs.eqM (K b1) (by kernel_rfl) (by kernel_rfl)
  intro b1
  refine Hs.run0 300 (fun _ => by kernel_rfl) ?_
  refine Hs.condT (by kernel_rfl) ?_
  refine Hs.run0 300 (fun _ => by kernel_rfl) ?_
  refine Hs.any [0, 1] (by kernel_rfl) ?_
  refine Hs.run0 300 (fun _ => by kernel_rfl) ?_
  refine Hs.callV (v := .string (strL (Lib.itoa a))) (fun w' H => itoa_any a h0 h1 w' (hS.only H.only)) (by kernel_rfl) ?_
  refine Hs.takeCat (T := 9) (rd := [0, 1]) 6 [119, 97, 105, 116, 32] (Lib.itoa a) (by have := itoa_len h0 h1; simp; omega) (by kernel_rfl) ?_
  refine Hs.run0 300 (fun _ => by kernel_rfl) ?_
  exact Hs.ret (v := .string (strL ([119, 97, 105, 116, 32] ++ Lib.itoa a))) Tryz.func24 (by kernel_rfl) fun w' H => ⟨rfl, H.only⟩
set_option maxHeartbeats 4000000 in
theorem line_8 (a b : Int) (t : ByteArray) (w : World) (hS : SLib w) (h0 : -9223372036854775808 ≤ a) (h1 : a ≤ 9223372036854775807) (h2 : -9223372036854775808 ≤ b) (h3 : b ≤ 9223372036854775807) : Calls Tryz.prog 24 #[opA ⟨8, a, b, t⟩] w (LineR (([107, 105, 108, 108, 32] ++ Lib.itoa a) ++ [32] ++ Lib.itoa b) w) := by
  refine Hs.enter Tryz.func24 [] [] [] [.g [.v (.int .i64 8), .v (.int .i64 a), .v (.int .i64 b), .v (.string t)]] (Mem.start0 w) (by kernel_rfl) (by kernel_rfl) ?_
  refine Hs.run1 300 (fun _ => by kernel_rfl) fun b0 => ?_
  refine Hs.any [0] (by kernel_rfl) ?_
  refine Hs.run0 300 (fun _ => by kernel_rfl) ?_
  apply Hs.share1 (β' := [] ++ [b0])
  · intro K
    refine Hs.branch2 0 4 (by kernel_rfl) ?_ ?_
    · refine Hs.callV (v := .agg sortC.toArray) (fun w' H => sorts_any w') (by kernel_rfl) ?_
      refine Hs.run1 300 (fun _ => by kernel_rfl) fun b1 => ?_
      exact K b1
    · refine Hs.run1 300 (fun _ => by kernel_rfl) fun b1 => ?_
      refine Hs.callV (v := .agg sortC.toArray) (fun w' H => sorts_any w') (by kernel_rfl) ?_
      refine Hs.run0 300 (fun _ => by kernel_rfl) ?_
      exact Hs.eqM (K b1) (by kernel_rfl) (by kernel_rfl)
  intro b1
  refine Hs.run0 300 (fun _ => by kernel_rfl) ?_
  refine Hs.condF (by kernel_rfl) ?_
  refine Hs.run0 300 (fun _ => by kernel_rfl) ?_
  refine Hs.condT (by kernel_rfl) ?_
  refine Hs.run0 300 (fun _ => by kernel_rfl) ?_
  refine Hs.any [0, 1] (by kernel_rfl) ?_
  refine Hs.run0 300 (fun _ => by kernel_rfl) ?_
  refine Hs.callV (v := .string (strL (Lib.itoa a))) (fun w' H => itoa_any a h0 h1 w' (hS.only H.only)) (by kernel_rfl) ?_
  have l1 := itoa_len h0 h1
  have l2 := itoa_len h2 h3
  refine Hs.takeCat (T := 9) (rd := [0, 1]) 6 [107, 105, 108, 108, 32] (Lib.itoa a) (by simp; omega) (by kernel_rfl) ?_
  refine Hs.takeCat (T := 9) (rd := [0, 1]) 7 ([107, 105, 108, 108, 32] ++ Lib.itoa a) [32] (by simp; omega) (by kernel_rfl) ?_
  refine Hs.run0 300 (fun _ => by kernel_rfl) ?_
  refine Hs.callV (v := .string (strL (Lib.itoa b))) (fun w' H => itoa_any b h2 h3 w' (hS.only H.only)) (by kernel_rfl) ?_
  refine Hs.takeCat (T := 9) (rd := [0, 1]) 11 ([107, 105, 108, 108, 32] ++ Lib.itoa a ++ [32]) (Lib.itoa b) (by simp; omega) (by kernel_rfl) ?_
  refine Hs.run0 300 (fun _ => by kernel_rfl) ?_
  exact Hs.ret (v := .string (strL ([107, 105, 108, 108, 32] ++ Lib.itoa a ++ [32] ++ Lib.itoa b))) Tryz.func24 (by kernel_rfl) fun w' H => ⟨rfl, H.only⟩
set_option maxHeartbeats 4000000 in
theorem line_9 (a b : Int) (t : ByteArray) (w : World) (hS : SLib w) (h0 : -9223372036854775808 ≤ a) (h1 : a ≤ 9223372036854775807) : Calls Tryz.prog 24 #[opA ⟨9, a, b, t⟩] w (LineR ([103, 114, 111, 117, 112, 32] ++ Lib.itoa a) w) := by
  refine Hs.enter Tryz.func24 [] [] [] [.g [.v (.int .i64 9), .v (.int .i64 a), .v (.int .i64 b), .v (.string t)]] (Mem.start0 w) (by kernel_rfl) (by kernel_rfl) ?_
  refine Hs.run1 300 (fun _ => by kernel_rfl) fun b0 => ?_
  refine Hs.any [0] (by kernel_rfl) ?_
  refine Hs.run0 300 (fun _ => by kernel_rfl) ?_
  apply Hs.share1 (β' := [] ++ [b0])
  · intro K
    refine Hs.branch2 0 4 (by kernel_rfl) ?_ ?_
    · refine Hs.callV (v := .agg sortC.toArray) (fun w' H => sorts_any w') (by kernel_rfl) ?_
      refine Hs.run1 300 (fun _ => by kernel_rfl) fun b1 => ?_
      exact K b1
    · refine Hs.run1 300 (fun _ => by kernel_rfl) fun b1 => ?_
      refine Hs.callV (v := .agg sortC.toArray) (fun w' H => sorts_any w') (by kernel_rfl) ?_
      refine Hs.run0 300 (fun _ => by kernel_rfl) ?_
      exact Hs.eqM (K b1) (by kernel_rfl) (by kernel_rfl)
  intro b1
  refine Hs.run0 300 (fun _ => by kernel_rfl) ?_
  refine Hs.condT (by kernel_rfl) ?_
  refine Hs.run0 300 (fun _ => by kernel_rfl) ?_
  refine Hs.any [0, 1] (by kernel_rfl) ?_
  refine Hs.run0 300 (fun _ => by kernel_rfl) ?_
  refine Hs.callV (v := .string (strL (Lib.itoa a))) (fun w' H => itoa_any a h0 h1 w' (hS.only H.only)) (by kernel_rfl) ?_
  refine Hs.takeCat (T := 9) (rd := [0, 1]) 6 [103, 114, 111, 117, 112, 32] (Lib.itoa a) (by have := itoa_len h0 h1; simp; omega) (by kernel_rfl) ?_
  refine Hs.run0 300 (fun _ => by kernel_rfl) ?_
  exact Hs.ret (v := .string (strL ([103, 114, 111, 117, 112, 32] ++ Lib.itoa a))) Tryz.func24 (by kernel_rfl) fun w' H => ⟨rfl, H.only⟩
set_option maxHeartbeats 4000000 in
theorem line_10 (a b : Int) (t : ByteArray) (w : World) : Calls Tryz.prog 24 #[opA ⟨10, a, b, t⟩] w (LineR ([115, 101, 115, 115, 105, 111, 110]) w) := by
  refine Hs.enter Tryz.func24 [] [] [] [.g [.v (.int .i64 10), .v (.int .i64 a), .v (.int .i64 b), .v (.string t)]] (Mem.start0 w) (by kernel_rfl) (by kernel_rfl) ?_
  refine Hs.run1 300 (fun _ => by kernel_rfl) fun b0 => ?_
  refine Hs.any [0] (by kernel_rfl) ?_
  refine Hs.run0 300 (fun _ => by kernel_rfl) ?_
  apply Hs.share1 (β' := [] ++ [b0])
  · intro K
    refine Hs.branch2 0 4 (by kernel_rfl) ?_ ?_
    · refine Hs.callV (v := .agg sortC.toArray) (fun w' H => sorts_any w') (by kernel_rfl) ?_
      refine Hs.run1 300 (fun _ => by kernel_rfl) fun b1 => ?_
      exact K b1
    · refine Hs.run1 300 (fun _ => by kernel_rfl) fun b1 => ?_
      refine Hs.callV (v := .agg sortC.toArray) (fun w' H => sorts_any w') (by kernel_rfl) ?_
      refine Hs.run0 300 (fun _ => by kernel_rfl) ?_
      exact Hs.eqM (K b1) (by kernel_rfl) (by kernel_rfl)
  intro b1
  refine Hs.run0 300 (fun _ => by kernel_rfl) ?_
  refine Hs.condF (by kernel_rfl) ?_
  refine Hs.run0 300 (fun _ => by kernel_rfl) ?_
  refine Hs.condF (by kernel_rfl) ?_
  refine Hs.run0 300 (fun _ => by kernel_rfl) ?_
  refine Hs.condF (by kernel_rfl) ?_
  refine Hs.run0 300 (fun _ => by kernel_rfl) ?_
  exact Hs.ret (v := .string (strL [115, 101, 115, 115, 105, 111, 110])) Tryz.func24 (by kernel_rfl) fun w' H => ⟨rfl, H.only⟩
set_option maxHeartbeats 4000000 in
theorem line_11 (a b : Int) (t : ByteArray) (w : World) (hS : SLib w) (h0 : -9223372036854775808 ≤ a) (h1 : a ≤ 9223372036854775807) : Calls Tryz.prog 24 #[opA ⟨11, a, b, t⟩] w (LineR ([102, 114, 111, 110, 116, 32] ++ Lib.itoa a) w) := by
  refine Hs.enter Tryz.func24 [] [] [] [.g [.v (.int .i64 11), .v (.int .i64 a), .v (.int .i64 b), .v (.string t)]] (Mem.start0 w) (by kernel_rfl) (by kernel_rfl) ?_
  refine Hs.run1 300 (fun _ => by kernel_rfl) fun b0 => ?_
  refine Hs.any [0] (by kernel_rfl) ?_
  refine Hs.run0 300 (fun _ => by kernel_rfl) ?_
  apply Hs.share1 (β' := [] ++ [b0])
  · intro K
    refine Hs.branch2 0 4 (by kernel_rfl) ?_ ?_
    · refine Hs.callV (v := .agg sortC.toArray) (fun w' H => sorts_any w') (by kernel_rfl) ?_
      refine Hs.run1 300 (fun _ => by kernel_rfl) fun b1 => ?_
      exact K b1
    · refine Hs.run1 300 (fun _ => by kernel_rfl) fun b1 => ?_
      refine Hs.callV (v := .agg sortC.toArray) (fun w' H => sorts_any w') (by kernel_rfl) ?_
      refine Hs.run0 300 (fun _ => by kernel_rfl) ?_
      exact Hs.eqM (K b1) (by kernel_rfl) (by kernel_rfl)
  intro b1
  refine Hs.run0 300 (fun _ => by kernel_rfl) ?_
  refine Hs.condT (by kernel_rfl) ?_
  refine Hs.run0 300 (fun _ => by kernel_rfl) ?_
  refine Hs.any [0, 1] (by kernel_rfl) ?_
  refine Hs.run0 300 (fun _ => by kernel_rfl) ?_
  refine Hs.callV (v := .string (strL (Lib.itoa a))) (fun w' H => itoa_any a h0 h1 w' (hS.only H.only)) (by kernel_rfl) ?_
  refine Hs.takeCat (T := 9) (rd := [0, 1]) 6 [102, 114, 111, 110, 116, 32] (Lib.itoa a) (by have := itoa_len h0 h1; simp; omega) (by kernel_rfl) ?_
  refine Hs.run0 300 (fun _ => by kernel_rfl) ?_
  exact Hs.ret (v := .string (strL ([102, 114, 111, 110, 116, 32] ++ Lib.itoa a))) Tryz.func24 (by kernel_rfl) fun w' H => ⟨rfl, H.only⟩
set_option maxHeartbeats 4000000 in
theorem line_12 (a b : Int) (t : ByteArray) (w : World) (hS : SLib w) (h0 : -9223372036854775808 ≤ a) (h1 : a ≤ 9223372036854775807) (h2 : -9223372036854775808 ≤ b) (h3 : b ≤ 9223372036854775807) : Calls Tryz.prog 24 #[opA ⟨12, a, b, t⟩] w (LineR (([97, 99, 116, 32] ++ Lib.itoa a) ++ [32] ++ Lib.itoa b) w) := by
  refine Hs.enter Tryz.func24 [] [] [] [.g [.v (.int .i64 12), .v (.int .i64 a), .v (.int .i64 b), .v (.string t)]] (Mem.start0 w) (by kernel_rfl) (by kernel_rfl) ?_
  refine Hs.run1 300 (fun _ => by kernel_rfl) fun b0 => ?_
  refine Hs.any [0] (by kernel_rfl) ?_
  refine Hs.run0 300 (fun _ => by kernel_rfl) ?_
  apply Hs.share1 (β' := [] ++ [b0])
  · intro K
    refine Hs.branch2 0 4 (by kernel_rfl) ?_ ?_
    · refine Hs.callV (v := .agg sortC.toArray) (fun w' H => sorts_any w') (by kernel_rfl) ?_
      refine Hs.run1 300 (fun _ => by kernel_rfl) fun b1 => ?_
      exact K b1
    · refine Hs.run1 300 (fun _ => by kernel_rfl) fun b1 => ?_
      refine Hs.callV (v := .agg sortC.toArray) (fun w' H => sorts_any w') (by kernel_rfl) ?_
      refine Hs.run0 300 (fun _ => by kernel_rfl) ?_
      exact Hs.eqM (K b1) (by kernel_rfl) (by kernel_rfl)
  intro b1
  refine Hs.run0 300 (fun _ => by kernel_rfl) ?_
  refine Hs.condF (by kernel_rfl) ?_
  refine Hs.run0 300 (fun _ => by kernel_rfl) ?_
  refine Hs.condT (by kernel_rfl) ?_
  refine Hs.run0 300 (fun _ => by kernel_rfl) ?_
  refine Hs.any [0, 1] (by kernel_rfl) ?_
  refine Hs.run0 300 (fun _ => by kernel_rfl) ?_
  refine Hs.callV (v := .string (strL (Lib.itoa a))) (fun w' H => itoa_any a h0 h1 w' (hS.only H.only)) (by kernel_rfl) ?_
  have l1 := itoa_len h0 h1
  have l2 := itoa_len h2 h3
  refine Hs.takeCat (T := 9) (rd := [0, 1]) 6 [97, 99, 116, 32] (Lib.itoa a) (by simp; omega) (by kernel_rfl) ?_
  refine Hs.takeCat (T := 9) (rd := [0, 1]) 7 ([97, 99, 116, 32] ++ Lib.itoa a) [32] (by simp; omega) (by kernel_rfl) ?_
  refine Hs.run0 300 (fun _ => by kernel_rfl) ?_
  refine Hs.callV (v := .string (strL (Lib.itoa b))) (fun w' H => itoa_any b h2 h3 w' (hS.only H.only)) (by kernel_rfl) ?_
  refine Hs.takeCat (T := 9) (rd := [0, 1]) 11 ([97, 99, 116, 32] ++ Lib.itoa a ++ [32]) (Lib.itoa b) (by simp; omega) (by kernel_rfl) ?_
  refine Hs.run0 300 (fun _ => by kernel_rfl) ?_
  exact Hs.ret (v := .string (strL ([97, 99, 116, 32] ++ Lib.itoa a ++ [32] ++ Lib.itoa b))) Tryz.func24 (by kernel_rfl) fun w' H => ⟨rfl, H.only⟩
set_option maxHeartbeats 4000000 in
theorem line_13 (a b : Int) (t : ByteArray) (w : World) (hS : SLib w) (h0 : -9223372036854775808 ≤ a) (h1 : a ≤ 9223372036854775807) (h2 : -9223372036854775808 ≤ b) (h3 : b ≤ 9223372036854775807) : Calls Tryz.prog 24 #[opA ⟨13, a, b, t⟩] w (LineR (([109, 97, 115, 107, 32] ++ Lib.itoa a) ++ [32] ++ Lib.itoa b) w) := by
  refine Hs.enter Tryz.func24 [] [] [] [.g [.v (.int .i64 13), .v (.int .i64 a), .v (.int .i64 b), .v (.string t)]] (Mem.start0 w) (by kernel_rfl) (by kernel_rfl) ?_
  refine Hs.run1 300 (fun _ => by kernel_rfl) fun b0 => ?_
  refine Hs.any [0] (by kernel_rfl) ?_
  refine Hs.run0 300 (fun _ => by kernel_rfl) ?_
  apply Hs.share1 (β' := [] ++ [b0])
  · intro K
    refine Hs.branch2 0 4 (by kernel_rfl) ?_ ?_
    · refine Hs.callV (v := .agg sortC.toArray) (fun w' H => sorts_any w') (by kernel_rfl) ?_
      refine Hs.run1 300 (fun _ => by kernel_rfl) fun b1 => ?_
      exact K b1
    · refine Hs.run1 300 (fun _ => by kernel_rfl) fun b1 => ?_
      refine Hs.callV (v := .agg sortC.toArray) (fun w' H => sorts_any w') (by kernel_rfl) ?_
      refine Hs.run0 300 (fun _ => by kernel_rfl) ?_
      exact Hs.eqM (K b1) (by kernel_rfl) (by kernel_rfl)
  intro b1
  refine Hs.run0 300 (fun _ => by kernel_rfl) ?_
  refine Hs.condF (by kernel_rfl) ?_
  refine Hs.run0 300 (fun _ => by kernel_rfl) ?_
  refine Hs.condT (by kernel_rfl) ?_
  refine Hs.run0 300 (fun _ => by kernel_rfl) ?_
  refine Hs.any [0, 1] (by kernel_rfl) ?_
  refine Hs.run0 300 (fun _ => by kernel_rfl) ?_
  refine Hs.callV (v := .string (strL (Lib.itoa a))) (fun w' H => itoa_any a h0 h1 w' (hS.only H.only)) (by kernel_rfl) ?_
  have l1 := itoa_len h0 h1
  have l2 := itoa_len h2 h3
  refine Hs.takeCat (T := 9) (rd := [0, 1]) 6 [109, 97, 115, 107, 32] (Lib.itoa a) (by simp; omega) (by kernel_rfl) ?_
  refine Hs.takeCat (T := 9) (rd := [0, 1]) 7 ([109, 97, 115, 107, 32] ++ Lib.itoa a) [32] (by simp; omega) (by kernel_rfl) ?_
  refine Hs.run0 300 (fun _ => by kernel_rfl) ?_
  refine Hs.callV (v := .string (strL (Lib.itoa b))) (fun w' H => itoa_any b h2 h3 w' (hS.only H.only)) (by kernel_rfl) ?_
  refine Hs.takeCat (T := 9) (rd := [0, 1]) 11 ([109, 97, 115, 107, 32] ++ Lib.itoa a ++ [32]) (Lib.itoa b) (by simp; omega) (by kernel_rfl) ?_
  refine Hs.run0 300 (fun _ => by kernel_rfl) ?_
  exact Hs.ret (v := .string (strL ([109, 97, 115, 107, 32] ++ Lib.itoa a ++ [32] ++ Lib.itoa b))) Tryz.func24 (by kernel_rfl) fun w' H => ⟨rfl, H.only⟩
set_option maxHeartbeats 4000000 in
theorem line_14 (a b : Int) (t : ByteArray) (w : World) (hS : SLib w) (h0 : -9223372036854775808 ≤ a) (h1 : a ≤ 9223372036854775807) : Calls Tryz.prog 24 #[opA ⟨14, a, b, t⟩] w (LineR ([115, 108, 101, 101, 112, 32] ++ Lib.itoa a) w) := by
  refine Hs.enter Tryz.func24 [] [] [] [.g [.v (.int .i64 14), .v (.int .i64 a), .v (.int .i64 b), .v (.string t)]] (Mem.start0 w) (by kernel_rfl) (by kernel_rfl) ?_
  refine Hs.run1 300 (fun _ => by kernel_rfl) fun b0 => ?_
  refine Hs.any [0] (by kernel_rfl) ?_
  refine Hs.run0 300 (fun _ => by kernel_rfl) ?_
  apply Hs.share1 (β' := [] ++ [b0])
  · intro K
    refine Hs.branch2 0 4 (by kernel_rfl) ?_ ?_
    · refine Hs.callV (v := .agg sortC.toArray) (fun w' H => sorts_any w') (by kernel_rfl) ?_
      refine Hs.run1 300 (fun _ => by kernel_rfl) fun b1 => ?_
      exact K b1
    · refine Hs.run1 300 (fun _ => by kernel_rfl) fun b1 => ?_
      refine Hs.callV (v := .agg sortC.toArray) (fun w' H => sorts_any w') (by kernel_rfl) ?_
      refine Hs.run0 300 (fun _ => by kernel_rfl) ?_
      exact Hs.eqM (K b1) (by kernel_rfl) (by kernel_rfl)
  intro b1
  refine Hs.run0 300 (fun _ => by kernel_rfl) ?_
  refine Hs.condT (by kernel_rfl) ?_
  refine Hs.run0 300 (fun _ => by kernel_rfl) ?_
  refine Hs.any [0, 1] (by kernel_rfl) ?_
  refine Hs.run0 300 (fun _ => by kernel_rfl) ?_
  refine Hs.callV (v := .string (strL (Lib.itoa a))) (fun w' H => itoa_any a h0 h1 w' (hS.only H.only)) (by kernel_rfl) ?_
  refine Hs.takeCat (T := 9) (rd := [0, 1]) 6 [115, 108, 101, 101, 112, 32] (Lib.itoa a) (by have := itoa_len h0 h1; simp; omega) (by kernel_rfl) ?_
  refine Hs.run0 300 (fun _ => by kernel_rfl) ?_
  exact Hs.ret (v := .string (strL ([115, 108, 101, 101, 112, 32] ++ Lib.itoa a))) Tryz.func24 (by kernel_rfl) fun w' H => ⟨rfl, H.only⟩
set_option maxHeartbeats 4000000 in
theorem line_15 (a b : Int) (t : ByteArray) (w : World) (hS : SLib w) (h0 : -9223372036854775808 ≤ a) (h1 : a ≤ 9223372036854775807) (h2 : -9223372036854775808 ≤ b) (h3 : b ≤ 9223372036854775807) : Calls Tryz.prog 24 #[opA ⟨15, a, b, t⟩] w (LineR (([109, 111, 100, 101, 32] ++ Lib.itoa a) ++ [32] ++ Lib.itoa b) w) := by
  refine Hs.enter Tryz.func24 [] [] [] [.g [.v (.int .i64 15), .v (.int .i64 a), .v (.int .i64 b), .v (.string t)]] (Mem.start0 w) (by kernel_rfl) (by kernel_rfl) ?_
  refine Hs.run1 300 (fun _ => by kernel_rfl) fun b0 => ?_
  refine Hs.any [0] (by kernel_rfl) ?_
  refine Hs.run0 300 (fun _ => by kernel_rfl) ?_
  apply Hs.share1 (β' := [] ++ [b0])
  · intro K
    refine Hs.branch2 0 4 (by kernel_rfl) ?_ ?_
    · refine Hs.callV (v := .agg sortC.toArray) (fun w' H => sorts_any w') (by kernel_rfl) ?_
      refine Hs.run1 300 (fun _ => by kernel_rfl) fun b1 => ?_
      exact K b1
    · refine Hs.run1 300 (fun _ => by kernel_rfl) fun b1 => ?_
      refine Hs.callV (v := .agg sortC.toArray) (fun w' H => sorts_any w') (by kernel_rfl) ?_
      refine Hs.run0 300 (fun _ => by kernel_rfl) ?_
      exact Hs.eqM (K b1) (by kernel_rfl) (by kernel_rfl)
  intro b1
  refine Hs.run0 300 (fun _ => by kernel_rfl) ?_
  refine Hs.condF (by kernel_rfl) ?_
  refine Hs.run0 300 (fun _ => by kernel_rfl) ?_
  refine Hs.condT (by kernel_rfl) ?_
  refine Hs.run0 300 (fun _ => by kernel_rfl) ?_
  refine Hs.any [0, 1] (by kernel_rfl) ?_
  refine Hs.run0 300 (fun _ => by kernel_rfl) ?_
  refine Hs.callV (v := .string (strL (Lib.itoa a))) (fun w' H => itoa_any a h0 h1 w' (hS.only H.only)) (by kernel_rfl) ?_
  have l1 := itoa_len h0 h1
  have l2 := itoa_len h2 h3
  refine Hs.takeCat (T := 9) (rd := [0, 1]) 6 [109, 111, 100, 101, 32] (Lib.itoa a) (by simp; omega) (by kernel_rfl) ?_
  refine Hs.takeCat (T := 9) (rd := [0, 1]) 7 ([109, 111, 100, 101, 32] ++ Lib.itoa a) [32] (by simp; omega) (by kernel_rfl) ?_
  refine Hs.run0 300 (fun _ => by kernel_rfl) ?_
  refine Hs.callV (v := .string (strL (Lib.itoa b))) (fun w' H => itoa_any b h2 h3 w' (hS.only H.only)) (by kernel_rfl) ?_
  refine Hs.takeCat (T := 9) (rd := [0, 1]) 11 ([109, 111, 100, 101, 32] ++ Lib.itoa a ++ [32]) (Lib.itoa b) (by simp; omega) (by kernel_rfl) ?_
  refine Hs.run0 300 (fun _ => by kernel_rfl) ?_
  exact Hs.ret (v := .string (strL ([109, 111, 100, 101, 32] ++ Lib.itoa a ++ [32] ++ Lib.itoa b))) Tryz.func24 (by kernel_rfl) fun w' H => ⟨rfl, H.only⟩
set_option maxHeartbeats 4000000 in
theorem line_16 (a b : Int) (t : ByteArray) (w : World) : Calls Tryz.prog 24 #[opA ⟨16, a, b, t⟩] w (LineR ([99, 111, 112, 121]) w) := by
  refine Hs.enter Tryz.func24 [] [] [] [.g [.v (.int .i64 16), .v (.int .i64 a), .v (.int .i64 b), .v (.string t)]] (Mem.start0 w) (by kernel_rfl) (by kernel_rfl) ?_
  refine Hs.run1 300 (fun _ => by kernel_rfl) fun b0 => ?_
  refine Hs.any [0] (by kernel_rfl) ?_
  refine Hs.run0 300 (fun _ => by kernel_rfl) ?_
  apply Hs.share1 (β' := [] ++ [b0])
  · intro K
    refine Hs.branch2 0 4 (by kernel_rfl) ?_ ?_
    · refine Hs.callV (v := .agg sortC.toArray) (fun w' H => sorts_any w') (by kernel_rfl) ?_
      refine Hs.run1 300 (fun _ => by kernel_rfl) fun b1 => ?_
      exact K b1
    · refine Hs.run1 300 (fun _ => by kernel_rfl) fun b1 => ?_
      refine Hs.callV (v := .agg sortC.toArray) (fun w' H => sorts_any w') (by kernel_rfl) ?_
      refine Hs.run0 300 (fun _ => by kernel_rfl) ?_
      exact Hs.eqM (K b1) (by kernel_rfl) (by kernel_rfl)
  intro b1
  refine Hs.run0 300 (fun _ => by kernel_rfl) ?_
  refine Hs.condF (by kernel_rfl) ?_
  refine Hs.run0 300 (fun _ => by kernel_rfl) ?_
  refine Hs.condF (by kernel_rfl) ?_
  refine Hs.run0 300 (fun _ => by kernel_rfl) ?_
  refine Hs.condF (by kernel_rfl) ?_
  refine Hs.run0 300 (fun _ => by kernel_rfl) ?_
  exact Hs.ret (v := .string (strL [99, 111, 112, 121])) Tryz.func24 (by kernel_rfl) fun w' H => ⟨rfl, H.only⟩
theorem row_word {k : Nat} {r : SoR} (h : sortRows[k]? = some r) (o : OP9) (hk : o.k = k) : lineL o = r.1 ++ (if r.2.1 = 1 then 32 :: Lib.itoa o.a else if r.2.1 = 2 then 32 :: (Lib.itoa o.a ++ 32 :: Lib.itoa o.b) else if r.2.1 = 3 then 32 :: writL o.t.data.toList else []) :=
  lineL_row (by rw [hk, Int.toNat_natCast]; exact h)
/-- An operation that may be, as a line. -/
theorem line_any (o : OP9) (k : Nat) (r : SoR) (F : OpFit o k r) (h16 : k ≤ 16) (ht : o.t.size ≤ 1024) (w : World) (hS : SLib w) : Calls Tryz.prog 24 #[opA o] w (LineR (lineL o) w) := by
  have hl := row_word F.row o F.kk
  obtain ⟨kk, a, b, t⟩ := o
  have hk := F.kk
  have h1 := F.k1
  dsimp only at hk ht hl
  subst hk
  have h3 : k = 1 ∨ k = 2 ∨ k = 3 ∨ k = 4 ∨ k = 5 ∨ k = 6 ∨ k = 7 ∨ k = 8 ∨ k = 9 ∨ k = 10 ∨ k = 11 ∨ k = 12 ∨ k = 13 ∨ k = 14 ∨ k = 15 ∨ k = 16 := by omega
  have key : ∀ {x y : List UInt8}, Calls Tryz.prog 24 #[opA ⟨k, a, b, t⟩] w (LineR x w) → x = y → Calls Tryz.prog 24 #[opA ⟨k, a, b, t⟩] w (LineR y w) := fun h e => e ▸ h
  have hrow := F.row
  have fa := F.a
  have fb := F.b
  clear F
  rcases h3 with rfl | rfl | rfl | rfl | rfl | rfl | rfl | rfl | rfl | rfl | rfl | rfl | rfl | rfl | rfl | rfl
  all_goals
    injection hrow with hrow
    subst hrow
    rw [hl]
  · have fa : 0 ≤ a ∧ a ≤ 999999 := fa (.inl rfl); exact key (line_1 a b t w hS (by omega) (by omega)) (by simp)
  · exact key (line_2 a b t w ht) (by simp)
  · exact key (line_3 a b t w ht) (by simp)
  · have fa : 0 ≤ a ∧ a ≤ 999999 := fa (.inl rfl); exact key (line_4 a b t w hS (by omega) (by omega)) (by simp)
  · have fa : 0 ≤ a ∧ a ≤ 999999 := fa (.inl rfl); exact key (line_5 a b t w hS (by omega) (by omega)) (by simp)
  · have fa : 0 ≤ a ∧ a ≤ 999999 := fa (.inl rfl); exact key (line_6 a b t w hS (by omega) (by omega)) (by simp)
  · have fa : 0 ≤ a ∧ a ≤ 999999 := fa (.inl rfl); exact key (line_7 a b t w hS (by omega) (by omega)) (by simp)
  · have fa : 0 ≤ a ∧ a ≤ 999999 := fa (.inr rfl); have fb : 0 ≤ b ∧ b ≤ 999999 := fb rfl; exact key (line_8 a b t w hS (by omega) (by omega) (by omega) (by omega)) (by simp)
  · have fa : 0 ≤ a ∧ a ≤ 999999 := fa (.inl rfl); exact key (line_9 a b t w hS (by omega) (by omega)) (by simp)
  · exact key (line_10 a b t w) (by simp)
  · have fa : 0 ≤ a ∧ a ≤ 999999 := fa (.inl rfl); exact key (line_11 a b t w hS (by omega) (by omega)) (by simp)
  · have fa : 0 ≤ a ∧ a ≤ 999999 := fa (.inr rfl); have fb : 0 ≤ b ∧ b ≤ 999999 := fb rfl; exact key (line_12 a b t w hS (by omega) (by omega) (by omega) (by omega)) (by simp)
  · have fa : 0 ≤ a ∧ a ≤ 999999 := fa (.inr rfl); have fb : 0 ≤ b ∧ b ≤ 999999 := fb rfl; exact key (line_13 a b t w hS (by omega) (by omega) (by omega) (by omega)) (by simp)
  · have fa : 0 ≤ a ∧ a ≤ 999999 := fa (.inl rfl); exact key (line_14 a b t w hS (by omega) (by omega)) (by simp)
  · have fa : 0 ≤ a ∧ a ≤ 999999 := fa (.inr rfl); have fb : 0 ≤ b ∧ b ≤ 999999 := fb rfl; exact key (line_15 a b t w hS (by omega) (by omega) (by omega) (by omega)) (by simp)
  · exact key (line_16 a b t w) (by simp)
end Go.Proofs.YtmmcamkmglpgiaaGreatDoor

namespace Go.Proofs.YtmmcamkmglpgiaaGreatDoor
open Go.RowKit
set_option linter.all false
set_option maxRecDepth 100000
theorem rbetween_any (n lo hi : Int) (w : World) : Calls Tryz.prog 80 #[.int .i64 n, .int .i64 lo, .int .i64 hi] w fun e w' => e = .returned (.bool (withinB n lo hi)) ∧ Only [] w w' := by
  refine Hs.enter Tryz.func80 [] [] [] [.c (.v (.int .i64 n)), .c (.v (.int .i64 lo)), .c (.v (.int .i64 hi))] (Mem.start0 w) (by kernel_rfl) (by kernel_rfl) ?_
  refine Hs.run0 300 (fun _ => by kernel_rfl) ?_
  refine Hs.bool 10 (decide (n ≥ lo)) (by kernel_rfl) (fun h => ?_) (fun h => ?_)
  · refine Hs.rung0 [3] 300 (fun _ => by kernel_rfl) ?_
    exact Hs.ret (v := .bool (decide (n ≤ hi))) Tryz.func80 (by kernel_rfl) fun w' H => ⟨by simp [withinB, (of_decide_eq_true h : lo ≤ n)], H.only⟩
  · refine Hs.rung0 [3] 300 (fun _ => by kernel_rfl) ?_
    have h2 : ¬ lo ≤ n := of_decide_eq_false h
    exact Hs.ret (v := .bool false) Tryz.func80 (by kernel_rfl) fun w' H => ⟨by simp [withinB, h2], H.only⟩
theorem ritself_any (c : Int) (w : World) : Calls Tryz.prog 49 #[.int .u8 c] w fun e w' => e = .returned (.bool (itselfI c)) ∧ Only [] w w' := by
  refine Hs.enter Tryz.func49 [] [] [] [.c (.v (.int .u8 c))] (Mem.start0 w) (by kernel_rfl) (by kernel_rfl) ?_
  refine Hs.run0 300 (fun _ => by kernel_rfl) ?_
  refine Hs.bool 5 (decide (c ≥ 33)) (by kernel_rfl) (fun h => ?_) (fun h => ?_)
  · have h0 : (32 : Int) < c := by have := of_decide_eq_true h; omega
    refine Hs.rung0 [2] 300 (fun _ => by kernel_rfl) ?_
    refine Hs.bool 9 (decide (c ≤ 126)) (by kernel_rfl) (fun h2 => ?_) (fun h2 => ?_)
    · refine Hs.rung0 [2, 6] 300 (fun _ => by kernel_rfl) ?_
      refine Hs.slot 2 (.c (.v (.bool (decide (c ≠ 92))))) rfl ((by kernel_rfl : _ = Value.bool (!(decide (c = 92)))).trans (by simp [SV.den, SC.den])) ?_
      exact Hs.ret (v := .bool (decide (c ≠ 92))) Tryz.func49 (by kernel_rfl) fun w' H => ⟨by simp [itselfI, h0, of_decide_eq_true h2], H.only⟩
    · refine Hs.rung0 [2, 6] 300 (fun _ => by kernel_rfl) ?_
      exact Hs.ret (v := .bool false) Tryz.func49 (by kernel_rfl) fun w' H => ⟨by simp [itselfI, h0, of_decide_eq_false h2], H.only⟩
  · have h0 : ¬ (32 : Int) < c := by have := of_decide_eq_false h; omega
    refine Hs.rung0 [2] 300 (fun _ => by kernel_rfl) ?_
    refine Hs.rung0 [2, 6] 300 (fun _ => by kernel_rfl) ?_
    exact Hs.ret (v := .bool false) Tryz.func49 (by kernel_rfl) fun w' H => ⟨by simp [itselfI, h0], H.only⟩
theorem rhex_any (n : Nat) (h : n < 16) (w : World) : Calls Tryz.prog 50 #[.int .u8 (n : Int)] w fun e w' => e = .returned (.int .u8 (hexD n).toNat) ∧ Only [] w w' := by
  have hn : n = 0 ∨ n = 1 ∨ n = 2 ∨ n = 3 ∨ n = 4 ∨ n = 5 ∨ n = 6 ∨ n = 7 ∨ n = 8 ∨ n = 9 ∨ n = 10 ∨ n = 11 ∨ n = 12 ∨ n = 13 ∨ n = 14 ∨ n = 15 := by omega
  have key : ∀ (m v : Int), (m < 10) → v = 48 + m → 0 ≤ m → Calls Tryz.prog 50 #[.int .u8 m] w fun e w' => e = .returned (.int .u8 v) ∧ Only [] w w' := fun m v h1 h2 h3 => by
    refine Hs.enter Tryz.func50 [] [] [] [.c (.v (.int .u8 m))] (Mem.start0 w) (by kernel_rfl) (by kernel_rfl) ?_
    refine Hs.run0 300 (fun _ => by kernel_rfl) ?_
    refine Hs.condP (m < 10) (by kernel_rfl) (fun _ => ?_) (fun h => by omega)
    refine Hs.run0 300 (fun _ => by kernel_rfl) ?_
    exact Hs.ret (v := .int .u8 (IntKind.u8.wrap (48 + m))) Tryz.func50 (by kernel_rfl) fun w' H => ⟨by rw [h2, show IntKind.u8.wrap (48 + m) = 48 + m by show (48 + m) % 256 = _; omega], H.only⟩
  have key2 : ∀ (m v : Int), (10 ≤ m) → m < 16 → v = 87 + m → Calls Tryz.prog 50 #[.int .u8 m] w fun e w' => e = .returned (.int .u8 v) ∧ Only [] w w' := fun m v h1 h2 h3 => by
    refine Hs.enter Tryz.func50 [] [] [] [.c (.v (.int .u8 m))] (Mem.start0 w) (by kernel_rfl) (by kernel_rfl) ?_
    refine Hs.run0 300 (fun _ => by kernel_rfl) ?_
    refine Hs.condP (m < 10) (by kernel_rfl) (fun h => by omega) (fun _ => ?_)
    refine Hs.run0 300 (fun _ => by kernel_rfl) ?_
    exact Hs.ret (v := .int .u8 (IntKind.u8.wrap (IntKind.u8.wrap (97 + m) - 10))) Tryz.func50 (by kernel_rfl) fun w' H => ⟨by rw [h3, show IntKind.u8.wrap (IntKind.u8.wrap (97 + m) - 10) = 87 + m by show ((97 + m) % 256 - 10) % 256 = _; omega], H.only⟩
  rcases hn with rfl | rfl | rfl | rfl | rfl | rfl | rfl | rfl | rfl | rfl | rfl | rfl | rfl | rfl | rfl | rfl
  · exact key 0 48 (by decide) (by decide) (by decide)
  · exact key 1 49 (by decide) (by decide) (by decide)
  · exact key 2 50 (by decide) (by decide) (by decide)
  · exact key 3 51 (by decide) (by decide) (by decide)
  · exact key 4 52 (by decide) (by decide) (by decide)
  · exact key 5 53 (by decide) (by decide) (by decide)
  · exact key 6 54 (by decide) (by decide) (by decide)
  · exact key 7 55 (by decide) (by decide) (by decide)
  · exact key 8 56 (by decide) (by decide) (by decide)
  · exact key 9 57 (by decide) (by decide) (by decide)
  · exact key2 10 97 (by decide) (by decide) (by decide)
  · exact key2 11 98 (by decide) (by decide) (by decide)
  · exact key2 12 99 (by decide) (by decide) (by decide)
  · exact key2 13 100 (by decide) (by decide) (by decide)
  · exact key2 14 101 (by decide) (by decide) (by decide)
  · exact key2 15 102 (by decide) (by decide) (by decide)
/-- The document's tables. -/
def wordsV : List Value := sortRows.map fun r => .string (strL r.1)
def argI (r : SoR) : Int := if r.2.1 = 3 then 9 else r.2.1
def argsV : List Value := sortRows.map fun r => .int .i64 (argI r)
theorem rwords_any (w : World) : Calls Tryz.prog 27 #[] w fun e w' => e = .returned (.agg wordsV.toArray) ∧ Only [] w w' := by
  refine Hs.enter Tryz.func27 [] [] [] [] (Mem.start0 w) (by kernel_rfl) (by kernel_rfl) ?_
  refine Hs.run1 300 (fun _ => by kernel_rfl) fun b0 => ?_
  exact Hs.ret (v := .agg wordsV.toArray) Tryz.func27 (by kernel_rfl) fun w' H => ⟨rfl, H.only⟩
theorem rargs_any (w : World) : Calls Tryz.prog 28 #[] w fun e w' => e = .returned (.agg argsV.toArray) ∧ Only [] w w' := by
  refine Hs.enter Tryz.func28 [] [] [] [] (Mem.start0 w) (by kernel_rfl) (by kernel_rfl) ?_
  refine Hs.run1 300 (fun _ => by kernel_rfl) fun b0 => ?_
  exact Hs.ret (v := .agg argsV.toArray) Tryz.func28 (by kernel_rfl) fun w' H => ⟨rfl, H.only⟩
theorem ix_words {k : Nat} {r : SoR} (h : sortRows[k]? = some r) (w : World) : (Instr.index 75 (.agg wordsV.toArray) (.int .i64 (k : Int))).run Tryz.prog w = .ok (.string (strL r.1)) w := by
  have hk : k < 17 := (List.getElem?_eq_some_iff.1 h).1
  have h3 : k = 0 ∨ k = 1 ∨ k = 2 ∨ k = 3 ∨ k = 4 ∨ k = 5 ∨ k = 6 ∨ k = 7 ∨ k = 8 ∨ k = 9 ∨ k = 10 ∨ k = 11 ∨ k = 12 ∨ k = 13 ∨ k = 14 ∨ k = 15 ∨ k = 16 := by omega
  rcases h3 with rfl | rfl | rfl | rfl | rfl | rfl | rfl | rfl | rfl | rfl | rfl | rfl | rfl | rfl | rfl | rfl | rfl <;> (injection h with h; subst h; show _ = _; kernel_rfl)
theorem ix_args {k : Nat} {r : SoR} (h : sortRows[k]? = some r) (w : World) : (Instr.index 77 (.agg argsV.toArray) (.int .i64 (k : Int))).run Tryz.prog w = .ok (.int .i64 (argI r)) w := by
  have hk : k < 17 := (List.getElem?_eq_some_iff.1 h).1
  have h3 : k = 0 ∨ k = 1 ∨ k = 2 ∨ k = 3 ∨ k = 4 ∨ k = 5 ∨ k = 6 ∨ k = 7 ∨ k = 8 ∨ k = 9 ∨ k = 10 ∨ k = 11 ∨ k = 12 ∨ k = 13 ∨ k = 14 ∨ k = 15 ∨ k = 16 := by omega
  rcases h3 with rfl | rfl | rfl | rfl | rfl | rfl | rfl | rfl | rfl | rfl | rfl | rfl | rfl | rfl | rfl | rfl | rfl <;> (injection h with h; subst h; show _ = _; kernel_rfl)
/-- A number's digits, one behind the other. -/
theorem digits_step {u : Nat} (h : 9 < u) (s : List UInt8) : Lib.decDigits (u / 10) ++ (UInt8.ofNat (48 + u % 10) :: s) = Lib.decDigits u ++ s := by
  conv => rhs; rw [Lib.decDigits]
  rw [dif_neg (by omega), List.append_assoc]
  rfl
theorem wrap_dig {u : Nat} (h : u < 10) : IntKind.u8.wrap (IntKind.i64.wrap (48 + (u : Int))) = ((UInt8.ofNat (48 + u)).toNat : Int) := by
  rw [IntWalk.i64_in _ (by omega)]
  have : u = 0 ∨ u = 1 ∨ u = 2 ∨ u = 3 ∨ u = 4 ∨ u = 5 ∨ u = 6 ∨ u = 7 ∨ u = 8 ∨ u = 9 := by omega
  rcases this with rfl | rfl | rfl | rfl | rfl | rfl | rfl | rfl | rfl | rfl <;> rfl
end Go.Proofs.YtmmcamkmglpgiaaGreatDoor

namespace Go.Proofs.YtmmcamkmglpgiaaGreatDoor
open Go.RowKit
set_option linter.all false
set_option maxRecDepth 100000
theorem tmod_nat (u : Nat) : (u : Int).tmod 10 = ((u % 10 : Nat) : Int) := by
  rw [Int.tmod_eq_emod_of_nonneg (by omega)]
  omega
theorem tdiv_nat (u : Nat) : (u : Int).tdiv 10 = ((u / 10 : Nat) : Int) := by
  rw [Int.tdiv_eq_ediv_of_nonneg (by omega)]
  omega
abbrev StrR (l : List UInt8) (w : World) : Ending → World → Prop := fun e w' => e = .returned (.string (strL l)) ∧ Only [] w w'
set_option maxHeartbeats 4000000 in
theorem rdigits_any (u0 : Nat) (hu : u0 ≤ 999999) (w : World) : Calls Tryz.prog 29 #[.int .i64 (u0 : Int)] w (StrR (Lib.decDigits u0) w) := by
  have hL := digits_len 5 u0 (by omega)
  have J : ∀ (v : Nat), v ≤ 999999 → ∀ (s : List UInt8), Lib.decDigits v ++ s = Lib.decDigits u0 → ∀ (u : Nat → Value), Hs Tryz.prog 29 (StrR (Lib.decDigits u0) w) (Tryz.f29).ntmps w [] [] ⟨.no, loopAt Tryz.f29 0, pins [(0, .c (.v (.int .i64 (v : Int)))), (3, .c (.v (.string (strL s))))] (.vals u), []⟩ := by
    intro v
    induction v using Nat.strongRecOn with
    | _ v ih =>
      intro hv s hs u
      have hsl : s.length ≤ 6 := by have := congrArg List.length hs; rw [List.length_append] at this; omega
      by_cases h9 : v > 9
      · have hih := fun s h u => ih (v / 10) (by omega) (by omega) s h u
        clear ih
        refine Hs.run0 300 (fun _ => by kernel_rfl) ?_
        refine Hs.condP ((v : Int) > 9) (by kernel_rfl) (fun _ => ?_) (fun h => by omega)
        obtain ⟨c, hc⟩ : ∃ c, c = UInt8.ofNat (48 + v % 10) := ⟨_, rfl⟩
        refine Hs.run0 8 (fun _ => by kernel_rfl) ?_
        refine Hs.slot 9 (.c (.v (.int .u8 c.toNat))) rfl ((by kernel_rfl : _ = Value.int .u8 (IntKind.u8.wrap (IntKind.i64.wrap (48 + (v : Int).tmod 10)))).trans (by rw [tmod_nat, wrap_dig (by omega), hc]; rfl)) ?_
        refine Hs.run1 1 (fun _ => by kernel_rfl) fun b0 => ?_
        refine Hs.strU [c] (A := some ⟨b0, 0, none⟩) (c := 1) (by kernel_rfl) (fun w' H => H.rdB (cf := cu8) (wr := true) (T := 5) (cs := [.v (.int .u8 c.toNat)]) (gs := u8v [c]) 0 (by kernel_rfl) rfl) ?_
        refine Hs.run0 1 (fun _ => by kernel_rfl) ?_
        refine Hs.cat (T := 9) [c] s (by simp; omega) (by kernel_rfl) ?_
        refine Hs.run0 300 (fun _ => by kernel_rfl) ?_
        refine Hs.slot 0 (.c (.v (.int .i64 (v / 10 : Nat)))) rfl ((by kernel_rfl : _ = Value.int .i64 (IntKind.i64.wrap ((v : Int).tdiv 10))).trans (by rw [tdiv_nat, IntWalk.i64_in _ (by omega)]; rfl)) ?_
        refine Hs.loop (by kernel_rfl) ?_
        exact Hs.goto (loopAt Tryz.f29 0) [] [] [(0, .c (.v (.int .i64 (v / 10 : Nat)))), (3, .c (.v (.string (strL ([c] ++ s)))))] (by kernel_rfl) (by decide) (by kernel_rfl) (by kernel_rfl) (fun _ => (by kernel_rfl)) (fun u => hih ([c] ++ s) (by rw [← hs, hc]; exact digits_step h9 s) u)
      · obtain ⟨c, hc⟩ : ∃ c, c = UInt8.ofNat (48 + v) := ⟨_, rfl⟩
        have he : Lib.decDigits u0 = [c] ++ s := by
          rw [← hs, Lib.decDigits, dif_pos (by omega), hc]
        refine Hs.run0 300 (fun _ => by kernel_rfl) ?_
        refine Hs.condP ((v : Int) > 9) (by kernel_rfl) (fun h => by omega) (fun _ => ?_)
        refine Hs.runR0 5 [] 300 (fun _ => by kernel_rfl) ?_
        refine Hs.run0 4 (fun _ => by kernel_rfl) ?_
        refine Hs.slot 18 (.c (.v (.int .u8 c.toNat))) rfl ((by kernel_rfl : _ = Value.int .u8 (IntKind.u8.wrap (IntKind.i64.wrap (48 + (v : Int))))).trans (by rw [wrap_dig (by omega), hc]; rfl)) ?_
        refine Hs.run1 1 (fun _ => by kernel_rfl) fun b0 => ?_
        refine Hs.strU [c] (A := some ⟨b0, 0, none⟩) (c := 1) (by kernel_rfl) (fun w' H => H.rdB (cf := cu8) (wr := true) (T := 5) (cs := [.v (.int .u8 c.toNat)]) (gs := u8v [c]) 0 (by kernel_rfl) rfl) ?_
        refine Hs.run0 1 (fun _ => by kernel_rfl) ?_
        refine Hs.cat (T := 9) [c] s (by simp; omega) (by kernel_rfl) ?_
        refine Hs.run0 300 (fun _ => by kernel_rfl) ?_
        exact Hs.ret (v := .string (strL ([c] ++ s))) Tryz.func29 (by kernel_rfl) fun w' H => ⟨by rw [he], H.only⟩
  refine Hs.enter Tryz.func29 [] [] [] [.c (.v (.int .i64 (u0 : Int)))] (Mem.start0 w) (by kernel_rfl) (by kernel_rfl) ?_
  refine Hs.run0 300 (fun _ => by kernel_rfl) ?_
  refine Hs.loop (by kernel_rfl) ?_
  exact Hs.goto (loopAt Tryz.f29 0) [] [] [(0, .c (.v (.int .i64 (u0 : Int)))), (3, .c (.v (.string (strL []))))] (by kernel_rfl) (by decide) (by kernel_rfl) (by kernel_rfl) (fun _ => (by kernel_rfl)) (fun u => J u0 hu [] (by simp) u)
theorem div16 (c : UInt8) : (c.toNat : Int).tdiv 16 = ((c.toNat / 16 : Nat) : Int) := by
  rw [Int.tdiv_eq_ediv_of_nonneg (by omega)]
  omega
theorem mod16 (c : UInt8) : (c.toNat : Int).tmod 16 = ((c.toNat % 16 : Nat) : Int) := by
  rw [Int.tmod_eq_emod_of_nonneg (by omega)]
  omega
set_option maxHeartbeats 4000000 in
theorem rescaped_any (l : List UInt8) (hl : l.length ≤ 46912496118442) (w : World) : Calls Tryz.prog 30 #[.string (strL l)] w (StrR (writL l) w) := by
  have J : ∀ (d i : Nat), l.length - i = d → i ≤ l.length → ∀ (A : Option Addr) (n cap : Nat), (writL (l.take i)).length = n → ∀ (g : Nat) (u : Nat → Value), Hs Tryz.prog 30 (StrR (writL l) w) (Tryz.f30).ntmps w [] [g] ⟨.no, loopAt Tryz.f30 0, pins [(0, .c (.v (.string (strL l)))), (3, .c (.v (.slice A n cap))), (4, .c (.v (.int .i64 i)))] (.vals u), [.s A cap n 5 1 ((u8v (writL (l.take i))).flatMap cu8)]⟩ := by
    intro d
    induction d with
    | zero =>
      intro i hd hi A n cap hn g u
      obtain rfl : i = l.length := by omega
      rw [List.take_length] at hn ⊢
      refine Hs.run0 300 (fun _ => by kernel_rfl) ?_
      refine Hs.condP ((l.length : Int) < (l.length : Int)) (by kernel_rfl) (fun h => by omega) (fun _ => ?_)
      refine Hs.runR0 8 [] 300 (fun _ => by kernel_rfl) ?_
      refine Hs.run0 2 (fun _ => by kernel_rfl) ?_
      subst hn
      refine Hs.strU (writL l) (A := A) (c := cap) (by kernel_rfl) (fun w' H => by
        have h := H.ownX (cf := cu8) (E := 5) (size := 1) (A := A) (cap := cap) (l := u8v (writL l)) 0 (u8v_len _) (by kernel_rfl)
        obtain ⟨A1, cap1, e1, _, _, hr, _⟩ := h.form
        injection e1 with e1 e2 e3
        subst e1
        exact hr) ?_
      refine Hs.run0 300 (fun _ => by kernel_rfl) ?_
      exact Hs.ret (v := .string (strL (writL l))) Tryz.func30 (by kernel_rfl) fun w' H => ⟨rfl, H.only⟩
    | succ d ih =>
      intro i hd hi A n cap hn g u
      have hil : i < l.length := by omega
      obtain ⟨c, hc⟩ : ∃ c, l[i]? = some c := ⟨_, List.getElem?_eq_getElem hil⟩
      have hcl := c.toNat_lt
      have hih := fun A n cap h g u => ih (i + 1) (by omega) (by omega) A n cap h g u
      clear ih
      have hN : (writL (l.take i)).length ≤ 3 * i := Nat.le_trans (writL_len _) (by rw [List.length_take]; omega)
      rw [writL_take hc] at hih
      refine Hs.run0 300 (fun _ => by kernel_rfl) ?_
      refine Hs.condP ((i : Int) < (l.length : Int)) (by kernel_rfl) (fun _ => ?_) (fun h => by omega)
      refine Hs.run0 300 (fun _ => by kernel_rfl) ?_
      refine Hs.sIdx l i c hc (by kernel_rfl) ?_
      refine Hs.run0 300 (fun _ => by kernel_rfl) ?_
      refine Hs.callV (v := .bool (itselfI c.toNat)) (fun w' H => ritself_any _ w') (by kernel_rfl) ?_
      refine Hs.run0 300 (fun _ => by kernel_rfl) ?_
      refine Hs.cond (itselfI c.toNat) (by kernel_rfl) (fun h1 => ?_) (fun h1 => ?_)
      · have ew : writB c = [c] := by unfold writB; rw [if_pos (show itselfB c = true from h1)]
        rw [ew] at hih
        refine Hs.run0 300 (fun _ => by kernel_rfl) ?_
        refine Hs.sIdx l i c hc (by kernel_rfl) ?_
        refine Hs.run1 300 (fun _ => by kernel_rfl) fun b1 => ?_
        refine Hs.app (cf := cu8) (c := 1) (ty := 63) 0 elemU8 (u8v (writL (l.take i))) (u8v [c]) n 1 (by rw [u8v_len, hn]) rfl cu8_one cu8_len (A := A) (B := some ⟨b1, 0, none⟩) (cap := cap) (by kernel_rfl) (by kernel_rfl) (by kernel_rfl) (fun w' H => H.rdB (cf := cu8) (wr := true) (T := 5) (cs := [.v (.int .u8 c.toNat)]) (gs := u8v [c]) 1 (by kernel_rfl) rfl) (by unfold maxLen; omega) (by rw [u8_by]; omega) fun A1 c1 _ => ?_
        refine Hs.run0 300 (fun _ => by kernel_rfl) ?_
        refine Hs.slot 4 (.c (.v (.int .i64 (i + 1 : Nat)))) rfl ((by kernel_rfl : _ = Value.int .i64 (IntKind.i64.wrap ((i : Int) + 1))).trans (wrap_nextK (by omega))) ?_
        refine Hs.loop (by kernel_rfl) ?_
        have e3 : u8v (writL (l.take i)) ++ u8v [c] = u8v (writL (l.take i) ++ [c]) := by simp [u8v]
        rw [e3]
        exact Hs.goto (loopAt Tryz.f30 0) [0] [.s A1 c1 (n + 1) 5 1 ((u8v (writL (l.take i) ++ [c])).flatMap cu8)] [(0, .c (.v (.string (strL l)))), (3, .c (.v (.slice A1 (n + 1) c1))), (4, .c (.v (.int .i64 (i + 1 : Nat))))] (by kernel_rfl) (by decide) (by kernel_rfl) (by kernel_rfl) (fun _ => (by kernel_rfl)) (fun u => hih A1 (n + 1) c1 (by simp [hn]) g u)
      · have ew : writB c = [92, hexD (c.toNat / 16), hexD (c.toNat % 16)] := by unfold writB; rw [if_neg (by show ¬ itselfI c.toNat = true; rw [h1]; decide)]
        rw [ew] at hih
        refine Hs.run0 300 (fun _ => by kernel_rfl) ?_
        refine Hs.any [] (by kernel_rfl) ?_
        refine Hs.run0 300 (fun _ => by kernel_rfl) ?_
        refine Hs.takeSI (rd := []) 3 l i c hc (by kernel_rfl) ?_
        refine Hs.takeSI (rd := []) 8 l i c hc (by kernel_rfl) ?_
        refine Hs.run0 300 (fun _ => by kernel_rfl) ?_
        refine Hs.slot 30 (.c (.v (.int .u8 (c.toNat % 16 : Nat)))) rfl ((by kernel_rfl : _ = Value.int .u8 ((c.toNat : Int).tmod 16)).trans (by rw [mod16]; rfl)) ?_
        refine Hs.slot 25 (.c (.v (.int .u8 (c.toNat / 16 : Nat)))) rfl ((by kernel_rfl : _ = Value.int .u8 (IntKind.u8.wrap ((c.toNat : Int).tdiv 16))).trans (by rw [div16, show IntKind.u8.wrap ((c.toNat / 16 : Nat) : Int) = ((c.toNat / 16 : Nat) : Int) by show _ % 256 = _; omega]; rfl)) ?_
        refine Hs.callV (v := .int .u8 (hexD (c.toNat / 16)).toNat) (fun w' H => rhex_any _ (by omega) w') (by kernel_rfl) ?_
        refine Hs.run0 300 (fun _ => by kernel_rfl) ?_
        refine Hs.callV (v := .int .u8 (hexD (c.toNat % 16)).toNat) (fun w' H => rhex_any _ (by omega) w') (by kernel_rfl) ?_
        refine Hs.run1 300 (fun _ => by kernel_rfl) fun b1 => ?_
        refine Hs.app (cf := cu8) (c := 3) (ty := 63) 0 elemU8 (u8v (writL (l.take i))) (u8v [92, hexD (c.toNat / 16), hexD (c.toNat % 16)]) n 3 (by rw [u8v_len, hn]) rfl cu8_one cu8_len (A := A) (B := some ⟨b1, 0, none⟩) (cap := cap) (by kernel_rfl) (by kernel_rfl) (by kernel_rfl) (fun w' H => H.rdB (cf := cu8) (wr := true) (T := 5) (cs := [.v (.int .u8 92), .v (.int .u8 (hexD (c.toNat / 16)).toNat), .v (.int .u8 (hexD (c.toNat % 16)).toNat)]) (gs := u8v [92, hexD (c.toNat / 16), hexD (c.toNat % 16)]) 1 (by kernel_rfl) rfl) (by unfold maxLen; omega) (by rw [u8_by]; omega) fun A1 c1 _ => ?_
        refine Hs.run0 300 (fun _ => by kernel_rfl) ?_
        refine Hs.slot 4 (.c (.v (.int .i64 (i + 1 : Nat)))) rfl ((by kernel_rfl : _ = Value.int .i64 (IntKind.i64.wrap ((i : Int) + 1))).trans (wrap_nextK (by omega))) ?_
        refine Hs.loop (by kernel_rfl) ?_
        have e3 : u8v (writL (l.take i)) ++ u8v [92, hexD (c.toNat / 16), hexD (c.toNat % 16)] = u8v (writL (l.take i) ++ [92, hexD (c.toNat / 16), hexD (c.toNat % 16)]) := by simp [u8v]
        rw [e3]
        exact Hs.goto (loopAt Tryz.f30 0) [0] [.s A1 c1 (n + 3) 5 1 ((u8v (writL (l.take i) ++ [92, hexD (c.toNat / 16), hexD (c.toNat % 16)])).flatMap cu8)] [(0, .c (.v (.string (strL l)))), (3, .c (.v (.slice A1 (n + 3) c1))), (4, .c (.v (.int .i64 (i + 1 : Nat))))] (by kernel_rfl) (by decide) (by kernel_rfl) (by kernel_rfl) (fun _ => (by kernel_rfl)) (fun u => hih A1 (n + 3) c1 (by simp [hn]) g u)
  refine Hs.enter Tryz.func30 [] [] [] [.c (.v (.string (strL l)))] (Mem.start0 w) (by kernel_rfl) (by kernel_rfl) ?_
  refine Hs.run0 300 (fun _ => by kernel_rfl) ?_
  refine Hs.nilS 5 1 (by kernel_rfl) ?_ (by kernel_rfl)
  refine Hs.loop (by kernel_rfl) ?_
  exact Hs.goto (loopAt Tryz.f30 0) [0] [.s none 0 0 5 1 ((u8v (writL (l.take 0))).flatMap cu8)] [(0, .c (.v (.string (strL l)))), (3, .c (.v (.slice none 0 0))), (4, .c (.v (.int .i64 (0 : Nat))))] (by kernel_rfl) (by decide) (by kernel_rfl) (by kernel_rfl) (fun _ => (by kernel_rfl)) (fun u => J l.length 0 (by omega) (by omega) none 0 0 (by simp [writL]) 0 u)
end Go.Proofs.YtmmcamkmglpgiaaGreatDoor

namespace Go.Proofs.YtmmcamkmglpgiaaGreatDoor
open Go.RowKit
set_option linter.all false
set_option maxRecDepth 100000
def alnumI (c : Int) : Bool := (decide (c ≥ 97) && decide (c ≤ 122)) || (decide (c ≥ 48) && decide (c ≤ 57))
theorem alnum_all : ∀ n : Fin 256, alnumI ((UInt8.ofNat n.val).toNat : Int) = alnumL.contains (UInt8.ofNat n.val) := by decide +kernel
theorem alnum_eq (c : UInt8) : alnumI (c.toNat : Int) = alnumL.contains c := u8_all (p := fun c => alnumI (c.toNat : Int) = alnumL.contains c) alnum_all c
theorem dropW_nil {p : UInt8 → Bool} : ∀ {l : List UInt8}, (∀ b ∈ l, p b = true) → l.dropWhile p = []
  | [], _ => rfl
  | c :: l, h => by
    rw [List.dropWhile_cons, if_pos (h c (by simp))]
    exact dropW_nil fun b hb => h b (by simp [hb])
/-- A name that may be: some letters and digits, few. -/
theorem nmB_eq (l : List UInt8) : nmB (strL l) = (decide (1 ≤ l.length) && (decide (l.length ≤ 64) && l.all fun c => alnumI (c.toNat : Int))) := by
  have hz : (strL l).size = l.length := rfl
  have ht : textE (strL l) = decide (1 ≤ l.length) := by
    unfold textE
    rw [str_cmp0]
    cases l <;> simp
  unfold nmB
  rw [ht, hz]
  congr 1
  by_cases h64 : l.length ≤ 64
  · rw [decide_eq_true (by omega : (l.length : Int) ≤ 64), decide_eq_true h64, Bool.true_and, Bool.true_and, str_cmp0]
    cases ha : l.all fun c => alnumI (c.toNat : Int) with
    | true =>
      have : Lib.trimS l alnumL = [] := by
        unfold Lib.trimS Lib.trimRightS
        rw [dropW_nil (l := l.reverse) fun b hb => by
          have := List.all_eq_true.1 ha b (by simpa using hb)
          rw [alnum_eq] at this
          exact this]
        rfl
      show (Lib.trimS l alnumL).isEmpty = true
      rw [this]
      rfl
    | false =>
      show (Lib.trimS l alnumL).isEmpty = false
      cases ht2 : Lib.trimS l alnumL with
      | nil =>
        have := trimS_nil ht2
        have h2 : (l.all fun c => alnumI (c.toNat : Int)) = true := List.all_eq_true.2 fun c hc => by rw [alnum_eq]; exact this c hc
        rw [ha] at h2
        cases h2
      | cons _ _ => rfl
  · rw [decide_eq_false (by omega : ¬ (l.length : Int) ≤ 64), decide_eq_false h64]
    rfl
set_option maxHeartbeats 4000000 in
theorem rnamed_any (l : List UInt8) (w : World) : Calls Tryz.prog 46 #[.string (strL l)] w fun e w' => e = .returned (.bool (nmB (strL l))) ∧ Only [] w w' := by
  rw [nmB_eq]
  have J : 1 ≤ l.length → l.length ≤ 64 → ∀ (d i : Nat), l.length - i = d → i ≤ l.length → ((l.take i).all fun c => alnumI (c.toNat : Int)) = true → ∀ (u : Nat → Value), Hs Tryz.prog 46 (fun e w' => e = .returned (.bool (decide (1 ≤ l.length) && (decide (l.length ≤ 64) && l.all fun c => alnumI (c.toNat : Int)))) ∧ Only [] w w') (Tryz.f46).ntmps w [] [] ⟨.no, loopAt Tryz.f46 0, pins [(0, .c (.v (.string (strL l)))), (3, .c (.v (.int .i64 i)))] (.vals u), []⟩ := by
    intro hl1 hl64 d
    induction d with
    | zero =>
      intro i hd hi ha u
      obtain rfl : i = l.length := by omega
      rw [List.take_length] at ha
      refine Hs.run0 300 (fun _ => by kernel_rfl) ?_
      refine Hs.condP ((l.length : Int) < (l.length : Int)) (by kernel_rfl) (fun h => by omega) (fun _ => ?_)
      refine Hs.run0 300 (fun _ => by kernel_rfl) ?_
      exact Hs.ret (v := .bool true) Tryz.func46 (by kernel_rfl) fun w' H => ⟨by rw [ha, decide_eq_true hl1, decide_eq_true hl64]; rfl, H.only⟩
    | succ d ih =>
      intro i hd hi ha u
      have hil : i < l.length := by omega
      obtain ⟨c, hc⟩ : ∃ c, l[i]? = some c := ⟨_, List.getElem?_eq_getElem hil⟩
      have hih := fun h u => ih (i + 1) (by omega) (by omega) h u
      clear ih
      have htk : ((l.take (i + 1)).all fun c => alnumI (c.toNat : Int)) = alnumI (c.toNat : Int) := by
        rw [List.take_add_one, hc, List.all_append, ha]
        simp
      rw [htk] at hih
      have good : alnumI (c.toNat : Int) = true → ∀ (u : Nat → Value), Hs Tryz.prog 46 (fun e w' => e = .returned (.bool (decide (1 ≤ l.length) && (decide (l.length ≤ 64) && l.all fun c => alnumI (c.toNat : Int)))) ∧ Only [] w w') (Tryz.f46).ntmps w [] [] ⟨.no, loopAt Tryz.f46 0, pins [(0, .c (.v (.string (strL l)))), (3, .c (.v (.int .i64 (i + 1 : Nat))))] (.vals u), []⟩ := fun h u => hih h u
      have bad : alnumI (c.toNat : Int) = false → (l.all fun c => alnumI (c.toNat : Int)) = false := fun h => by
        cases hb : l.all fun c => alnumI (c.toNat : Int) with
        | false => rfl
        | true =>
          have := List.all_eq_true.1 hb c (List.mem_of_getElem? hc)
          rw [h] at this
          cases this
      clear hih
      refine Hs.run0 300 (fun _ => by kernel_rfl) ?_
      refine Hs.condP ((i : Int) < (l.length : Int)) (by kernel_rfl) (fun _ => ?_) (fun h => by omega)
      refine Hs.run0 300 (fun _ => by kernel_rfl) ?_
      refine Hs.sIdx l i c hc (by kernel_rfl) ?_
      refine Hs.run0 300 (fun _ => by kernel_rfl) ?_
      refine Hs.bool 22 (decide ((c.toNat : Int) ≥ 97)) (by kernel_rfl) (fun h1 => ?_) (fun h1 => ?_)
      · refine Hs.rung0 [4] 300 (fun _ => by kernel_rfl) ?_
        refine Hs.sIdx l i c hc (by kernel_rfl) ?_
        refine Hs.rung0 [4] 300 (fun _ => by kernel_rfl) ?_
        refine Hs.bool 28 (decide ((c.toNat : Int) ≤ 122)) (by kernel_rfl) (fun h2 => ?_) (fun h2 => ?_)
        · refine Hs.rung0 [4, 10, 15] 300 (fun _ => by kernel_rfl) ?_
          refine Hs.condF (by kernel_rfl) ?_
          have ha2 : alnumI (c.toNat : Int) = true := by unfold alnumI; rw [h1, h2]; rfl
          refine Hs.run0 300 (fun _ => by kernel_rfl) ?_
          refine Hs.slot 3 (.c (.v (.int .i64 (i + 1 : Nat)))) rfl ((by kernel_rfl : _ = Value.int .i64 (IntKind.i64.wrap ((i : Int) + 1))).trans (wrap_nextK (by omega))) ?_
          refine Hs.loop (by kernel_rfl) ?_
          exact Hs.goto (loopAt Tryz.f46 0) [] [] [(0, .c (.v (.string (strL l)))), (3, .c (.v (.int .i64 (i + 1 : Nat))))] (by kernel_rfl) (by decide) (by kernel_rfl) (by kernel_rfl) (fun _ => (by kernel_rfl)) (fun u => good ha2 u)
        · refine Hs.rung0 [4, 10] 300 (fun _ => by kernel_rfl) ?_
          refine Hs.sIdx l i c hc (by kernel_rfl) ?_
          refine Hs.rung0 [4, 10] 300 (fun _ => by kernel_rfl) ?_
          refine Hs.bool 33 (decide ((c.toNat : Int) ≥ 48)) (by kernel_rfl) (fun h3 => ?_) (fun h3 => ?_)
          · refine Hs.rung0 [4, 10, 15] 300 (fun _ => by kernel_rfl) ?_
            refine Hs.sIdx l i c hc (by kernel_rfl) ?_
            refine Hs.rung0 [4, 10, 15] 300 (fun _ => by kernel_rfl) ?_
            refine Hs.cond (!decide ((c.toNat : Int) ≤ 57)) (by kernel_rfl) (fun h4 => ?_) (fun h4 => ?_)
            · have h4 : decide ((c.toNat : Int) ≤ 57) = false := by simpa using h4
              have ha2 : alnumI (c.toNat : Int) = false := by unfold alnumI; rw [h1, h2]; rw [h3, h4]; rfl
              refine Hs.run0 300 (fun _ => by kernel_rfl) ?_
              exact Hs.ret (v := .bool false) Tryz.func46 (by kernel_rfl) fun w' H => ⟨by rw [bad ha2, Bool.and_false, Bool.and_false], H.only⟩
            · have h4 : decide ((c.toNat : Int) ≤ 57) = true := by simpa using h4
              have ha2 : alnumI (c.toNat : Int) = true := by unfold alnumI; rw [h1, h2]; rw [h3, h4]; rfl
              refine Hs.run0 300 (fun _ => by kernel_rfl) ?_
              refine Hs.slot 3 (.c (.v (.int .i64 (i + 1 : Nat)))) rfl ((by kernel_rfl : _ = Value.int .i64 (IntKind.i64.wrap ((i : Int) + 1))).trans (wrap_nextK (by omega))) ?_
              refine Hs.loop (by kernel_rfl) ?_
              exact Hs.goto (loopAt Tryz.f46 0) [] [] [(0, .c (.v (.string (strL l)))), (3, .c (.v (.int .i64 (i + 1 : Nat))))] (by kernel_rfl) (by decide) (by kernel_rfl) (by kernel_rfl) (fun _ => (by kernel_rfl)) (fun u => good ha2 u)
          · refine Hs.rung0 [4, 10, 15] 300 (fun _ => by kernel_rfl) ?_
            refine Hs.condT (by kernel_rfl) ?_
            have ha2 : alnumI (c.toNat : Int) = false := by unfold alnumI; rw [h1, h2]; rw [h3]; rfl
            refine Hs.run0 300 (fun _ => by kernel_rfl) ?_
            exact Hs.ret (v := .bool false) Tryz.func46 (by kernel_rfl) fun w' H => ⟨by rw [bad ha2, Bool.and_false, Bool.and_false], H.only⟩
      · refine Hs.rung0 [4, 10] 300 (fun _ => by kernel_rfl) ?_
        refine Hs.sIdx l i c hc (by kernel_rfl) ?_
        refine Hs.rung0 [4, 10] 300 (fun _ => by kernel_rfl) ?_
        refine Hs.bool 33 (decide ((c.toNat : Int) ≥ 48)) (by kernel_rfl) (fun h3 => ?_) (fun h3 => ?_)
        · refine Hs.rung0 [4, 10, 15] 300 (fun _ => by kernel_rfl) ?_
          refine Hs.sIdx l i c hc (by kernel_rfl) ?_
          refine Hs.rung0 [4, 10, 15] 300 (fun _ => by kernel_rfl) ?_
          refine Hs.cond (!decide ((c.toNat : Int) ≤ 57)) (by kernel_rfl) (fun h4 => ?_) (fun h4 => ?_)
          · have h4 : decide ((c.toNat : Int) ≤ 57) = false := by simpa using h4
            have ha2 : alnumI (c.toNat : Int) = false := by unfold alnumI; rw [h1]; rw [h3, h4]; rfl
            refine Hs.run0 300 (fun _ => by kernel_rfl) ?_
            exact Hs.ret (v := .bool false) Tryz.func46 (by kernel_rfl) fun w' H => ⟨by rw [bad ha2, Bool.and_false, Bool.and_false], H.only⟩
          · have h4 : decide ((c.toNat : Int) ≤ 57) = true := by simpa using h4
            have ha2 : alnumI (c.toNat : Int) = true := by unfold alnumI; rw [h1]; rw [h3, h4]; rfl
            refine Hs.run0 300 (fun _ => by kernel_rfl) ?_
            refine Hs.slot 3 (.c (.v (.int .i64 (i + 1 : Nat)))) rfl ((by kernel_rfl : _ = Value.int .i64 (IntKind.i64.wrap ((i : Int) + 1))).trans (wrap_nextK (by omega))) ?_
            refine Hs.loop (by kernel_rfl) ?_
            exact Hs.goto (loopAt Tryz.f46 0) [] [] [(0, .c (.v (.string (strL l)))), (3, .c (.v (.int .i64 (i + 1 : Nat))))] (by kernel_rfl) (by decide) (by kernel_rfl) (by kernel_rfl) (fun _ => (by kernel_rfl)) (fun u => good ha2 u)
        · refine Hs.rung0 [4, 10, 15] 300 (fun _ => by kernel_rfl) ?_
          refine Hs.condT (by kernel_rfl) ?_
          have ha2 : alnumI (c.toNat : Int) = false := by unfold alnumI; rw [h1]; rw [h3]; rfl
          refine Hs.run0 300 (fun _ => by kernel_rfl) ?_
          exact Hs.ret (v := .bool false) Tryz.func46 (by kernel_rfl) fun w' H => ⟨by rw [bad ha2, Bool.and_false, Bool.and_false], H.only⟩
  refine Hs.enter Tryz.func46 [] [] [] [.c (.v (.string (strL l)))] (Mem.start0 w) (by kernel_rfl) (by kernel_rfl) ?_
  refine Hs.run0 300 (fun _ => by kernel_rfl) ?_
  refine Hs.bool 7 (decide ((l.length : Int) < 1)) (by kernel_rfl) (fun h1 => ?_) (fun h1 => ?_)
  · have h1 : ¬ 1 ≤ l.length := by have := of_decide_eq_true h1; omega
    refine Hs.rung0 [3] 300 (fun _ => by kernel_rfl) ?_
    refine Hs.condT (by kernel_rfl) ?_
    refine Hs.run0 300 (fun _ => by kernel_rfl) ?_
    exact Hs.ret (v := .bool false) Tryz.func46 (by kernel_rfl) fun w' H => ⟨by rw [decide_eq_false h1]; rfl, H.only⟩
  · have h1 : 1 ≤ l.length := by have := of_decide_eq_false h1; omega
    refine Hs.rung0 [3] 300 (fun _ => by kernel_rfl) ?_
    refine Hs.cond (decide ((l.length : Int) > 64)) (by kernel_rfl) (fun h2 => ?_) (fun h2 => ?_)
    · have h2 : ¬ l.length ≤ 64 := by have := of_decide_eq_true h2; omega
      refine Hs.run0 300 (fun _ => by kernel_rfl) ?_
      exact Hs.ret (v := .bool false) Tryz.func46 (by kernel_rfl) fun w' H => ⟨by rw [decide_eq_false h2, Bool.false_and, Bool.and_false], H.only⟩
    · have h2 : l.length ≤ 64 := by have := of_decide_eq_false h2; omega
      refine Hs.run0 300 (fun _ => by kernel_rfl) ?_
      refine Hs.loop (by kernel_rfl) ?_
      exact Hs.goto (loopAt Tryz.f46 0) [] [] [(0, .c (.v (.string (strL l)))), (3, .c (.v (.int .i64 (0 : Nat))))] (by kernel_rfl) (by decide) (by kernel_rfl) (by kernel_rfl) (fun _ => (by kernel_rfl)) (fun u => J h1 h2 l.length 0 (by omega) (by omega) rfl u)
end Go.Proofs.YtmmcamkmglpgiaaGreatDoor

/- Layer 19: a text read back from how it is written; for all texts; no condition but their length. -/
import Derived.Test.YtmmcamkmglpgiaaGreatDoorPrB
namespace Go.Proofs.YtmmcamkmglpgiaaGreatDoor
open Go.RowKit
set_option linter.all false
set_option maxRecDepth 100000
section
variable {f : FR} {R : Ending → World → Prop} {n : Nat} {w0 : World} {L : List Nat} {β : List Nat} {m : SM}
theorem run_sIdx (l : List UInt8) (i : Nat) (c : UInt8) (hi : l[i]? = some c) (w : World) : (Instr.index 9 (.string (strL l)) (.int .i64 (i : Int))).run Tryz.prog w = .ok (.int .u8 c.toNat) w := by
  have hu : Tryz.prog.underlying 9 = some .string := by kernel_rfl
  have hg : (strL l)[i]? = some c := by
    obtain ⟨h1, h2⟩ := (List.getElem?_eq_some_iff.1 hi)
    have h3 : i < (strL l).size := h1
    rw [getElem?_pos (strL l) i h3]
    exact congrArg some h2
  simp only [Instr.index, asIntOf, Sem.run_bind, Sem.run_pure, Result.andThen_ok, run_underlying hu w]
  rw [if_pos (Int.natCast_nonneg i)]
  simp only [Int.toNat_natCast, hg]
  rfl
theorem Hs.takeSI (j : Nat) (l : List UInt8) (i : Nat) (c : UInt8) {rd : List Nat} (hi : l[i]? = some c) (hs : semAt j n β m = some (valS (Instr.index 9 (.string (strL l)) (.int .i64 (i : Int))), rd)) (k : Hs Tryz.prog f R n w0 L β (takeM j (.c (.v (.int .u8 c.toNat))) m)) : Hs Tryz.prog f R n w0 L β m :=
  Hs.takeV j (.c (.v (.int .u8 c.toNat))) hs rfl (fun w _ => run_sIdx l i c hi w) k
end
theorem run_conv0 (A : Option Addr) (c : Nat) (w : World) : (convert 63 9 (.slice A 0 c)).run Tryz.prog w = .ok (.string ⟨#[]⟩) w := by
  cases A with
  | none => kernel_rfl
  | some a => obtain ⟨b, o, s⟩ := a; kernel_rfl
def u8v (l : List UInt8) : List Int := l.map fun c => (c.toNat : Int)
theorem u8v_len (l : List UInt8) : (u8v l).length = l.length := by simp [u8v]
theorem u8v_snoc (l : List UInt8) (c : UInt8) : u8v (l ++ [c]) = u8v l ++ [(c.toNat : Int)] := by simp [u8v]
/-- A byte of two digits of hex. -/
def hexV (x y : Int) : Int := IntKind.u8.wrap (16 * x + y)
section
variable {f : FR} {R : Ending → World → Prop} {n : Nat} {w0 : World} {L : List Nat} {β : List Nat} {m : SM}
theorem Hs.strU (l : List UInt8) {A : Option Addr} {c : Nat} (hs : semOf n β m = some (valS (convert 63 9 (.slice A l.length c)))) (hr : ∀ w, Mem w0 L β m.hp w → RdX cu8 w A (u8v l)) (k : Hs Tryz.prog f R n w0 L β (m.put (dstOf m) (.c (.v (.string (strL l)))) m.hp)) : Hs Tryz.prog f R n w0 L β m := by
  cases l with
  | nil => exact Hs.opV (.c (.v (.string ⟨#[]⟩))) hs rfl (fun w H => run_conv0 A c w) k
  | cons x l => exact Hs.strB (x :: l) (e := 5) (by kernel_rfl) (by kernel_rfl) (by kernel_rfl) rfl (by simp) hs hr k
end
def readB : Nat → List UInt8 → List UInt8 → Option (List UInt8)
  | 0, _, _ => none
  | k + 1, l, out => match l with
    | [] => some out
    | c :: l => match itselfB c with
      | true => readB k l (out ++ [c])
      | false => match !decide ((c.toNat : Int) = 92) with
        | true => none
        | false => match l with
          | a :: b :: r => match decide (digI a.toNat < 0) || decide (digI b.toNat < 0) with
            | true => none
            | false => match itselfI (hexV (digI a.toNat) (digI b.toNat)) with
              | true => none
              | false => readB k r (out ++ [(hexV (digI a.toNat) (digI b.toNat)).toNat.toUInt8])
          | _ => none
theorem readB_esc (k : Nat) (c : UInt8) (rest out : List UInt8) (hi : itselfI c.toNat = false) : readB (k + 1) (c :: rest) out = (match !decide ((c.toNat : Int) = 92) with
  | true => none
  | false => match rest with
    | a :: b :: r => match decide (digI a.toNat < 0) || decide (digI b.toNat < 0) with
      | true => none
      | false => match itselfI (hexV (digI a.toNat) (digI b.toNat)) with
        | true => none
        | false => readB k r (out ++ [(hexV (digI a.toNat) (digI b.toNat)).toNat.toUInt8])
    | _ => none) := by
  show (match itselfB c with | true => readB k rest (out ++ [c]) | false => _) = _
  rw [show itselfB c = false from hi]
def readR (l : List UInt8) : Value := match readB (l.length + 1) l [] with
  | some o => .tuple #[.string (strL o), .bool true]
  | none => .tuple #[.string ⟨#[]⟩, .bool false]
theorem wrap_u8 (x : Int) : 0 ≤ IntKind.u8.wrap x ∧ IntKind.u8.wrap x < 256 := by
  show 0 ≤ x % 256 ∧ x % 256 < 256
  omega
theorem hexV_u8 (x y : Int) : ((hexV x y).toNat.toUInt8.toNat : Int) = hexV x y := by
  have h := wrap_u8 (16 * x + y)
  unfold hexV
  generalize IntKind.u8.wrap (16 * x + y) = z at *
  have : z.toNat.toUInt8.toNat = z.toNat % 256 := by simp
  rw [this]
  omega
theorem ix_lt : ∀ (l : List UInt8) (c : UInt8), Lib.indexByte l c < (l.length : Int)
  | [], c => by show (-1 : Int) < 0; omega
  | b :: l, c => by
    have := ix_lt l c
    unfold Lib.indexByte
    rw [List.length_cons]
    split
    · omega
    · split <;> omega
theorem digI_hi (c : Int) : -1 ≤ digI c ∧ digI c ≤ 15 := by
  refine ⟨Lib.indexByte_ge _ _, ?_⟩
  have := ix_lt hexL c.toNat.toUInt8
  unfold digI
  have h : (hexL.length : Int) = 16 := rfl
  omega
theorem u8_by : Tryz.prog.bytesOf 5 = 1 := by kernel_rfl
/-- The byte as the code works it out. -/
def hexW (x y : Int) : Int := IntKind.u8.wrap (IntKind.i64.wrap (IntKind.i64.wrap (16 * x) + y))
theorem hexW_eq {x y : Int} (hx : -1 ≤ x ∧ x ≤ 15) (hy : -1 ≤ y ∧ y ≤ 15) : hexW x y = hexV x y := by
  unfold hexW hexV
  rw [IntWalk.i64_in (16 * x) (by omega), IntWalk.i64_in _ (by omega)]
set_option maxHeartbeats 4000000 in
theorem read_any19 (l : List UInt8) (hl : l.length ≤ 140737488355000) (w : World) : Calls Tryz.prog 60 #[.string (strL l)] w fun e w' => e = .returned (readR l) ∧ Only [] w w' := by
  have J : ∀ (k : Nat) (rest out : List UInt8) (no : Nat), out.length = no → rest.length < k → rest.length + no ≤ l.length → readB k rest out = readB (l.length + 1) l [] → ∀ (A4 : Option Addr) (c4 : Nat) (u : Nat → Value), Hs Tryz.prog 60 (fun e w' => e = .returned (readR l) ∧ Only [] w w') (Tryz.f60).ntmps w [] [0] ⟨.no, loopAt Tryz.f60 0, pins [(0, .c (.v (.string (strL rest)))), (2, .c (.v (.string ⟨#[]⟩))), (3, .c (.v (.bool false))), (4, .c (.v (.slice A4 no c4)))] (.vals u), [.s A4 c4 no 5 1 ((u8v out).flatMap cu8)]⟩ := by
    intro k
    induction k with
    | zero => intro rest out no _ h; omega
    | succ k ih =>
      intro rest out no hno hk hlen hrd A4 c4 u
      have hol : (u8v out).length = no := by rw [u8v_len, hno]
      have hnone : readB (k + 1) rest out = none → readR l = .tuple #[.string ⟨#[]⟩, .bool false] := fun h => by
        unfold readR; rw [← hrd, h]
      cases rest with
      | nil =>
        have hsome : readR l = .tuple #[.string (strL out), .bool true] := by
          unfold readR; rw [← hrd]; rfl
        subst hno
        refine Hs.run0 300 (fun _ => by kernel_rfl) ?_
        refine Hs.condF (by kernel_rfl) ?_
        refine Hs.runR0 14 [] 300 (fun _ => by kernel_rfl) ?_
        refine Hs.run0 2 (fun _ => by kernel_rfl) ?_
        refine Hs.strU out (A := A4) (c := c4) (by kernel_rfl) (fun w' H => H.rdX (cap := c4) (E := 5) (size := 1) 0 (u8v_len out) (by kernel_rfl)) ?_
        refine Hs.run0 300 (fun _ => by kernel_rfl) ?_
        exact Hs.ret (v := .tuple #[.string (strL out), .bool true]) Tryz.func60 (by kernel_rfl) fun w' H => ⟨by rw [hsome], H.only⟩
      | cons c rest =>
        rw [List.length_cons] at hk hlen
        have back : ∀ (rest2 : List UInt8) (x : Int) (ub : UInt8), x = (ub.toNat : Int) → rest2.length ≤ rest.length → readB k rest2 (out ++ [ub]) = readB (l.length + 1) l [] → ∀ (A6 : Option Addr) (c6 : Nat) (u : Nat → Value), Hs Tryz.prog 60 (fun e w' => e = .returned (readR l) ∧ Only [] w w') (Tryz.f60).ntmps w [] [0] ⟨.no, loopAt Tryz.f60 0, pins [(0, .c (.v (.string (strL rest2)))), (2, .c (.v (.string ⟨#[]⟩))), (3, .c (.v (.bool false))), (4, .c (.v (.slice A6 (no + 1) c6)))] (.vals u), [.s A6 c6 (no + 1) 5 1 ((u8v out ++ [x]).flatMap cu8)]⟩ := fun rest2 x ub hx h1 h2 A6 c6 u => by
          subst hx
          have := ih rest2 (out ++ [ub]) (no + 1) (by rw [List.length_append, hno]; rfl) (by omega) (by omega) h2 A6 c6 u
          rw [u8v_snoc] at this
          exact this
        clear ih
        refine Hs.run0 300 (fun _ => by kernel_rfl) ?_
        refine Hs.slot 9 (.c (.v (.bool true))) rfl ((by kernel_rfl : _ = Value.bool (!((strL (c :: rest)).toList == (⟨#[]⟩ : ByteArray).toList))).trans (by rw [str_cmp0]; rfl)) ?_
        refine Hs.condT (by kernel_rfl) ?_
        refine Hs.run0 300 (fun _ => by kernel_rfl) ?_
        refine Hs.sIdx (c :: rest) 0 c rfl (by kernel_rfl) ?_
        refine Hs.run0 300 (fun _ => by kernel_rfl) ?_
        refine Hs.sCut (c :: rest) 1 (by simp) (by kernel_rfl) ?_
        refine Hs.run0 300 (fun _ => by kernel_rfl) ?_
        refine Hs.callV (v := .bool (itselfI c.toNat)) (fun w' H => itself_any _ w') (by kernel_rfl) ?_
        refine Hs.run0 300 (fun _ => by kernel_rfl) ?_
        refine Hs.cond (itselfI c.toNat) (by kernel_rfl) (fun hi => ?_) (fun hi => ?_)
        · refine Hs.run1 300 (fun _ => by kernel_rfl) fun b1 => ?_
          refine Hs.app (cf := cu8) (c := 1) (ty := 63) 0 elemU8 (u8v out) [(c.toNat : Int)] no 1 hol rfl cu8_one cu8_len (A := A4) (B := some ⟨b1, 0, none⟩) (cap := c4) (by kernel_rfl) (by kernel_rfl) (by kernel_rfl) (fun w' H => H.rdB (cf := cu8) (wr := true) (T := 5) (cs := [.v (.int .u8 c.toNat)]) (gs := [(c.toNat : Int)]) 1 (by kernel_rfl) rfl) (by unfold maxLen; omega) (by rw [u8_by]; omega) fun A6 c6 h6 => ?_
          refine Hs.run0 300 (fun _ => by kernel_rfl) ?_
          refine Hs.loop (by kernel_rfl) ?_
          exact Hs.goto (loopAt Tryz.f60 0) [0] [.s A6 c6 (no + 1) 5 1 ((u8v out ++ [(c.toNat : Int)]).flatMap cu8)] [(0, .c (.v (.string (strL rest)))), (2, .c (.v (.string ⟨#[]⟩))), (3, .c (.v (.bool false))), (4, .c (.v (.slice A6 (no + 1) c6)))] (by kernel_rfl) (by decide) (by kernel_rfl) (by kernel_rfl) (fun _ => (by kernel_rfl)) (fun u => back rest _ c rfl (Nat.le_refl _) (by rw [← hrd]; show _ = (match itselfB c with | true => readB k rest (out ++ [c]) | false => _); rw [show itselfB c = true from hi]) A6 c6 u)
        rw [readB_esc k c rest out hi] at hrd hnone
        refine Hs.run0 300 (fun _ => by kernel_rfl) ?_
        refine Hs.bool 22 (!decide ((c.toNat : Int) = 92)) (by kernel_rfl) (fun hc => ?_) (fun hc => ?_)
        · rw [hc] at hnone
          refine Hs.rung0 [2] 300 (fun _ => by kernel_rfl) ?_
          refine Hs.condT (by kernel_rfl) ?_
          refine Hs.run0 300 (fun _ => by kernel_rfl) ?_
          exact Hs.ret (v := .tuple #[.string ⟨#[]⟩, .bool false]) Tryz.func60 (by kernel_rfl) fun w' H => ⟨by rw [hnone rfl], H.only⟩
        rw [hc] at hnone hrd
        have short : rest.length < 2 → readR l = .tuple #[.string ⟨#[]⟩, .bool false] := fun h => hnone (by
          cases rest with
          | nil => rfl
          | cons a r => cases r with
            | nil => rfl
            | cons b r => simp at h; omega)
        refine Hs.rung0 [2] 300 (fun _ => by kernel_rfl) ?_
        refine Hs.condP (((strL rest).size : Int) < 2) (by kernel_rfl) (fun hs => ?_) (fun hs => ?_)
        · have hz : (strL rest).size = rest.length := rfl
          have h2 := short (by omega)
          refine Hs.run0 300 (fun _ => by kernel_rfl) ?_
          exact Hs.ret (v := .tuple #[.string ⟨#[]⟩, .bool false]) Tryz.func60 (by kernel_rfl) fun w' H => ⟨by rw [h2], H.only⟩
        clear short
        cases rest with
        | nil => exact absurd (show ((strL []).size : Int) < 2 by decide) hs
        | cons a r => cases r with
          | nil => exact absurd (show ((strL [a]).size : Int) < 2 by show ((1 : Nat) : Int) < 2; decide) hs
          | cons b r =>
            dsimp only at hnone hrd
            have ha := digI_hi a.toNat
            have hb := digI_hi b.toNat
            refine Hs.run0 300 (fun _ => by kernel_rfl) ?_
            refine Hs.any [0] (by kernel_rfl) ?_
            refine Hs.run0 300 (fun _ => by kernel_rfl) ?_
            refine Hs.takeSI (rd := [0]) 1 (a :: b :: r) 0 a rfl (by kernel_rfl) ?_
            refine Hs.takeSI (rd := [0]) 4 (a :: b :: r) 1 b rfl (by kernel_rfl) ?_
            refine Hs.run0 300 (fun _ => by kernel_rfl) ?_
            refine Hs.callV (v := .int .i64 (digI a.toNat)) (fun w' H => digit_any _ w') (by kernel_rfl) ?_
            refine Hs.run0 300 (fun _ => by kernel_rfl) ?_
            refine Hs.callV (v := .int .i64 (digI b.toNat)) (fun w' H => digit_any _ w') (by kernel_rfl) ?_
            refine Hs.run0 300 (fun _ => by kernel_rfl) ?_
            refine Hs.bool 35 (decide (digI a.toNat < 0)) (by kernel_rfl) (fun h1 => ?_) (fun h1 => ?_)
            · rw [h1] at hnone
              refine Hs.rung0 [2] 300 (fun _ => by kernel_rfl) ?_
              refine Hs.rung0 [2, 6] 300 (fun _ => by kernel_rfl) ?_
              refine Hs.condT (by kernel_rfl) ?_
              refine Hs.run0 300 (fun _ => by kernel_rfl) ?_
              exact Hs.ret (v := .tuple #[.string ⟨#[]⟩, .bool false]) Tryz.func60 (by kernel_rfl) fun w' H => ⟨by rw [hnone rfl], H.only⟩
            refine Hs.rung0 [2] 300 (fun _ => by kernel_rfl) ?_
            refine Hs.bool 39 (decide (digI b.toNat < 0)) (by kernel_rfl) (fun h2 => ?_) (fun h2 => ?_)
            · rw [h1, h2] at hnone
              refine Hs.rung0 [2, 6] 300 (fun _ => by kernel_rfl) ?_
              refine Hs.condT (by kernel_rfl) ?_
              refine Hs.run0 300 (fun _ => by kernel_rfl) ?_
              exact Hs.ret (v := .tuple #[.string ⟨#[]⟩, .bool false]) Tryz.func60 (by kernel_rfl) fun w' H => ⟨by rw [hnone rfl], H.only⟩
            rw [h1, h2] at hnone hrd
            refine Hs.rung0 [2, 6] 300 (fun _ => by kernel_rfl) ?_
            refine Hs.slot 44 (.c (.v (.int .u8 (hexV (digI a.toNat) (digI b.toNat))))) rfl ((by kernel_rfl : _ = Value.int .u8 (hexW (digI a.toNat) (digI b.toNat))).trans (by rw [hexW_eq ha hb]; rfl)) ?_
            refine Hs.callV (v := .bool (itselfI (hexV (digI a.toNat) (digI b.toNat)))) (fun w' H => itself_any _ w') (by kernel_rfl) ?_
            refine Hs.rung0 [2, 6] 300 (fun _ => by kernel_rfl) ?_
            refine Hs.cond (itselfI (hexV (digI a.toNat) (digI b.toNat))) (by kernel_rfl) (fun hv => ?_) (fun hv => ?_)
            · have hn2 := hnone (by show (match itselfI (hexV (digI a.toNat) (digI b.toNat)) with | true => none | false => _) = none; rw [hv])
              refine Hs.run0 300 (fun _ => by kernel_rfl) ?_
              exact Hs.ret (v := .tuple #[.string ⟨#[]⟩, .bool false]) Tryz.func60 (by kernel_rfl) fun w' H => ⟨by rw [hn2], H.only⟩
            have hrd2 : readB k r (out ++ [(hexV (digI a.toNat) (digI b.toNat)).toNat.toUInt8]) = readB (l.length + 1) l [] := by
              rw [← hrd]
              show _ = (match itselfI (hexV (digI a.toNat) (digI b.toNat)) with | true => none | false => _)
              rw [hv]
            rw [List.length_cons, List.length_cons] at hlen
            refine Hs.run1 300 (fun _ => by kernel_rfl) fun b1 => ?_
            refine Hs.app (cf := cu8) (c := 1) (ty := 63) 0 elemU8 (u8v out) [hexW (digI a.toNat) (digI b.toNat)] no 1 hol rfl cu8_one cu8_len (A := A4) (B := some ⟨b1, 0, none⟩) (cap := c4) (by kernel_rfl) (by kernel_rfl) (by kernel_rfl) (fun w' H => H.rdB (cf := cu8) (wr := true) (T := 5) (cs := [.v (.int .u8 (hexW (digI a.toNat) (digI b.toNat)))]) (gs := [hexW (digI a.toNat) (digI b.toNat)]) 1 (by kernel_rfl) rfl) (by unfold maxLen; omega) (by rw [u8_by]; omega) fun A6 c6 h6 => ?_
            refine Hs.run0 300 (fun _ => by kernel_rfl) ?_
            refine Hs.sCut (a :: b :: r) 2 (by simp) (by kernel_rfl) ?_
            refine Hs.run0 300 (fun _ => by kernel_rfl) ?_
            refine Hs.loop (by kernel_rfl) ?_
            exact Hs.goto (loopAt Tryz.f60 0) [0] [.s A6 c6 (no + 1) 5 1 ((u8v out ++ [hexW (digI a.toNat) (digI b.toNat)]).flatMap cu8)] [(0, .c (.v (.string (strL r)))), (2, .c (.v (.string ⟨#[]⟩))), (3, .c (.v (.bool false))), (4, .c (.v (.slice A6 (no + 1) c6)))] (by kernel_rfl) (by decide) (by kernel_rfl) (by kernel_rfl) (fun _ => (by kernel_rfl)) (fun u => back r _ (hexV (digI a.toNat) (digI b.toNat)).toNat.toUInt8 ((hexW_eq ha hb).trans (hexV_u8 _ _).symm) (by rw [List.length_cons, List.length_cons]; omega) hrd2 A6 c6 u)
  refine Hs.enter Tryz.func60 [] [] [] [.c (.v (.string (strL l)))] (Mem.start0 w) (by kernel_rfl) (by kernel_rfl) ?_
  refine Hs.run0 300 (fun _ => by kernel_rfl) ?_
  refine Hs.nilS 5 1 (by kernel_rfl) ?_ (by kernel_rfl)
  refine Hs.loop (by kernel_rfl) ?_
  exact Hs.goto (loopAt Tryz.f60 0) [0] [.s none 0 0 5 1 ((u8v []).flatMap cu8)] [(0, .c (.v (.string (strL l)))), (2, .c (.v (.string ⟨#[]⟩))), (3, .c (.v (.bool false))), (4, .c (.v (.slice none 0 0)))] (by kernel_rfl) (by decide) (by kernel_rfl) (by kernel_rfl) (fun _ => (by kernel_rfl)) (fun u => J (l.length + 1) l [] 0 rfl (by omega) (by simp) rfl none 0 u)
end Go.Proofs.YtmmcamkmglpgiaaGreatDoor

/- Layer 19: the operation that a line says; for all lines; where the library's tables hold what they hold · The machine: two structs compared (flat ones and nested ones; bools, numbers, strings); over any program; no condition · Layer 18: signals' names and numbers; for all numbers and names; no condition · Layer 8: settings: whether a flag is on, what a character is, a flag set; for all settings; no condition · Layer 19: what is asked of an operation, kind by kind; for all operations; no condition · Layers 18, 19: an action's change; whether an operation may be; for all operations; no condition. -/
import Derived.Test.YtmmcamkmglpgiaaGreatDoorPwA
import Derived.ChangeKeysEq
import Derived.Test.YtmmcamkmglpgiaaGreatDoorEngG
import Derived.Test.YtmmcamkmglpgiaaGreatDoorEngAC
import Derived.Test.YtmmcamkmglpgiaaGreatDoorEngQ
namespace Go.Proofs.YtmmcamkmglpgiaaGreatDoor
open Go.RowKit
set_option linter.all false
set_option maxRecDepth 100000
section
variable {P : Program} {f : FR} {R : Ending → World → Prop} {n : Nat} {w0 : World} {L : List Nat} {β : List Nat} {m : SM}
def strM (P : Program) (n : Nat) (m : SM) : SM := (strK P n m).getD m
/-- Texts compared, a row indexed, a slice of a whole array. -/
theorem Hs.xk (hs : (strK P n m).isSome = true) (h : Hs P f R n w0 L β (strM P n m)) : Hs P f R n w0 L β m := by
  obtain ⟨m', hm'⟩ := Option.isSome_iff_exists.1 hs
  unfold strM at h
  rw [hm'] at h
  have h : Hs P f R n w0 L β m' := h
  refine ⟨fun w H W => ?_⟩
  obtain ⟨h1, h2, h3⟩ := strK_sound (P := P) (f := f) (R := R) (β := β) hm' H W
  exact h3 (h.go w (by rw [h1]; exact H) h2)
end
def zero9 : OP9 := ⟨0, 0, 0, ⟨#[]⟩⟩
def shK (k : Int) : Int := match sortRows[k.toNat]? with
  | some r => r.2.1
  | none => 0
def opN (k : Int) : List (List UInt8) → Option OP9
  | [] => some ⟨k, 0, 0, ⟨#[]⟩⟩
  | [a] => match numOk a with
    | true => some ⟨k, atoiN a, 0, ⟨#[]⟩⟩
    | false => none
  | a :: b :: _ => match numOk a with
    | true => match numOk b with
      | true => some ⟨k, atoiN a, atoiN b, ⟨#[]⟩⟩
      | false => none
    | false => none
def opT (k : Int) : List (List UInt8) → OP9 × Bool
  | [a] => match readB (a.length + 1) a [] with
    | some o => (⟨k, 0, 0, strL o⟩, true)
    | none => (⟨k, 0, 0, ⟨#[]⟩⟩, false)
  | _ => (zero9, false)
/-- The operation that a line says; false: none. -/
def opW : List (List UInt8) → OP9 × Bool
  | [] => (zero9, false)
  | x :: r => match decide (ixI x < 1) with
    | true => (zero9, false)
    | false => match shK (ixI x) == 3 with
      | true => opT (ixI x) r
      | false => match decide (((r.length + 1 : Nat) : Int) = 1 + shK (ixI x)) with
        | false => (zero9, false)
        | true => match opN (ixI x) r with
          | some o => (o, true)
          | none => (zero9, false)
theorem opW_cons (x : List UInt8) (r : List (List UInt8)) : opW (x :: r) = match decide (ixI x < 1) with
    | true => (zero9, false)
    | false => match shK (ixI x) == 3 with
      | true => opT (ixI x) r
      | false => match decide (((r.length + 1 : Nat) : Int) = 1 + shK (ixI x)) with
        | false => (zero9, false)
        | true => match opN (ixI x) r with
          | some o => (o, true)
          | none => (zero9, false) := rfl
def opB (s : List UInt8) : OP9 × Bool := opW (cutS s)
def opV (o : OP9 × Bool) : Value := .tuple #[.agg (cOP o.1).toArray, .bool o.2]
theorem ixF_lt (x : List UInt8) : ∀ (l : List SoR) (i : Nat), ixF x l i = -1 ∨ ∃ j r, l[j]? = some r ∧ ixF x l i = ((i + j : Nat) : Int)
  | [], i => .inl rfl
  | r :: l, i => by
    unfold ixF
    cases r.1 == x with
    | true => exact .inr ⟨0, r, rfl, rfl⟩
    | false =>
      rcases ixF_lt x l (i + 1) with h | ⟨j, q, h1, h2⟩
      · exact .inl h
      · exact .inr ⟨j + 1, q, h1, by dsimp only; rw [h2]; congr 1; omega⟩
theorem ix_row {x : List UInt8} (h : ¬ ixI x < 1) : ∃ (k : Nat) (r : SoR), ixI x = (k : Int) ∧ 1 ≤ k ∧ k < 17 ∧ sortRows[k]? = some r ∧ shK (ixI x) = r.2.1 := by
  rcases ixF_lt x sortRows 0 with h1 | ⟨j, r, h1, h2⟩
  · exact absurd (show ixI x < 1 by show ixF x sortRows 0 < 1; rw [h1]; decide) h
  · rw [Nat.zero_add] at h2
    have h3 : ixI x = (j : Int) := h2
    have h4 := (List.getElem?_eq_some_iff.1 h1).1
    refine ⟨j, r, h3, by omega, h4, h1, ?_⟩
    unfold shK
    rw [h3, Int.toNat_natCast, h1]
theorem sh_cases {k : Nat} {r : SoR} (h : sortRows[k]? = some r) : r.2.1 = 0 ∨ r.2.1 = 1 ∨ r.2.1 = 2 ∨ r.2.1 = 3 := by
  have hm := List.mem_of_getElem? h
  unfold sortRows at hm
  simp only [List.mem_cons, List.not_mem_nil, or_false] at hm
  rcases hm with rfl | rfl | rfl | rfl | rfl | rfl | rfl | rfl | rfl | rfl | rfl | rfl | rfl | rfl | rfl | rfl | rfl <;> simp
theorem flat3 : ∀ (l : List SoR) (k : Nat) (r : SoR), l[k]? = some r → (l.flatMap cS)[k * 3 + 1]? = some (.int .i64 r.2.1)
  | [], k, r, h => by simp at h
  | x :: l, 0, r, h => by simp at h; subst h; rfl
  | x :: l, k + 1, r, h => by
    have := flat3 l k r (by simpa using h)
    rw [List.flatMap_cons, List.getElem?_append_right (by rw [cS_len]; omega), cS_len]
    rw [← this]
    congr 1
    omega
theorem sortC_get {k : Nat} {r : SoR} (h : sortRows[k]? = some r) : sortC[k * 3 + 1]? = some (.int .i64 r.2.1) := flat3 _ k r h
set_option maxHeartbeats 4000000 in
theorem op_any19 (s : List UInt8) (hs : s.length ≤ 1000000) (w : World) (hS : SLib w) : Calls Tryz.prog 37 #[.string (strL s)] w fun e w' => e = .returned (opV (opB s)) ∧ Only [] w w' := by
  obtain ⟨x, rest, hcut⟩ := cutS_ne s
  have hlen : ∀ y ∈ cutS s, y.length ≤ s.length := cutS_len s
  have hB : opB s = opW (x :: rest) := by unfold opB; rw [hcut]
  rw [hB]
  have hsp := fun w hS => split_any19 s (by omega) w hS
  rw [hcut] at hsp hlen
  clear hB
  refine Hs.enter Tryz.func37 [] [] [] [.c (.v (.string (strL s)))] (Mem.start0 w) (by kernel_rfl) (by kernel_rfl) ?_
  refine Hs.run1 300 (fun _ => by kernel_rfl) fun b0 => ?_
  refine Hs.callNB 9 (.string (strL x) :: rest.map fun x => .string (strL x)) (.c (.s 1 0 (rest.length + 1) (rest.length + 1))) (fun w' H => (hsp w' (hS.only H.only)).mono ?_) (by kernel_rfl) (by kernel_rfl) (by kernel_rfl) fun b1 => ?_
  · rintro e w2 ⟨rfl, rfl⟩
    exact ⟨w'.heap.size, rfl, (Only.refl [] w').alloc _, Nat.le_refl _, Blk.new w' _ _⟩
  refine Hs.run1 300 (fun _ => by kernel_rfl) fun b2 => ?_
  refine Hs.callV (v := .agg sortC.toArray) (fun w' H => sorts_any w') (by kernel_rfl) ?_
  refine Hs.run1 300 (fun _ => by kernel_rfl) fun b3 => ?_
  refine Hs.xk (by kernel_rfl) ?_
  refine Hs.run0 300 (fun _ => by kernel_rfl) ?_
  have hix : ∀ w', Mem w [] ([] ++ [b0] ++ [b1] ++ [b2] ++ [b3]) [.b true 36 [.v (.int .i64 0), .v (.int .i64 0), .v (.int .i64 0), .v (.string ⟨#[]⟩)], .r true 9 (.string (strL x) :: rest.map fun x => .string (strL x)), .b true 110 [.s 1 0 (rest.length + 1) (rest.length + 1)], .b true 101 (sortC.map .v)] w' → Calls Tryz.prog 58 #[.slice (some ⟨b3, 0, none⟩) 17 17, .func (.func 59) #[] #[.pointer (some ⟨b2, 0, none⟩)]] w' fun e w2 => e = .returned (.int .i64 (ixI x)) ∧ Only [] w' w2 := fun w' H => by
    have h2 : b2 ≠ b1 := fun e => by
      have := H.inj 2 1 _ _ b1 rfl rfl (by show some b2 = some b1; rw [e]) rfl
      cases this
    refine ixSort_any x (rest.map fun x => .string (strL x)) (rest.length + 1) b2 b1 b3 (by rw [List.length_map]) h2 w' (H.at 2 rfl) (H.lies 1 _ rfl) ?_
    have := H.at 3 rfl
    rw [dens_v] at this
    exact this
  refine Hs.callV (v := .int .i64 (ixI x)) (fun w' H => hix w' H) (by kernel_rfl) ?_
  clear hix
  refine Hs.run0 300 (fun _ => by kernel_rfl) ?_
  refine Hs.condP (ixI x < 1) (by kernel_rfl) (fun h => ?_) (fun h => ?_)
  · refine Hs.run0 300 (fun _ => by kernel_rfl) ?_
    have e : opW (x :: rest) = (zero9, false) := by rw [opW_cons, decide_eq_true h]
    exact Hs.ret (v := opV (zero9, false)) Tryz.func37 (by kernel_rfl) fun w' H => ⟨by rw [e], H.only⟩
  obtain ⟨k, r, hk, hk1, hk2, hr, hsh⟩ := ix_row h
  have hop : opW (x :: rest) = match r.2.1 == 3 with
      | true => opT k rest
      | false => match decide (((rest.length + 1 : Nat) : Int) = 1 + r.2.1) with
        | false => (zero9, false)
        | true => match opN k rest with
          | some o => (o, true)
          | none => (zero9, false) := by
    rw [opW_cons, decide_eq_false h, hsh, hk]
  rw [hop]
  clear hop hsh
  rw [hk]
  clear hk h hcut hsp
  have ha : arrOff Tryz.prog 101 (.c (.v (.int .i64 (k : Int)))) = some (k * 3) := by
    have hu : Tryz.prog.underlying 101 = some (.array 17 100) := by kernel_rfl
    have hz : szB Tryz.prog 100 = some 3 := by kernel_rfl
    unfold arrOff
    rw [hu]
    show (match Nat.blt k 17 with
      | true => (match szB Tryz.prog 100 with
        | some n => some (k * n)
        | none => none)
      | false => none) = some (k * 3)
    rw [blt_spec.2 hk2, hz]
  refine Hs.runR1 7 [] 300 (fun _ => by kernel_rfl) fun b4 => ?_
  refine Hs.run0 2 (fun _ => by kernel_rfl) ?_
  refine Hs.opV (.c (.v (.pointer (some ⟨b3, 0 + k * 3, none⟩)))) (s := Instr.indexAt 101 (.pointer (some ⟨b3, 0, none⟩)) (.int .i64 (k : Int))) (by kernel_rfl) rfl (fun w' _ => run_arrOff (i := .c (.v (.int .i64 (k : Int)))) (β := []) ha w') ?_
  refine Hs.run0 300 (fun _ => by kernel_rfl) ?_
  have hcell : ∀ w' : World, Blk w' b3 101 (dens ([] ++ [b0] ++ [b1] ++ [b2] ++ [b3] ++ [b4]) (sortC.map .v)) → w'.cell? ⟨b3, 0 + k * 3 + 1, none⟩ = some (.int .i64 r.2.1) := fun w' hb => by
    rw [dens_v] at hb
    rw [hb.cell]
    have h := sortC_get hr
    rw [Nat.zero_add]
    exact h
  refine Hs.ldc (E' := 97) (b := b3) (off := 0 + k * 3 + 1) (.int .i64 r.2.1) (by kernel_rfl) (fun w' H => hcell w' (H.at (wr := true) (T := 101) (cs := sortC.map .v) 3 (by kernel_rfl))) (by kernel_rfl) ?_
  clear hcell ha
  have hsc := sh_cases hr
  clear hr
  obtain ⟨rw1, rsh, rf⟩ := r
  dsimp only at hsc ⊢
  rcases hsc with rfl | rfl | rfl | rfl
  · refine Hs.run0 300 (fun _ => by kernel_rfl) ?_
    refine Hs.condF (by kernel_rfl) ?_
    refine Hs.run0 300 (fun _ => by kernel_rfl) ?_
    refine Hs.cond (!decide (((rest.length + 1 : Nat) : Int) = 1 + 0)) (by kernel_rfl) (fun h => ?_) (fun h => ?_)
    · have hres : (match (0 : Int) == 3 with
        | true => opT k rest
        | false => match decide (((rest.length + 1 : Nat) : Int) = 1 + 0) with
          | false => (zero9, false)
          | true => match opN k rest with
            | some o => (o, true)
            | none => (zero9, false)) = (zero9, false) := by
        show (match decide (((rest.length + 1 : Nat) : Int) = 1 + 0) with | false => (zero9, false) | true => _) = _
        rw [show decide (((rest.length + 1 : Nat) : Int) = 1 + 0) = false by simpa using h]
      refine Hs.run0 300 (fun _ => by kernel_rfl) ?_
      exact Hs.ret (v := opV (zero9, false)) Tryz.func37 (by kernel_rfl) fun w' H => ⟨by rw [hres], H.only⟩
    have hrest : rest = [] := by
      cases rest with
      | nil => rfl
      | cons y r => simp at h; omega
    subst hrest
    refine Hs.run1 300 (fun _ => by kernel_rfl) fun b5 => ?_
    refine Hs.opV (.c (.s 5 0 0 2)) (s := Instr.sliceAt 116 (.slice (some ⟨b5, 0, none⟩) 2 2) none (some (.int .i64 0)) none) (by kernel_rfl) (by kernel_rfl) (fun w' _ => by kernel_rfl) ?_
    refine Hs.run0 300 (fun _ => by kernel_rfl) ?_
    refine Hs.loop (by kernel_rfl) ?_
    refine Hs.run0 300 (fun _ => by kernel_rfl) ?_
    refine Hs.condF (by kernel_rfl) ?_
    refine Hs.run0 300 (fun _ => by kernel_rfl) ?_
    exact Hs.ret (v := opV (⟨k, 0, 0, ⟨#[]⟩⟩, true)) Tryz.func37 (by kernel_rfl) fun w' H => ⟨rfl, H.only⟩
  · refine Hs.run0 300 (fun _ => by kernel_rfl) ?_
    refine Hs.condF (by kernel_rfl) ?_
    refine Hs.run0 300 (fun _ => by kernel_rfl) ?_
    refine Hs.cond (!decide (((rest.length + 1 : Nat) : Int) = 1 + 1)) (by kernel_rfl) (fun h => ?_) (fun h => ?_)
    · have hres : (match (1 : Int) == 3 with
        | true => opT k rest
        | false => match decide (((rest.length + 1 : Nat) : Int) = 1 + 1) with
          | false => (zero9, false)
          | true => match opN k rest with
            | some o => (o, true)
            | none => (zero9, false)) = (zero9, false) := by
        show (match decide (((rest.length + 1 : Nat) : Int) = 1 + 1) with | false => (zero9, false) | true => _) = _
        rw [show decide (((rest.length + 1 : Nat) : Int) = 1 + 1) = false by simpa using h]
      refine Hs.run0 300 (fun _ => by kernel_rfl) ?_
      exact Hs.ret (v := opV (zero9, false)) Tryz.func37 (by kernel_rfl) fun w' H => ⟨by rw [hres], H.only⟩
    have hrest : ∃ y, rest = [y] := by
      cases rest with
      | nil => simp at h
      | cons y r => cases r with
        | nil => exact ⟨y, rfl⟩
        | cons z r => simp at h; omega
    obtain ⟨y, rfl⟩ := hrest
    have hy := hlen y (by simp)
    refine Hs.run1 300 (fun _ => by kernel_rfl) fun b5 => ?_
    refine Hs.reb (T := 117) (cs := [.v (.pointer (some ⟨b4, 1, none⟩)), .v (.pointer (some ⟨b4, 2, none⟩))]) 5 [.p 4 1, .p 4 2] (by kernel_rfl) (by kernel_rfl) (by kernel_rfl) (by kernel_rfl) ?_
    refine Hs.opV (.c (.s 5 0 1 2)) (s := Instr.sliceAt 116 (.slice (some ⟨b5, 0, none⟩) 2 2) none (some (.int .i64 1)) none) (by kernel_rfl) (by kernel_rfl) (fun w' _ => by kernel_rfl) ?_
    refine Hs.run0 300 (fun _ => by kernel_rfl) ?_
    refine Hs.loop (by kernel_rfl) ?_
    refine Hs.run0 300 (fun _ => by kernel_rfl) ?_
    refine Hs.condT (by kernel_rfl) ?_
    refine Hs.run0 300 (fun _ => by kernel_rfl) ?_
    refine Hs.callV (v := .tuple #[.int .i64 (atoiN y), .bool (numOk y)]) (fun w' H => number_any19 y (by omega) w' (hS.only H.only)) (by kernel_rfl) ?_
    refine Hs.run0 300 (fun _ => by kernel_rfl) ?_
    refine Hs.cond (!numOk y) (by kernel_rfl) (fun h1 => ?_) (fun h1 => ?_)
    · have h1 : numOk y = false := by simpa using h1
      refine Hs.run0 300 (fun _ => by kernel_rfl) ?_
      exact Hs.ret (v := opV (zero9, false)) Tryz.func37 (by kernel_rfl) fun w' H => ⟨by
        show _ = Ending.returned (opV (match (match numOk y with | true => some (⟨k, atoiN y, 0, ⟨#[]⟩⟩ : OP9) | false => none) with | some o => (o, true) | none => (zero9, false)))
        rw [h1], H.only⟩
    have h1 : numOk y = true := by simpa using h1
    refine Hs.run0 300 (fun _ => by kernel_rfl) ?_
    refine Hs.loop (by kernel_rfl) ?_
    refine Hs.run0 300 (fun _ => by kernel_rfl) ?_
    refine Hs.condF (by kernel_rfl) ?_
    refine Hs.run0 300 (fun _ => by kernel_rfl) ?_
    exact Hs.ret (v := opV (⟨k, atoiN y, 0, ⟨#[]⟩⟩, true)) Tryz.func37 (by kernel_rfl) fun w' H => ⟨by
      show _ = Ending.returned (opV (match (match numOk y with | true => some (⟨k, atoiN y, 0, ⟨#[]⟩⟩ : OP9) | false => none) with | some o => (o, true) | none => (zero9, false)))
      rw [h1], H.only⟩
  · refine Hs.run0 300 (fun _ => by kernel_rfl) ?_
    refine Hs.condF (by kernel_rfl) ?_
    refine Hs.run0 300 (fun _ => by kernel_rfl) ?_
    refine Hs.cond (!decide (((rest.length + 1 : Nat) : Int) = 1 + 2)) (by kernel_rfl) (fun h => ?_) (fun h => ?_)
    · have hres : (match (2 : Int) == 3 with
        | true => opT k rest
        | false => match decide (((rest.length + 1 : Nat) : Int) = 1 + 2) with
          | false => (zero9, false)
          | true => match opN k rest with
            | some o => (o, true)
            | none => (zero9, false)) = (zero9, false) := by
        show (match decide (((rest.length + 1 : Nat) : Int) = 1 + 2) with | false => (zero9, false) | true => _) = _
        rw [show decide (((rest.length + 1 : Nat) : Int) = 1 + 2) = false by simpa using h]
      refine Hs.run0 300 (fun _ => by kernel_rfl) ?_
      exact Hs.ret (v := opV (zero9, false)) Tryz.func37 (by kernel_rfl) fun w' H => ⟨by rw [hres], H.only⟩
    have hrest : ∃ y z, rest = [y, z] := by
      cases rest with
      | nil => simp at h
      | cons y r => cases r with
        | nil => simp at h
        | cons z r => cases r with
          | nil => exact ⟨y, z, rfl⟩
          | cons u r => simp at h; omega
    obtain ⟨y, z, rfl⟩ := hrest
    have hy := hlen y (by simp)
    have hz := hlen z (by simp)
    refine Hs.run1 300 (fun _ => by kernel_rfl) fun b5 => ?_
    refine Hs.reb (T := 117) (cs := [.v (.pointer (some ⟨b4, 1, none⟩)), .v (.pointer (some ⟨b4, 2, none⟩))]) 5 [.p 4 1, .p 4 2] (by kernel_rfl) (by kernel_rfl) (by kernel_rfl) (by kernel_rfl) ?_
    refine Hs.opV (.c (.s 5 0 2 2)) (s := Instr.sliceAt 116 (.slice (some ⟨b5, 0, none⟩) 2 2) none (some (.int .i64 2)) none) (by kernel_rfl) (by kernel_rfl) (fun w' _ => by kernel_rfl) ?_
    refine Hs.run0 300 (fun _ => by kernel_rfl) ?_
    refine Hs.loop (by kernel_rfl) ?_
    refine Hs.run0 300 (fun _ => by kernel_rfl) ?_
    refine Hs.condT (by kernel_rfl) ?_
    refine Hs.run0 300 (fun _ => by kernel_rfl) ?_
    refine Hs.callV (v := .tuple #[.int .i64 (atoiN y), .bool (numOk y)]) (fun w' H => number_any19 y (by omega) w' (hS.only H.only)) (by kernel_rfl) ?_
    refine Hs.run0 300 (fun _ => by kernel_rfl) ?_
    refine Hs.cond (!numOk y) (by kernel_rfl) (fun h1 => ?_) (fun h1 => ?_)
    · have h1 : numOk y = false := by simpa using h1
      refine Hs.run0 300 (fun _ => by kernel_rfl) ?_
      exact Hs.ret (v := opV (zero9, false)) Tryz.func37 (by kernel_rfl) fun w' H => ⟨by
        show _ = Ending.returned (opV (match (match numOk y with | true => (match numOk z with | true => some (⟨k, atoiN y, atoiN z, ⟨#[]⟩⟩ : OP9) | false => none) | false => none) with | some o => (o, true) | none => (zero9, false)))
        rw [h1], H.only⟩
    have h1 : numOk y = true := by simpa using h1
    refine Hs.run0 300 (fun _ => by kernel_rfl) ?_
    refine Hs.loop (by kernel_rfl) ?_
    refine Hs.run0 300 (fun _ => by kernel_rfl) ?_
    refine Hs.condT (by kernel_rfl) ?_
    refine Hs.run0 300 (fun _ => by kernel_rfl) ?_
    refine Hs.callV (v := .tuple #[.int .i64 (atoiN z), .bool (numOk z)]) (fun w' H => number_any19 z (by omega) w' (hS.only H.only)) (by kernel_rfl) ?_
    refine Hs.run0 300 (fun _ => by kernel_rfl) ?_
    refine Hs.cond (!numOk z) (by kernel_rfl) (fun h2 => ?_) (fun h2 => ?_)
    · have h2 : numOk z = false := by simpa using h2
      refine Hs.run0 300 (fun _ => by kernel_rfl) ?_
      exact Hs.ret (v := opV (zero9, false)) Tryz.func37 (by kernel_rfl) fun w' H => ⟨by
        show _ = Ending.returned (opV (match (match numOk y with | true => (match numOk z with | true => some (⟨k, atoiN y, atoiN z, ⟨#[]⟩⟩ : OP9) | false => none) | false => none) with | some o => (o, true) | none => (zero9, false)))
        rw [h1, h2], H.only⟩
    have h2 : numOk z = true := by simpa using h2
    refine Hs.run0 300 (fun _ => by kernel_rfl) ?_
    refine Hs.loop (by kernel_rfl) ?_
    refine Hs.run0 300 (fun _ => by kernel_rfl) ?_
    refine Hs.condF (by kernel_rfl) ?_
    refine Hs.run0 300 (fun _ => by kernel_rfl) ?_
    exact Hs.ret (v := opV (⟨k, atoiN y, atoiN z, ⟨#[]⟩⟩, true)) Tryz.func37 (by kernel_rfl) fun w' H => ⟨by
      show _ = Ending.returned (opV (match (match numOk y with | true => (match numOk z with | true => some (⟨k, atoiN y, atoiN z, ⟨#[]⟩⟩ : OP9) | false => none) | false => none) with | some o => (o, true) | none => (zero9, false)))
      rw [h1, h2], H.only⟩
  · refine Hs.run0 300 (fun _ => by kernel_rfl) ?_
    refine Hs.condT (by kernel_rfl) ?_
    refine Hs.run0 300 (fun _ => by kernel_rfl) ?_
    refine Hs.cond (!decide (((rest.length + 1 : Nat) : Int) = 2)) (by kernel_rfl) (fun h => ?_) (fun h => ?_)
    · have hres : opT k rest = (zero9, false) := by
        cases rest with
        | nil => rfl
        | cons y r => cases r with
          | nil => simp at h
          | cons z r => rfl
      refine Hs.run0 300 (fun _ => by kernel_rfl) ?_
      exact Hs.ret (v := opV (zero9, false)) Tryz.func37 (by kernel_rfl) fun w' H => ⟨by
        show _ = Ending.returned (opV (opT k rest))
        rw [hres], H.only⟩
    have hrest : ∃ y, rest = [y] := by
      cases rest with
      | nil => simp at h
      | cons y r => cases r with
        | nil => exact ⟨y, rfl⟩
        | cons z r => simp at h; omega
    obtain ⟨y, rfl⟩ := hrest
    have hy := hlen y (by simp)
    refine Hs.run0 300 (fun _ => by kernel_rfl) ?_
    have hrd := fun w' => read_any19 y (by omega) w'
    unfold readR at hrd
    cases hR : readB (y.length + 1) y [] with
    | none =>
      rw [hR] at hrd
      refine Hs.callV (v := .tuple #[.string ⟨#[]⟩, .bool false]) (fun w' H => hrd w') (by kernel_rfl) ?_
      refine Hs.run0 300 (fun _ => by kernel_rfl) ?_
      exact Hs.ret (v := opV (⟨k, 0, 0, ⟨#[]⟩⟩, false)) Tryz.func37 (by kernel_rfl) fun w' H => ⟨by
        show _ = Ending.returned (opV (match readB (y.length + 1) y [] with | some o => (⟨k, 0, 0, strL o⟩, true) | none => (⟨k, 0, 0, ⟨#[]⟩⟩, false)))
        rw [hR], H.only⟩
    | some o =>
      rw [hR] at hrd
      refine Hs.callV (v := .tuple #[.string (strL o), .bool true]) (fun w' H => hrd w') (by kernel_rfl) ?_
      refine Hs.run0 300 (fun _ => by kernel_rfl) ?_
      exact Hs.ret (v := opV (⟨k, 0, 0, strL o⟩, true)) Tryz.func37 (by kernel_rfl) fun w' H => ⟨by
        show _ = Ending.returned (opV (match readB (y.length + 1) y [] with | some o => (⟨k, 0, 0, strL o⟩, true) | none => (⟨k, 0, 0, ⟨#[]⟩⟩, false)))
        rw [hR], H.only⟩
end Go.Proofs.YtmmcamkmglpgiaaGreatDoor

namespace Go.Proofs.YtmmcamkmglpgiaaGreatDoor
set_option linter.all false

section
variable (P : Program)
def cmpL (rec : TypeId → Value → Value → Option Bool) (xs ys : Array Value) : List Field → Option Bool
  | [] => some true
  | f :: l => match f.name != "_" with
    | true => match partS P f.type (xs.toList.map .v) f.offset, partS P f.type (ys.toList.map .v) f.offset with
      | some u, some u' => match rec f.type (u.den []) (u'.den []), cmpL rec xs ys l with
        | some a, some b => some (a && b)
        | _, _ => none
      | _, _ => none
    | false => none
def cmpI (rec : TypeId → Value → Value → Option Bool) (e : TypeId) (n : Nat) (xs ys : Array Value) : List Nat → Option Bool
  | [] => some true
  | i :: l => match partS P e (xs.toList.map .v) (i * n), partS P e (ys.toList.map .v) (i * n) with
    | some u, some u' => match rec e (u.den []) (u'.den []), cmpI rec e n xs ys l with
      | some a, some b => some (a && b)
      | _, _ => none
    | _, _ => none
/-- What a comparison of two values answers. -/
def cmpB : Nat → TypeId → Value → Value → Option Bool
  | 0, _, _, _ => none
  | m + 1, t, v, v' => match P.underlying t with
    | some .bool => match v, v' with
      | .bool a, .bool b => some (a == b)
      | _, _ => none
    | some (.int _) => match v, v' with
      | .int k a, .int k' b => match decide (k = k') with
        | true => some (a == b)
        | false => none
      | _, _ => none
    | some (.struct fs) => match v, v' with
      | .agg xs, .agg ys => match P.stoodInHeld t with
        | false => cmpL P (cmpB m) xs ys fs.toList
        | true => none
      | _, _ => none
    | some .string => match v, v' with
      | .string a, .string b => some (a.toList == b.toList)
      | _, _ => none
    | some (.array len e) => match v, v' with
      | .agg xs, .agg ys => match P.info? e with
        | some _ => cmpI P (cmpB m) e (P.cellsOf e) xs ys (List.range len)
        | none => none
      | _, _ => none
    | _ => none
end
section
variable {P : Program}
theorem cmpB_run : ∀ (m : Nat) (t : TypeId) (v v' : Value) (r : Bool), cmpB P m t v v' = some r → ∀ (d : Nat) (w : World), (Op.equalIn (d + m) t v v').run P w = .ok r w
  | 0, t, v, v', r, h, d, w => by simp [cmpB] at h
  | m + 1, t, v, v', r, h, d, w => by
    rw [show d + (m + 1) = (d + m) + 1 by omega]
    unfold cmpB at h
    split at h
    · rename_i hu
      split at h
      · rename_i a b
        injection h with h
        subst h
        rw [run_equalIn_bool' w (d + m) t a b hu]
      · cases h
    · rename_i k hu
      split at h
      · rename_i k1 a k2 b
        split at h
        · rename_i hk
          have hk : k1 = k2 := by simpa using hk
          subst hk
          injection h with h
          subst h
          rw [run_equalIn_int w (d + m) t k1 k a b hu]
        · cases h
      · cases h
    · rename_i fs hu
      split at h
      · rename_i xs ys
        split at h
        · rename_i hst
          have hf : P.fieldsOf t = fs := by unfold Program.fieldsOf; rw [hu]
          rw [run_equalIn_struct w (d + m) t xs ys (by rw [hf]; exact hu) hst, hf]
          have key : ∀ (l : List Field) (r : Bool), cmpL P (cmpB P m) xs ys l = some r → (Op.eqFields (d + m) xs ys l).run P w = .ok r w := by
            intro l
            induction l with
            | nil => intro r h; simp only [cmpL, Option.some.injEq] at h; subst h; simp [Op.eqFields]
            | cons f l ih =>
              intro r hl
              unfold cmpL at hl
              split at hl
              · rename_i h1
                split at hl
                · rename_i u u' hp hp'
                  split at hl
                  · rename_i a b ha hb
                    injection hl with hl
                    subst hl
                    have hpart : (part f.type xs f.offset).run P w = .ok (u.den []) w := by
                      have := run_part_S (β := []) (w := w) hp
                      rwa [dens_v, Array.toArray_toList] at this
                    have hpart' : (part f.type ys f.offset).run P w = .ok (u'.den []) w := by
                      have := run_part_S (β := []) (w := w) hp'
                      rwa [dens_v, Array.toArray_toList] at this
                    have hne : f.name ≠ "_" := by simpa using h1
                    have hc := cmpB_run m f.type (u.den []) (u'.den []) a ha d w
                    simp only [Op.eqFields, hne, ne_eq, not_false_eq_true, if_true, Sem.run_bind, hpart, hpart', Result.andThen_ok, hc]
                    cases a
                    · simp
                    · simp only [Bool.not_true, Bool.false_eq_true, if_false, Bool.true_and]
                      exact ih b hb
                  · cases hl
                · cases hl
              · cases hl
          exact key fs.toList r h
        · cases h
      · cases h
    · rename_i hu
      split at h
      · rename_i a b
        injection h with h
        subst h
        rw [run_equalIn_string w (d + m) t a b hu]
      · cases h
    · rename_i len e hu
      split at h
      · rename_i xs ys
        split at h
        · rename_i i hi
          rw [run_equalIn_array w (d + m) xs ys hu hi]
          have key : ∀ (l : List Nat) (r : Bool), cmpI P (cmpB P m) e (P.cellsOf e) xs ys l = some r → (Op.eqItems (d + m) e (P.cellsOf e) xs ys l).run P w = .ok r w := by
            intro l
            induction l with
            | nil => intro r h; simp only [cmpI, Option.some.injEq] at h; subst h; simp [Op.eqItems]
            | cons f l ih =>
              intro r hl
              unfold cmpI at hl
              split at hl
              · rename_i u u' hp hp'
                split at hl
                · rename_i a b ha hb
                  injection hl with hl
                  subst hl
                  have hpart : (part e xs (f * P.cellsOf e)).run P w = .ok (u.den []) w := by
                    have := run_part_S (β := []) (w := w) hp
                    rwa [dens_v, Array.toArray_toList] at this
                  have hpart' : (part e ys (f * P.cellsOf e)).run P w = .ok (u'.den []) w := by
                    have := run_part_S (β := []) (w := w) hp'
                    rwa [dens_v, Array.toArray_toList] at this
                  have hc := cmpB_run m e (u.den []) (u'.den []) a ha d w
                  simp only [Op.eqItems, Sem.run_bind, hpart, hpart', Result.andThen_ok, hc]
                  cases a
                  · simp
                  · simp only [Bool.not_true, Bool.false_eq_true, if_false, Bool.true_and]
                    exact ih b hb
                · cases hl
              · cases hl
          exact key (List.range len) r h
        · cases h
      · cases h
    · cases h
variable {f : FR} {R : Ending → World → Prop} {n : Nat} {w0 : World} {L : List Nat} {β : List Nat} {m : SM}
theorem run_cmp {op : BinOp} {T : TypeId} {xs ys : Array Value} {b r : Bool} (ho : op = .eql ∧ b = r ∨ op = .neq ∧ b = !r) (hm : P.eqGuardType P.depth T = false) (h : cmpB P 100 T (.agg xs) (.agg ys) = some r) (x y : Operand) (w : World) : ((do eqGuard op T x y (.agg xs) (.agg ys); binOp op T (.agg xs) (.agg ys)) : Sem Value).run P w = .ok (.bool b) w := by
  have hr := cmpB_run 100 T (.agg xs) (.agg ys) r h 9900 w
  rcases ho with ⟨rfl, rfl⟩ | ⟨rfl, rfl⟩
  · simp only [Sem.run_bind, run_eqGuard_agg w _ T x y xs ys hm, Result.andThen_ok, run_eql_struct]
    rw [show (10000 : Nat) = 9900 + 100 from rfl, hr]; rfl
  · simp only [Sem.run_bind, run_eqGuard_agg w _ T x y xs ys hm, Result.andThen_ok, run_neq_struct]
    rw [show (10000 : Nat) = 9900 + 100 from rfl, hr]; rfl
/-- Two structs compared. -/
theorem Hs.cmp {op : BinOp} {T : TypeId} (xs ys : Array Value) (r b : Bool) (hc : sameOf n β m = some (op, T, .agg xs, .agg ys)) (ho : op = .eql ∧ b = r ∨ op = .neq ∧ b = !r) (hm : (!P.eqGuardType P.depth T) = true) (hb : cmpB P 100 T (.agg xs) (.agg ys) = some r) (h : Hs P f R n w0 L β (m.put (dstOf m) (.c (.v (.bool b))) m.hp)) : Hs P f R n w0 L β m := by
  simp only [Bool.not_eq_true'] at hm
  refine ⟨fun w H W => ?_⟩
  unfold sameOf at hc
  split at hc
  · rename_i o hcur
    split at hc
    · rename_i hg
      split at hc
      · rename_i op' T' x y z hop
        simp only [Option.some.injEq, Prod.mk.injEq] at hc
        obtain ⟨rfl, rfl, hx, hy⟩ := hc
        have hd : dstOf m = o.dst := by unfold dstOf; rw [hcur]
        rw [hd] at h
        refine Gs.val (v := .c (.v (.bool b))) hcur hg ?_ (h.go w H ?_)
        · have hr := run_cmp (P := P) ho hm hb x y w
          simp only [execOp, hop, hx, hy, Sem.run_bind] at hr ⊢
          simp only [hr, Result.andThen_ok, Sem.run_pure]
          rfl
        · simp only [SM.wf, SM.put, Bool.and_eq_true]
          exact ⟨putS_wf (SM.wf_sl W) rfl, SM.wf_hp W⟩
      · cases hc
    · cases hc
  · cases hc
end
end Go.Proofs.YtmmcamkmglpgiaaGreatDoor

namespace Go.Proofs.YtmmcamkmglpgiaaGreatDoor
set_option linter.all false
set_option maxRecDepth 100000
open Go.RowKit

/-- All signals' names, by their numbers. -/
def sigL : List ByteArray := [⟨#[]⟩, ⟨#[72, 85, 80]⟩, ⟨#[73, 78, 84]⟩, ⟨#[81, 85, 73, 84]⟩, ⟨#[73, 76, 76]⟩, ⟨#[84, 82, 65, 80]⟩, ⟨#[65, 66, 82, 84]⟩, ⟨#[66, 85, 83]⟩, ⟨#[70, 80, 69]⟩, ⟨#[75, 73, 76, 76]⟩, ⟨#[85, 83, 82, 49]⟩, ⟨#[83, 69, 71, 86]⟩, ⟨#[85, 83, 82, 50]⟩, ⟨#[80, 73, 80, 69]⟩, ⟨#[65, 76, 82, 77]⟩, ⟨#[84, 69, 82, 77]⟩, ⟨#[]⟩, ⟨#[67, 72, 76, 68]⟩, ⟨#[67, 79, 78, 84]⟩, ⟨#[83, 84, 79, 80]⟩, ⟨#[84, 83, 84, 80]⟩, ⟨#[84, 84, 73, 78]⟩, ⟨#[84, 84, 79, 85]⟩, ⟨#[]⟩, ⟨#[]⟩, ⟨#[]⟩, ⟨#[]⟩, ⟨#[]⟩, ⟨#[87, 73, 78, 67, 72]⟩]
def nameS (n : Int) : ByteArray := (sigL[n.toNat]?).getD ⟨#[]⟩
/-- Is there such a signal? -/
def isS (n : Int) : Bool := (decide (1 ≤ n) && decide (n ≤ 15)) || ((decide (17 ≤ n) && decide (n ≤ 22)) || decide (n = 28))
def wireS (n : Int) : Bool := isS n && (decide (n ≤ 15) && (decide (n ≠ 5) && decide (n ≠ 7)))
theorem c28 {n : Int} (h1 : 1 ≤ n) (h2 : n ≤ 28) : n = 1 ∨ n = 2 ∨ n = 3 ∨ n = 4 ∨ n = 5 ∨ n = 6 ∨ n = 7 ∨ n = 8 ∨ n = 9 ∨ n = 10 ∨ n = 11 ∨ n = 12 ∨ n = 13 ∨ n = 14 ∨ n = 15 ∨ n = 16 ∨ n = 17 ∨ n = 18 ∨ n = 19 ∨ n = 20 ∨ n = 21 ∨ n = 22 ∨ n = 23 ∨ n = 24 ∨ n = 25 ∨ n = 26 ∨ n = 27 ∨ n = 28 := by omega
theorem isS_out {n : Int} (h : ¬ (1 ≤ n ∧ n ≤ 28)) : isS n = false := by
  unfold isS
  simp only [Bool.or_eq_false_iff, Bool.and_eq_false_iff, decide_eq_false_iff_not]
  omega
theorem is_any18 (n : Int) (w : World) : Calls Tryz.prog 112 #[.int .i64 n] w fun e w' => e = .returned (.bool (isS n)) ∧ Only [] w w' := by
  by_cases h : 1 ≤ n ∧ n ≤ 28
  · rcases c28 h.1 h.2 with  rfl | rfl | rfl | rfl | rfl | rfl | rfl | rfl | rfl | rfl | rfl | rfl | rfl | rfl | rfl | rfl | rfl | rfl | rfl | rfl | rfl | rfl | rfl | rfl | rfl | rfl | rfl | rfl 
    · refine Hs.enter Tryz.func112 [] [] [] [.c (.v (.int .i64 1))] (Mem.start0 w) (by kernel_rfl) (by kernel_rfl) ?_
      refine Hs.runK [131] 1000 1 Tryz.func112 rfl (by kernel_rfl) (fun ν => by kernel_rfl) (fun ν => by kernel_rfl) fun ν hν => ?_
      exact Hs.ret (v := (.bool (isS 1))) Tryz.func112 (by kernel_rfl) fun w' H => ⟨rfl, H.only⟩
    · refine Hs.enter Tryz.func112 [] [] [] [.c (.v (.int .i64 2))] (Mem.start0 w) (by kernel_rfl) (by kernel_rfl) ?_
      refine Hs.runK [131] 1000 1 Tryz.func112 rfl (by kernel_rfl) (fun ν => by kernel_rfl) (fun ν => by kernel_rfl) fun ν hν => ?_
      exact Hs.ret (v := (.bool (isS 2))) Tryz.func112 (by kernel_rfl) fun w' H => ⟨rfl, H.only⟩
    · refine Hs.enter Tryz.func112 [] [] [] [.c (.v (.int .i64 3))] (Mem.start0 w) (by kernel_rfl) (by kernel_rfl) ?_
      refine Hs.runK [131] 1000 1 Tryz.func112 rfl (by kernel_rfl) (fun ν => by kernel_rfl) (fun ν => by kernel_rfl) fun ν hν => ?_
      exact Hs.ret (v := (.bool (isS 3))) Tryz.func112 (by kernel_rfl) fun w' H => ⟨rfl, H.only⟩
    · refine Hs.enter Tryz.func112 [] [] [] [.c (.v (.int .i64 4))] (Mem.start0 w) (by kernel_rfl) (by kernel_rfl) ?_
      refine Hs.runK [131] 1000 1 Tryz.func112 rfl (by kernel_rfl) (fun ν => by kernel_rfl) (fun ν => by kernel_rfl) fun ν hν => ?_
      exact Hs.ret (v := (.bool (isS 4))) Tryz.func112 (by kernel_rfl) fun w' H => ⟨rfl, H.only⟩
    · refine Hs.enter Tryz.func112 [] [] [] [.c (.v (.int .i64 5))] (Mem.start0 w) (by kernel_rfl) (by kernel_rfl) ?_
      refine Hs.runK [131] 1000 1 Tryz.func112 rfl (by kernel_rfl) (fun ν => by kernel_rfl) (fun ν => by kernel_rfl) fun ν hν => ?_
      exact Hs.ret (v := (.bool (isS 5))) Tryz.func112 (by kernel_rfl) fun w' H => ⟨rfl, H.only⟩
    · refine Hs.enter Tryz.func112 [] [] [] [.c (.v (.int .i64 6))] (Mem.start0 w) (by kernel_rfl) (by kernel_rfl) ?_
      refine Hs.runK [131] 1000 1 Tryz.func112 rfl (by kernel_rfl) (fun ν => by kernel_rfl) (fun ν => by kernel_rfl) fun ν hν => ?_
      exact Hs.ret (v := (.bool (isS 6))) Tryz.func112 (by kernel_rfl) fun w' H => ⟨rfl, H.only⟩
    · refine Hs.enter Tryz.func112 [] [] [] [.c (.v (.int .i64 7))] (Mem.start0 w) (by kernel_rfl) (by kernel_rfl) ?_
      refine Hs.runK [131] 1000 1 Tryz.func112 rfl (by kernel_rfl) (fun ν => by kernel_rfl) (fun ν => by kernel_rfl) fun ν hν => ?_
      exact Hs.ret (v := (.bool (isS 7))) Tryz.func112 (by kernel_rfl) fun w' H => ⟨rfl, H.only⟩
    · refine Hs.enter Tryz.func112 [] [] [] [.c (.v (.int .i64 8))] (Mem.start0 w) (by kernel_rfl) (by kernel_rfl) ?_
      refine Hs.runK [131] 1000 1 Tryz.func112 rfl (by kernel_rfl) (fun ν => by kernel_rfl) (fun ν => by kernel_rfl) fun ν hν => ?_
      exact Hs.ret (v := (.bool (isS 8))) Tryz.func112 (by kernel_rfl) fun w' H => ⟨rfl, H.only⟩
    · refine Hs.enter Tryz.func112 [] [] [] [.c (.v (.int .i64 9))] (Mem.start0 w) (by kernel_rfl) (by kernel_rfl) ?_
      refine Hs.runK [131] 1000 1 Tryz.func112 rfl (by kernel_rfl) (fun ν => by kernel_rfl) (fun ν => by kernel_rfl) fun ν hν => ?_
      exact Hs.ret (v := (.bool (isS 9))) Tryz.func112 (by kernel_rfl) fun w' H => ⟨rfl, H.only⟩
    · refine Hs.enter Tryz.func112 [] [] [] [.c (.v (.int .i64 10))] (Mem.start0 w) (by kernel_rfl) (by kernel_rfl) ?_
      refine Hs.runK [131] 1000 1 Tryz.func112 rfl (by kernel_rfl) (fun ν => by kernel_rfl) (fun ν => by kernel_rfl) fun ν hν => ?_
      exact Hs.ret (v := (.bool (isS 10))) Tryz.func112 (by kernel_rfl) fun w' H => ⟨rfl, H.only⟩
    · refine Hs.enter Tryz.func112 [] [] [] [.c (.v (.int .i64 11))] (Mem.start0 w) (by kernel_rfl) (by kernel_rfl) ?_
      refine Hs.runK [131] 1000 1 Tryz.func112 rfl (by kernel_rfl) (fun ν => by kernel_rfl) (fun ν => by kernel_rfl) fun ν hν => ?_
      exact Hs.ret (v := (.bool (isS 11))) Tryz.func112 (by kernel_rfl) fun w' H => ⟨rfl, H.only⟩
    · refine Hs.enter Tryz.func112 [] [] [] [.c (.v (.int .i64 12))] (Mem.start0 w) (by kernel_rfl) (by kernel_rfl) ?_
      refine Hs.runK [131] 1000 1 Tryz.func112 rfl (by kernel_rfl) (fun ν => by kernel_rfl) (fun ν => by kernel_rfl) fun ν hν => ?_
      exact Hs.ret (v := (.bool (isS 12))) Tryz.func112 (by kernel_rfl) fun w' H => ⟨rfl, H.only⟩
    · refine Hs.enter Tryz.func112 [] [] [] [.c (.v (.int .i64 13))] (Mem.start0 w) (by kernel_rfl) (by kernel_rfl) ?_
      refine Hs.runK [131] 1000 1 Tryz.func112 rfl (by kernel_rfl) (fun ν => by kernel_rfl) (fun ν => by kernel_rfl) fun ν hν => ?_
      exact Hs.ret (v := (.bool (isS 13))) Tryz.func112 (by kernel_rfl) fun w' H => ⟨rfl, H.only⟩
    · refine Hs.enter Tryz.func112 [] [] [] [.c (.v (.int .i64 14))] (Mem.start0 w) (by kernel_rfl) (by kernel_rfl) ?_
      refine Hs.runK [131] 1000 1 Tryz.func112 rfl (by kernel_rfl) (fun ν => by kernel_rfl) (fun ν => by kernel_rfl) fun ν hν => ?_
      exact Hs.ret (v := (.bool (isS 14))) Tryz.func112 (by kernel_rfl) fun w' H => ⟨rfl, H.only⟩
    · refine Hs.enter Tryz.func112 [] [] [] [.c (.v (.int .i64 15))] (Mem.start0 w) (by kernel_rfl) (by kernel_rfl) ?_
      refine Hs.runK [131] 1000 1 Tryz.func112 rfl (by kernel_rfl) (fun ν => by kernel_rfl) (fun ν => by kernel_rfl) fun ν hν => ?_
      exact Hs.ret (v := (.bool (isS 15))) Tryz.func112 (by kernel_rfl) fun w' H => ⟨rfl, H.only⟩
    · refine Hs.enter Tryz.func112 [] [] [] [.c (.v (.int .i64 16))] (Mem.start0 w) (by kernel_rfl) (by kernel_rfl) ?_
      refine Hs.runK [131] 1000 1 Tryz.func112 rfl (by kernel_rfl) (fun ν => by kernel_rfl) (fun ν => by kernel_rfl) fun ν hν => ?_
      exact Hs.ret (v := (.bool (isS 16))) Tryz.func112 (by kernel_rfl) fun w' H => ⟨rfl, H.only⟩
    · refine Hs.enter Tryz.func112 [] [] [] [.c (.v (.int .i64 17))] (Mem.start0 w) (by kernel_rfl) (by kernel_rfl) ?_
      refine Hs.runK [131] 1000 1 Tryz.func112 rfl (by kernel_rfl) (fun ν => by kernel_rfl) (fun ν => by kernel_rfl) fun ν hν => ?_
      exact Hs.ret (v := (.bool (isS 17))) Tryz.func112 (by kernel_rfl) fun w' H => ⟨rfl, H.only⟩
    · refine Hs.enter Tryz.func112 [] [] [] [.c (.v (.int .i64 18))] (Mem.start0 w) (by kernel_rfl) (by kernel_rfl) ?_
      refine Hs.runK [131] 1000 1 Tryz.func112 rfl (by kernel_rfl) (fun ν => by kernel_rfl) (fun ν => by kernel_rfl) fun ν hν => ?_
      exact Hs.ret (v := (.bool (isS 18))) Tryz.func112 (by kernel_rfl) fun w' H => ⟨rfl, H.only⟩
    · refine Hs.enter Tryz.func112 [] [] [] [.c (.v (.int .i64 19))] (Mem.start0 w) (by kernel_rfl) (by kernel_rfl) ?_
      refine Hs.runK [131] 1000 1 Tryz.func112 rfl (by kernel_rfl) (fun ν => by kernel_rfl) (fun ν => by kernel_rfl) fun ν hν => ?_
      exact Hs.ret (v := (.bool (isS 19))) Tryz.func112 (by kernel_rfl) fun w' H => ⟨rfl, H.only⟩
    · refine Hs.enter Tryz.func112 [] [] [] [.c (.v (.int .i64 20))] (Mem.start0 w) (by kernel_rfl) (by kernel_rfl) ?_
      refine Hs.runK [131] 1000 1 Tryz.func112 rfl (by kernel_rfl) (fun ν => by kernel_rfl) (fun ν => by kernel_rfl) fun ν hν => ?_
      exact Hs.ret (v := (.bool (isS 20))) Tryz.func112 (by kernel_rfl) fun w' H => ⟨rfl, H.only⟩
    · refine Hs.enter Tryz.func112 [] [] [] [.c (.v (.int .i64 21))] (Mem.start0 w) (by kernel_rfl) (by kernel_rfl) ?_
      refine Hs.runK [131] 1000 1 Tryz.func112 rfl (by kernel_rfl) (fun ν => by kernel_rfl) (fun ν => by kernel_rfl) fun ν hν => ?_
      exact Hs.ret (v := (.bool (isS 21))) Tryz.func112 (by kernel_rfl) fun w' H => ⟨rfl, H.only⟩
    · refine Hs.enter Tryz.func112 [] [] [] [.c (.v (.int .i64 22))] (Mem.start0 w) (by kernel_rfl) (by kernel_rfl) ?_
      refine Hs.runK [131] 1000 1 Tryz.func112 rfl (by kernel_rfl) (fun ν => by kernel_rfl) (fun ν => by kernel_rfl) fun ν hν => ?_
      exact Hs.ret (v := (.bool (isS 22))) Tryz.func112 (by kernel_rfl) fun w' H => ⟨rfl, H.only⟩
    · refine Hs.enter Tryz.func112 [] [] [] [.c (.v (.int .i64 23))] (Mem.start0 w) (by kernel_rfl) (by kernel_rfl) ?_
      refine Hs.runK [131] 1000 1 Tryz.func112 rfl (by kernel_rfl) (fun ν => by kernel_rfl) (fun ν => by kernel_rfl) fun ν hν => ?_
      exact Hs.ret (v := (.bool (isS 23))) Tryz.func112 (by kernel_rfl) fun w' H => ⟨rfl, H.only⟩
    · refine Hs.enter Tryz.func112 [] [] [] [.c (.v (.int .i64 24))] (Mem.start0 w) (by kernel_rfl) (by kernel_rfl) ?_
      refine Hs.runK [131] 1000 1 Tryz.func112 rfl (by kernel_rfl) (fun ν => by kernel_rfl) (fun ν => by kernel_rfl) fun ν hν => ?_
      exact Hs.ret (v := (.bool (isS 24))) Tryz.func112 (by kernel_rfl) fun w' H => ⟨rfl, H.only⟩
    · refine Hs.enter Tryz.func112 [] [] [] [.c (.v (.int .i64 25))] (Mem.start0 w) (by kernel_rfl) (by kernel_rfl) ?_
      refine Hs.runK [131] 1000 1 Tryz.func112 rfl (by kernel_rfl) (fun ν => by kernel_rfl) (fun ν => by kernel_rfl) fun ν hν => ?_
      exact Hs.ret (v := (.bool (isS 25))) Tryz.func112 (by kernel_rfl) fun w' H => ⟨rfl, H.only⟩
    · refine Hs.enter Tryz.func112 [] [] [] [.c (.v (.int .i64 26))] (Mem.start0 w) (by kernel_rfl) (by kernel_rfl) ?_
      refine Hs.runK [131] 1000 1 Tryz.func112 rfl (by kernel_rfl) (fun ν => by kernel_rfl) (fun ν => by kernel_rfl) fun ν hν => ?_
      exact Hs.ret (v := (.bool (isS 26))) Tryz.func112 (by kernel_rfl) fun w' H => ⟨rfl, H.only⟩
    · refine Hs.enter Tryz.func112 [] [] [] [.c (.v (.int .i64 27))] (Mem.start0 w) (by kernel_rfl) (by kernel_rfl) ?_
      refine Hs.runK [131] 1000 1 Tryz.func112 rfl (by kernel_rfl) (fun ν => by kernel_rfl) (fun ν => by kernel_rfl) fun ν hν => ?_
      exact Hs.ret (v := (.bool (isS 27))) Tryz.func112 (by kernel_rfl) fun w' H => ⟨rfl, H.only⟩
    · refine Hs.enter Tryz.func112 [] [] [] [.c (.v (.int .i64 28))] (Mem.start0 w) (by kernel_rfl) (by kernel_rfl) ?_
      refine Hs.runK [131] 1000 1 Tryz.func112 rfl (by kernel_rfl) (fun ν => by kernel_rfl) (fun ν => by kernel_rfl) fun ν hν => ?_
      exact Hs.ret (v := (.bool (isS 28))) Tryz.func112 (by kernel_rfl) fun w' H => ⟨rfl, H.only⟩
  · have e : isS n = false := isS_out h
    rw [e]
    refine Hs.enter Tryz.func112 [] [] [] [.c (.v (.int .i64 n))] (Mem.start0 w) (by kernel_rfl) (by kernel_rfl) ?_
    refine Hs.run0 300 (fun _ => by kernel_rfl) ?_
    refine Hs.bool 5 (decide (n > 0)) (by kernel_rfl) (fun h1 => ?_) (fun h1 => ?_)
    · replace h1 : n > 0 := by simpa using h1
      refine Hs.rung0 [2] 300 (fun _ => by kernel_rfl) ?_
      refine Hs.bool 9 (decide (n ≤ 28)) (by kernel_rfl) (fun h2 => absurd ⟨h1, by simpa using h2⟩ h) (fun h2 => ?_)
      refine Hs.rung0 [2, 6] 300 (fun _ => by kernel_rfl) ?_
      exact Hs.ret (v := .bool false) Tryz.func112 (by kernel_rfl) fun w' H => ⟨rfl, H.only⟩
    · refine Hs.rung0 [2, 6] 300 (fun _ => by kernel_rfl) ?_
      exact Hs.ret (v := .bool false) Tryz.func112 (by kernel_rfl) fun w' H => ⟨rfl, H.only⟩
theorem name_any18 (n : Int) (w : World) : Calls Tryz.prog 111 #[.int .i64 n] w fun e w' => e = .returned (.tuple #[.string (if isS n then nameS n else ⟨#[]⟩), .bool (isS n)]) ∧ Only [] w w' := by
  by_cases h : 1 ≤ n ∧ n ≤ 28
  · rcases c28 h.1 h.2 with  rfl | rfl | rfl | rfl | rfl | rfl | rfl | rfl | rfl | rfl | rfl | rfl | rfl | rfl | rfl | rfl | rfl | rfl | rfl | rfl | rfl | rfl | rfl | rfl | rfl | rfl | rfl | rfl 
    · refine Hs.enter Tryz.func111 [] [] [] [.c (.v (.int .i64 1))] (Mem.start0 w) (by kernel_rfl) (by kernel_rfl) ?_
      refine Hs.runK [131, 112] 1000 2 Tryz.func111 rfl (by kernel_rfl) (fun ν => by kernel_rfl) (fun ν => by kernel_rfl) fun ν hν => ?_
      exact Hs.ret (v := (.tuple #[.string (if isS 1 then nameS 1 else ⟨#[]⟩), .bool (isS 1)])) Tryz.func111 (by kernel_rfl) fun w' H => ⟨rfl, H.only⟩
    · refine Hs.enter Tryz.func111 [] [] [] [.c (.v (.int .i64 2))] (Mem.start0 w) (by kernel_rfl) (by kernel_rfl) ?_
      refine Hs.runK [131, 112] 1000 2 Tryz.func111 rfl (by kernel_rfl) (fun ν => by kernel_rfl) (fun ν => by kernel_rfl) fun ν hν => ?_
      exact Hs.ret (v := (.tuple #[.string (if isS 2 then nameS 2 else ⟨#[]⟩), .bool (isS 2)])) Tryz.func111 (by kernel_rfl) fun w' H => ⟨rfl, H.only⟩
    · refine Hs.enter Tryz.func111 [] [] [] [.c (.v (.int .i64 3))] (Mem.start0 w) (by kernel_rfl) (by kernel_rfl) ?_
      refine Hs.runK [131, 112] 1000 2 Tryz.func111 rfl (by kernel_rfl) (fun ν => by kernel_rfl) (fun ν => by kernel_rfl) fun ν hν => ?_
      exact Hs.ret (v := (.tuple #[.string (if isS 3 then nameS 3 else ⟨#[]⟩), .bool (isS 3)])) Tryz.func111 (by kernel_rfl) fun w' H => ⟨rfl, H.only⟩
    · refine Hs.enter Tryz.func111 [] [] [] [.c (.v (.int .i64 4))] (Mem.start0 w) (by kernel_rfl) (by kernel_rfl) ?_
      refine Hs.runK [131, 112] 1000 2 Tryz.func111 rfl (by kernel_rfl) (fun ν => by kernel_rfl) (fun ν => by kernel_rfl) fun ν hν => ?_
      exact Hs.ret (v := (.tuple #[.string (if isS 4 then nameS 4 else ⟨#[]⟩), .bool (isS 4)])) Tryz.func111 (by kernel_rfl) fun w' H => ⟨rfl, H.only⟩
    · refine Hs.enter Tryz.func111 [] [] [] [.c (.v (.int .i64 5))] (Mem.start0 w) (by kernel_rfl) (by kernel_rfl) ?_
      refine Hs.runK [131, 112] 1000 2 Tryz.func111 rfl (by kernel_rfl) (fun ν => by kernel_rfl) (fun ν => by kernel_rfl) fun ν hν => ?_
      exact Hs.ret (v := (.tuple #[.string (if isS 5 then nameS 5 else ⟨#[]⟩), .bool (isS 5)])) Tryz.func111 (by kernel_rfl) fun w' H => ⟨rfl, H.only⟩
    · refine Hs.enter Tryz.func111 [] [] [] [.c (.v (.int .i64 6))] (Mem.start0 w) (by kernel_rfl) (by kernel_rfl) ?_
      refine Hs.runK [131, 112] 1000 2 Tryz.func111 rfl (by kernel_rfl) (fun ν => by kernel_rfl) (fun ν => by kernel_rfl) fun ν hν => ?_
      exact Hs.ret (v := (.tuple #[.string (if isS 6 then nameS 6 else ⟨#[]⟩), .bool (isS 6)])) Tryz.func111 (by kernel_rfl) fun w' H => ⟨rfl, H.only⟩
    · refine Hs.enter Tryz.func111 [] [] [] [.c (.v (.int .i64 7))] (Mem.start0 w) (by kernel_rfl) (by kernel_rfl) ?_
      refine Hs.runK [131, 112] 1000 2 Tryz.func111 rfl (by kernel_rfl) (fun ν => by kernel_rfl) (fun ν => by kernel_rfl) fun ν hν => ?_
      exact Hs.ret (v := (.tuple #[.string (if isS 7 then nameS 7 else ⟨#[]⟩), .bool (isS 7)])) Tryz.func111 (by kernel_rfl) fun w' H => ⟨rfl, H.only⟩
    · refine Hs.enter Tryz.func111 [] [] [] [.c (.v (.int .i64 8))] (Mem.start0 w) (by kernel_rfl) (by kernel_rfl) ?_
      refine Hs.runK [131, 112] 1000 2 Tryz.func111 rfl (by kernel_rfl) (fun ν => by kernel_rfl) (fun ν => by kernel_rfl) fun ν hν => ?_
      exact Hs.ret (v := (.tuple #[.string (if isS 8 then nameS 8 else ⟨#[]⟩), .bool (isS 8)])) Tryz.func111 (by kernel_rfl) fun w' H => ⟨rfl, H.only⟩
    · refine Hs.enter Tryz.func111 [] [] [] [.c (.v (.int .i64 9))] (Mem.start0 w) (by kernel_rfl) (by kernel_rfl) ?_
      refine Hs.runK [131, 112] 1000 2 Tryz.func111 rfl (by kernel_rfl) (fun ν => by kernel_rfl) (fun ν => by kernel_rfl) fun ν hν => ?_
      exact Hs.ret (v := (.tuple #[.string (if isS 9 then nameS 9 else ⟨#[]⟩), .bool (isS 9)])) Tryz.func111 (by kernel_rfl) fun w' H => ⟨rfl, H.only⟩
    · refine Hs.enter Tryz.func111 [] [] [] [.c (.v (.int .i64 10))] (Mem.start0 w) (by kernel_rfl) (by kernel_rfl) ?_
      refine Hs.runK [131, 112] 1000 2 Tryz.func111 rfl (by kernel_rfl) (fun ν => by kernel_rfl) (fun ν => by kernel_rfl) fun ν hν => ?_
      exact Hs.ret (v := (.tuple #[.string (if isS 10 then nameS 10 else ⟨#[]⟩), .bool (isS 10)])) Tryz.func111 (by kernel_rfl) fun w' H => ⟨rfl, H.only⟩
    · refine Hs.enter Tryz.func111 [] [] [] [.c (.v (.int .i64 11))] (Mem.start0 w) (by kernel_rfl) (by kernel_rfl) ?_
      refine Hs.runK [131, 112] 1000 2 Tryz.func111 rfl (by kernel_rfl) (fun ν => by kernel_rfl) (fun ν => by kernel_rfl) fun ν hν => ?_
      exact Hs.ret (v := (.tuple #[.string (if isS 11 then nameS 11 else ⟨#[]⟩), .bool (isS 11)])) Tryz.func111 (by kernel_rfl) fun w' H => ⟨rfl, H.only⟩
    · refine Hs.enter Tryz.func111 [] [] [] [.c (.v (.int .i64 12))] (Mem.start0 w) (by kernel_rfl) (by kernel_rfl) ?_
      refine Hs.runK [131, 112] 1000 2 Tryz.func111 rfl (by kernel_rfl) (fun ν => by kernel_rfl) (fun ν => by kernel_rfl) fun ν hν => ?_
      exact Hs.ret (v := (.tuple #[.string (if isS 12 then nameS 12 else ⟨#[]⟩), .bool (isS 12)])) Tryz.func111 (by kernel_rfl) fun w' H => ⟨rfl, H.only⟩
    · refine Hs.enter Tryz.func111 [] [] [] [.c (.v (.int .i64 13))] (Mem.start0 w) (by kernel_rfl) (by kernel_rfl) ?_
      refine Hs.runK [131, 112] 1000 2 Tryz.func111 rfl (by kernel_rfl) (fun ν => by kernel_rfl) (fun ν => by kernel_rfl) fun ν hν => ?_
      exact Hs.ret (v := (.tuple #[.string (if isS 13 then nameS 13 else ⟨#[]⟩), .bool (isS 13)])) Tryz.func111 (by kernel_rfl) fun w' H => ⟨rfl, H.only⟩
    · refine Hs.enter Tryz.func111 [] [] [] [.c (.v (.int .i64 14))] (Mem.start0 w) (by kernel_rfl) (by kernel_rfl) ?_
      refine Hs.runK [131, 112] 1000 2 Tryz.func111 rfl (by kernel_rfl) (fun ν => by kernel_rfl) (fun ν => by kernel_rfl) fun ν hν => ?_
      exact Hs.ret (v := (.tuple #[.string (if isS 14 then nameS 14 else ⟨#[]⟩), .bool (isS 14)])) Tryz.func111 (by kernel_rfl) fun w' H => ⟨rfl, H.only⟩
    · refine Hs.enter Tryz.func111 [] [] [] [.c (.v (.int .i64 15))] (Mem.start0 w) (by kernel_rfl) (by kernel_rfl) ?_
      refine Hs.runK [131, 112] 1000 2 Tryz.func111 rfl (by kernel_rfl) (fun ν => by kernel_rfl) (fun ν => by kernel_rfl) fun ν hν => ?_
      exact Hs.ret (v := (.tuple #[.string (if isS 15 then nameS 15 else ⟨#[]⟩), .bool (isS 15)])) Tryz.func111 (by kernel_rfl) fun w' H => ⟨rfl, H.only⟩
    · refine Hs.enter Tryz.func111 [] [] [] [.c (.v (.int .i64 16))] (Mem.start0 w) (by kernel_rfl) (by kernel_rfl) ?_
      refine Hs.runK [131, 112] 1000 1 Tryz.func111 rfl (by kernel_rfl) (fun ν => by kernel_rfl) (fun ν => by kernel_rfl) fun ν hν => ?_
      exact Hs.ret (v := (.tuple #[.string (if isS 16 then nameS 16 else ⟨#[]⟩), .bool (isS 16)])) Tryz.func111 (by kernel_rfl) fun w' H => ⟨rfl, H.only⟩
    · refine Hs.enter Tryz.func111 [] [] [] [.c (.v (.int .i64 17))] (Mem.start0 w) (by kernel_rfl) (by kernel_rfl) ?_
      refine Hs.runK [131, 112] 1000 2 Tryz.func111 rfl (by kernel_rfl) (fun ν => by kernel_rfl) (fun ν => by kernel_rfl) fun ν hν => ?_
      exact Hs.ret (v := (.tuple #[.string (if isS 17 then nameS 17 else ⟨#[]⟩), .bool (isS 17)])) Tryz.func111 (by kernel_rfl) fun w' H => ⟨rfl, H.only⟩
    · refine Hs.enter Tryz.func111 [] [] [] [.c (.v (.int .i64 18))] (Mem.start0 w) (by kernel_rfl) (by kernel_rfl) ?_
      refine Hs.runK [131, 112] 1000 2 Tryz.func111 rfl (by kernel_rfl) (fun ν => by kernel_rfl) (fun ν => by kernel_rfl) fun ν hν => ?_
      exact Hs.ret (v := (.tuple #[.string (if isS 18 then nameS 18 else ⟨#[]⟩), .bool (isS 18)])) Tryz.func111 (by kernel_rfl) fun w' H => ⟨rfl, H.only⟩
    · refine Hs.enter Tryz.func111 [] [] [] [.c (.v (.int .i64 19))] (Mem.start0 w) (by kernel_rfl) (by kernel_rfl) ?_
      refine Hs.runK [131, 112] 1000 2 Tryz.func111 rfl (by kernel_rfl) (fun ν => by kernel_rfl) (fun ν => by kernel_rfl) fun ν hν => ?_
      exact Hs.ret (v := (.tuple #[.string (if isS 19 then nameS 19 else ⟨#[]⟩), .bool (isS 19)])) Tryz.func111 (by kernel_rfl) fun w' H => ⟨rfl, H.only⟩
    · refine Hs.enter Tryz.func111 [] [] [] [.c (.v (.int .i64 20))] (Mem.start0 w) (by kernel_rfl) (by kernel_rfl) ?_
      refine Hs.runK [131, 112] 1000 2 Tryz.func111 rfl (by kernel_rfl) (fun ν => by kernel_rfl) (fun ν => by kernel_rfl) fun ν hν => ?_
      exact Hs.ret (v := (.tuple #[.string (if isS 20 then nameS 20 else ⟨#[]⟩), .bool (isS 20)])) Tryz.func111 (by kernel_rfl) fun w' H => ⟨rfl, H.only⟩
    · refine Hs.enter Tryz.func111 [] [] [] [.c (.v (.int .i64 21))] (Mem.start0 w) (by kernel_rfl) (by kernel_rfl) ?_
      refine Hs.runK [131, 112] 1000 2 Tryz.func111 rfl (by kernel_rfl) (fun ν => by kernel_rfl) (fun ν => by kernel_rfl) fun ν hν => ?_
      exact Hs.ret (v := (.tuple #[.string (if isS 21 then nameS 21 else ⟨#[]⟩), .bool (isS 21)])) Tryz.func111 (by kernel_rfl) fun w' H => ⟨rfl, H.only⟩
    · refine Hs.enter Tryz.func111 [] [] [] [.c (.v (.int .i64 22))] (Mem.start0 w) (by kernel_rfl) (by kernel_rfl) ?_
      refine Hs.runK [131, 112] 1000 2 Tryz.func111 rfl (by kernel_rfl) (fun ν => by kernel_rfl) (fun ν => by kernel_rfl) fun ν hν => ?_
      exact Hs.ret (v := (.tuple #[.string (if isS 22 then nameS 22 else ⟨#[]⟩), .bool (isS 22)])) Tryz.func111 (by kernel_rfl) fun w' H => ⟨rfl, H.only⟩
    · refine Hs.enter Tryz.func111 [] [] [] [.c (.v (.int .i64 23))] (Mem.start0 w) (by kernel_rfl) (by kernel_rfl) ?_
      refine Hs.runK [131, 112] 1000 1 Tryz.func111 rfl (by kernel_rfl) (fun ν => by kernel_rfl) (fun ν => by kernel_rfl) fun ν hν => ?_
      exact Hs.ret (v := (.tuple #[.string (if isS 23 then nameS 23 else ⟨#[]⟩), .bool (isS 23)])) Tryz.func111 (by kernel_rfl) fun w' H => ⟨rfl, H.only⟩
    · refine Hs.enter Tryz.func111 [] [] [] [.c (.v (.int .i64 24))] (Mem.start0 w) (by kernel_rfl) (by kernel_rfl) ?_
      refine Hs.runK [131, 112] 1000 1 Tryz.func111 rfl (by kernel_rfl) (fun ν => by kernel_rfl) (fun ν => by kernel_rfl) fun ν hν => ?_
      exact Hs.ret (v := (.tuple #[.string (if isS 24 then nameS 24 else ⟨#[]⟩), .bool (isS 24)])) Tryz.func111 (by kernel_rfl) fun w' H => ⟨rfl, H.only⟩
    · refine Hs.enter Tryz.func111 [] [] [] [.c (.v (.int .i64 25))] (Mem.start0 w) (by kernel_rfl) (by kernel_rfl) ?_
      refine Hs.runK [131, 112] 1000 1 Tryz.func111 rfl (by kernel_rfl) (fun ν => by kernel_rfl) (fun ν => by kernel_rfl) fun ν hν => ?_
      exact Hs.ret (v := (.tuple #[.string (if isS 25 then nameS 25 else ⟨#[]⟩), .bool (isS 25)])) Tryz.func111 (by kernel_rfl) fun w' H => ⟨rfl, H.only⟩
    · refine Hs.enter Tryz.func111 [] [] [] [.c (.v (.int .i64 26))] (Mem.start0 w) (by kernel_rfl) (by kernel_rfl) ?_
      refine Hs.runK [131, 112] 1000 1 Tryz.func111 rfl (by kernel_rfl) (fun ν => by kernel_rfl) (fun ν => by kernel_rfl) fun ν hν => ?_
      exact Hs.ret (v := (.tuple #[.string (if isS 26 then nameS 26 else ⟨#[]⟩), .bool (isS 26)])) Tryz.func111 (by kernel_rfl) fun w' H => ⟨rfl, H.only⟩
    · refine Hs.enter Tryz.func111 [] [] [] [.c (.v (.int .i64 27))] (Mem.start0 w) (by kernel_rfl) (by kernel_rfl) ?_
      refine Hs.runK [131, 112] 1000 1 Tryz.func111 rfl (by kernel_rfl) (fun ν => by kernel_rfl) (fun ν => by kernel_rfl) fun ν hν => ?_
      exact Hs.ret (v := (.tuple #[.string (if isS 27 then nameS 27 else ⟨#[]⟩), .bool (isS 27)])) Tryz.func111 (by kernel_rfl) fun w' H => ⟨rfl, H.only⟩
    · refine Hs.enter Tryz.func111 [] [] [] [.c (.v (.int .i64 28))] (Mem.start0 w) (by kernel_rfl) (by kernel_rfl) ?_
      refine Hs.runK [131, 112] 1000 2 Tryz.func111 rfl (by kernel_rfl) (fun ν => by kernel_rfl) (fun ν => by kernel_rfl) fun ν hν => ?_
      exact Hs.ret (v := (.tuple #[.string (if isS 28 then nameS 28 else ⟨#[]⟩), .bool (isS 28)])) Tryz.func111 (by kernel_rfl) fun w' H => ⟨rfl, H.only⟩
  · have e : isS n = false := isS_out h
    rw [e]
    refine Hs.enter Tryz.func111 [] [] [] [.c (.v (.int .i64 n))] (Mem.start0 w) (by kernel_rfl) (by kernel_rfl) ?_
    refine Hs.run0 300 (fun _ => by kernel_rfl) ?_
    refine Hs.callV (fun w' H => by have := is_any18 n w'; rw [e] at this; exact this) (by kernel_rfl) ?_
    refine Hs.run0 300 (fun _ => by kernel_rfl) ?_
    refine Hs.condT (by kernel_rfl) ?_
    refine Hs.run0 300 (fun _ => by kernel_rfl) ?_
    exact Hs.ret (v := .tuple #[.string ⟨#[]⟩, .bool false]) Tryz.func111 (by kernel_rfl) fun w' H => ⟨rfl, H.only⟩
/-- The first place of a name. -/
def idxS (nm : ByteArray) : List ByteArray → Int → Int
  | [], _ => -1
  | s :: l, i => if eqL nm.data.toList s.data.toList then i else idxS nm l (i + 1)
def numI (nm : ByteArray) : Int := idxS nm sigL 0
def numS (nm : ByteArray) : Int := if numI nm > 0 then numI nm else 0
def numB (nm : ByteArray) : Bool := decide (numI nm > 0)
end Go.Proofs.YtmmcamkmglpgiaaGreatDoor

namespace Go.Proofs.YtmmcamkmglpgiaaGreatDoor
set_option linter.all false
set_option maxRecDepth 100000
open Go.RowKit

/-- A setting. -/
structure TM where
  ch : Nat → Int
  fl : Int
  inn : Int
  out : Int
  mn : Int
  tm : Int
def TM.sc (t : TM) : List SC := [.v (.int .u8 (t.ch 0)), .v (.int .u8 (t.ch 1)), .v (.int .u8 (t.ch 2)), .v (.int .u8 (t.ch 3)), .v (.int .u8 (t.ch 4)), .v (.int .u8 (t.ch 5)), .v (.int .u8 (t.ch 6)), .v (.int .u8 (t.ch 7)), .v (.int .u8 (t.ch 8)), .v (.int .u8 (t.ch 9)), .v (.int .u8 (t.ch 10)), .v (.int .u8 (t.ch 11)), .v (.int .u8 (t.ch 12)), .v (.int .u8 (t.ch 13)), .v (.int .u8 (t.ch 14)), .v (.int .u8 (t.ch 15)), .v (.int .u8 (t.ch 16)), .v (.int .u8 (t.ch 17)), .v (.int .u8 (t.ch 18)), .v (.int .u64 t.fl), .v (.int .u32 t.inn), .v (.int .u32 t.out), .v (.int .i64 t.mn), .v (.int .i64 t.tm)]
def TM.cells (t : TM) : List Value := [.int .u8 (t.ch 0), .int .u8 (t.ch 1), .int .u8 (t.ch 2), .int .u8 (t.ch 3), .int .u8 (t.ch 4), .int .u8 (t.ch 5), .int .u8 (t.ch 6), .int .u8 (t.ch 7), .int .u8 (t.ch 8), .int .u8 (t.ch 9), .int .u8 (t.ch 10), .int .u8 (t.ch 11), .int .u8 (t.ch 12), .int .u8 (t.ch 13), .int .u8 (t.ch 14), .int .u8 (t.ch 15), .int .u8 (t.ch 16), .int .u8 (t.ch 17), .int .u8 (t.ch 18), .int .u64 t.fl, .int .u32 t.inn, .int .u32 t.out, .int .i64 t.mn, .int .i64 t.tm]
def TM.val (t : TM) : Value := .agg #[.int .u8 (t.ch 0), .int .u8 (t.ch 1), .int .u8 (t.ch 2), .int .u8 (t.ch 3), .int .u8 (t.ch 4), .int .u8 (t.ch 5), .int .u8 (t.ch 6), .int .u8 (t.ch 7), .int .u8 (t.ch 8), .int .u8 (t.ch 9), .int .u8 (t.ch 10), .int .u8 (t.ch 11), .int .u8 (t.ch 12), .int .u8 (t.ch 13), .int .u8 (t.ch 14), .int .u8 (t.ch 15), .int .u8 (t.ch 16), .int .u8 (t.ch 17), .int .u8 (t.ch 18), .int .u64 t.fl, .int .u32 t.inn, .int .u32 t.out, .int .i64 t.mn, .int .i64 t.tm]
def isFlagB (op : Int) : Bool := (decide (30 ≤ op) && decide (op ≤ 42)) || ((decide (50 ≤ op) && decide (op ≤ 62)) || ((decide (70 ≤ op) && decide (op ≤ 75)) || (decide (90 ≤ op) && decide (op ≤ 93))))
def bitI (op : Int) : Int := ((2 ^ (op - 30).toNat : Nat) : Int)
/-- A flag is on. -/
def hasI (fl op : Int) : Bool := isFlagB op && (IntKind.u64.wrap (((BitVec.ofInt 64 fl) &&& (BitVec.ofInt 64 (bitI op))).toNat) != 0)
def TM.has (t : TM) (op : Int) : Bool := hasI t.fl op
/-- With a flag on, or off. -/
def setI (fl op : Int) (on : Bool) : Int := if isFlagB op then (if on then IntKind.u64.wrap (((BitVec.ofInt 64 fl) ||| (BitVec.ofInt 64 (bitI op))).toNat) else IntKind.u64.wrap (((BitVec.ofInt 64 fl) &&& ~~~(BitVec.ofInt 64 (bitI op))).toNat)) else fl
def TM.set (t : TM) (op : Int) (on : Bool) : TM := { t with fl := setI t.fl op on }
theorem groups_any (w : World) : Calls Tryz.prog 147 #[] w fun e w' => e = .returned (.agg #[.int .i64 30, .int .i64 42, .int .i64 50, .int .i64 62, .int .i64 70, .int .i64 75, .int .i64 90, .int .i64 93]) ∧ Only [] w w' := by
  refine Hs.enter Tryz.func147 [] [] [] [] (Mem.start0 w) (by kernel_rfl) (by kernel_rfl) ?_
  refine Hs.run1 300 (fun _ => by kernel_rfl) fun b0 => ?_
  exact Hs.ret (v := .agg #[.int .i64 30, .int .i64 42, .int .i64 50, .int .i64 62, .int .i64 70, .int .i64 75, .int .i64 90, .int .i64 93]) Tryz.func147 (by kernel_rfl) fun w' H => ⟨rfl, H.only⟩
theorem flag_step {x y op : Int} {r : Bool} : ((decide (x ≤ op) && decide (op ≤ y)) || r) = if x ≤ op ∧ op ≤ y then true else r := by
  by_cases h1 : x ≤ op <;> by_cases h2 : op ≤ y <;> simp [h1, h2]
theorem isFlag_any (op : Int) (w : World) : Calls Tryz.prog 132 #[.int .i64 op] w fun e w' => e = .returned (.bool (isFlagB op)) ∧ Only [] w w' := by
  have J4 : ¬ ((30 : Int) ≤ op ∧ op ≤ 42) → ¬ ((50 : Int) ≤ op ∧ op ≤ 62) → ¬ ((70 : Int) ≤ op ∧ op ≤ 75) → ¬ ((90 : Int) ≤ op ∧ op ≤ 93) → ∀ u : Nat → Value, Hs Tryz.prog 132 (fun e w' => e = .returned (.bool (isFlagB op)) ∧ Only [] w w') (Tryz.f132).ntmps w [] [] ⟨.no, loopAt Tryz.f132 0, pins [(0, .c (.v (.int .i64 op))), (2, .c (.v (.bool false))), (5, .c (.v (.agg #[.int .i64 30, .int .i64 42, .int .i64 50, .int .i64 62, .int .i64 70, .int .i64 75, .int .i64 90, .int .i64 93]))), (6, .c (.v (.int .i64 4)))] (.vals u), []⟩ := by
    intro g0 g1 g2 g3 u
    refine Hs.run0 300 (fun _ => by kernel_rfl) ?_
    refine Hs.condF (by kernel_rfl) ?_
    refine Hs.run0 300 (fun _ => by kernel_rfl) ?_
    have e : isFlagB op = false := by
      simp only [isFlagB, flag_step, if_neg g0, if_neg g1, if_neg g2]
      simpa using g3
    exact Hs.ret (v := .bool false) Tryz.func132 (by kernel_rfl) fun w' H => ⟨by rw [e], H.only⟩
  have J3 : ¬ ((30 : Int) ≤ op ∧ op ≤ 42) → ¬ ((50 : Int) ≤ op ∧ op ≤ 62) → ¬ ((70 : Int) ≤ op ∧ op ≤ 75) → ∀ u : Nat → Value, Hs Tryz.prog 132 (fun e w' => e = .returned (.bool (isFlagB op)) ∧ Only [] w w') (Tryz.f132).ntmps w [] [] ⟨.no, loopAt Tryz.f132 0, pins [(0, .c (.v (.int .i64 op))), (2, .c (.v (.bool false))), (5, .c (.v (.agg #[.int .i64 30, .int .i64 42, .int .i64 50, .int .i64 62, .int .i64 70, .int .i64 75, .int .i64 90, .int .i64 93]))), (6, .c (.v (.int .i64 3)))] (.vals u), []⟩ := by
    intro g0 g1 g2 u
    refine Hs.run0 300 (fun _ => by kernel_rfl) ?_
    refine Hs.condT (by kernel_rfl) ?_
    refine Hs.run1 300 (fun _ => by kernel_rfl) fun c0 => ?_
    refine Hs.bool 13 (decide ((90 : Int) ≤ op)) (by kernel_rfl) (fun h => ?_) (fun h => ?_)
    · have h1 := of_decide_eq_true h
      refine Hs.rung0 [4] 300 (fun _ => by kernel_rfl) ?_
      refine Hs.condP (op ≤ (93 : Int)) (by kernel_rfl) (fun h2 => ?_) (fun h2 => ?_)
      · have e : isFlagB op = true := by
          simp only [isFlagB, flag_step, if_neg g0, if_neg g1, if_neg g2]
          simp [h1, h2]
        refine Hs.run0 300 (fun _ => by kernel_rfl) ?_
        exact Hs.ret (v := .bool true) Tryz.func132 (by kernel_rfl) fun w' H => ⟨by rw [e], H.only⟩
      · refine Hs.run0 300 (fun _ => by kernel_rfl) ?_
        refine Hs.loop (by kernel_rfl) ?_
        exact Hs.goto (loopAt Tryz.f132 0) [] [] [(0, .c (.v (.int .i64 op))), (2, .c (.v (.bool false))), (5, .c (.v (.agg #[.int .i64 30, .int .i64 42, .int .i64 50, .int .i64 62, .int .i64 70, .int .i64 75, .int .i64 90, .int .i64 93]))), (6, .c (.v (.int .i64 4)))] (by kernel_rfl) (by decide) (by kernel_rfl) (by kernel_rfl) (fun _ => (by kernel_rfl)) (J4 g0 g1 g2 (fun h => by omega))
    · have h1 := of_decide_eq_false h
      refine Hs.rung0 [4] 300 (fun _ => by kernel_rfl) ?_
      refine Hs.condF (by kernel_rfl) ?_
      refine Hs.run0 300 (fun _ => by kernel_rfl) ?_
      refine Hs.loop (by kernel_rfl) ?_
      exact Hs.goto (loopAt Tryz.f132 0) [] [] [(0, .c (.v (.int .i64 op))), (2, .c (.v (.bool false))), (5, .c (.v (.agg #[.int .i64 30, .int .i64 42, .int .i64 50, .int .i64 62, .int .i64 70, .int .i64 75, .int .i64 90, .int .i64 93]))), (6, .c (.v (.int .i64 4)))] (by kernel_rfl) (by decide) (by kernel_rfl) (by kernel_rfl) (fun _ => (by kernel_rfl)) (J4 g0 g1 g2 (fun h => by omega))
  have J2 : ¬ ((30 : Int) ≤ op ∧ op ≤ 42) → ¬ ((50 : Int) ≤ op ∧ op ≤ 62) → ∀ u : Nat → Value, Hs Tryz.prog 132 (fun e w' => e = .returned (.bool (isFlagB op)) ∧ Only [] w w') (Tryz.f132).ntmps w [] [] ⟨.no, loopAt Tryz.f132 0, pins [(0, .c (.v (.int .i64 op))), (2, .c (.v (.bool false))), (5, .c (.v (.agg #[.int .i64 30, .int .i64 42, .int .i64 50, .int .i64 62, .int .i64 70, .int .i64 75, .int .i64 90, .int .i64 93]))), (6, .c (.v (.int .i64 2)))] (.vals u), []⟩ := by
    intro g0 g1 u
    refine Hs.run0 300 (fun _ => by kernel_rfl) ?_
    refine Hs.condT (by kernel_rfl) ?_
    refine Hs.run1 300 (fun _ => by kernel_rfl) fun c0 => ?_
    refine Hs.bool 13 (decide ((70 : Int) ≤ op)) (by kernel_rfl) (fun h => ?_) (fun h => ?_)
    · have h1 := of_decide_eq_true h
      refine Hs.rung0 [4] 300 (fun _ => by kernel_rfl) ?_
      refine Hs.condP (op ≤ (75 : Int)) (by kernel_rfl) (fun h2 => ?_) (fun h2 => ?_)
      · have e : isFlagB op = true := by
          simp only [isFlagB, flag_step, if_neg g0, if_neg g1]
          simp [h1, h2]
        refine Hs.run0 300 (fun _ => by kernel_rfl) ?_
        exact Hs.ret (v := .bool true) Tryz.func132 (by kernel_rfl) fun w' H => ⟨by rw [e], H.only⟩
      · refine Hs.run0 300 (fun _ => by kernel_rfl) ?_
        refine Hs.loop (by kernel_rfl) ?_
        exact Hs.goto (loopAt Tryz.f132 0) [] [] [(0, .c (.v (.int .i64 op))), (2, .c (.v (.bool false))), (5, .c (.v (.agg #[.int .i64 30, .int .i64 42, .int .i64 50, .int .i64 62, .int .i64 70, .int .i64 75, .int .i64 90, .int .i64 93]))), (6, .c (.v (.int .i64 3)))] (by kernel_rfl) (by decide) (by kernel_rfl) (by kernel_rfl) (fun _ => (by kernel_rfl)) (J3 g0 g1 (fun h => by omega))
    · have h1 := of_decide_eq_false h
      refine Hs.rung0 [4] 300 (fun _ => by kernel_rfl) ?_
      refine Hs.condF (by kernel_rfl) ?_
      refine Hs.run0 300 (fun _ => by kernel_rfl) ?_
      refine Hs.loop (by kernel_rfl) ?_
      exact Hs.goto (loopAt Tryz.f132 0) [] [] [(0, .c (.v (.int .i64 op))), (2, .c (.v (.bool false))), (5, .c (.v (.agg #[.int .i64 30, .int .i64 42, .int .i64 50, .int .i64 62, .int .i64 70, .int .i64 75, .int .i64 90, .int .i64 93]))), (6, .c (.v (.int .i64 3)))] (by kernel_rfl) (by decide) (by kernel_rfl) (by kernel_rfl) (fun _ => (by kernel_rfl)) (J3 g0 g1 (fun h => by omega))
  have J1 : ¬ ((30 : Int) ≤ op ∧ op ≤ 42) → ∀ u : Nat → Value, Hs Tryz.prog 132 (fun e w' => e = .returned (.bool (isFlagB op)) ∧ Only [] w w') (Tryz.f132).ntmps w [] [] ⟨.no, loopAt Tryz.f132 0, pins [(0, .c (.v (.int .i64 op))), (2, .c (.v (.bool false))), (5, .c (.v (.agg #[.int .i64 30, .int .i64 42, .int .i64 50, .int .i64 62, .int .i64 70, .int .i64 75, .int .i64 90, .int .i64 93]))), (6, .c (.v (.int .i64 1)))] (.vals u), []⟩ := by
    intro g0 u
    refine Hs.run0 300 (fun _ => by kernel_rfl) ?_
    refine Hs.condT (by kernel_rfl) ?_
    refine Hs.run1 300 (fun _ => by kernel_rfl) fun c0 => ?_
    refine Hs.bool 13 (decide ((50 : Int) ≤ op)) (by kernel_rfl) (fun h => ?_) (fun h => ?_)
    · have h1 := of_decide_eq_true h
      refine Hs.rung0 [4] 300 (fun _ => by kernel_rfl) ?_
      refine Hs.condP (op ≤ (62 : Int)) (by kernel_rfl) (fun h2 => ?_) (fun h2 => ?_)
      · have e : isFlagB op = true := by
          simp only [isFlagB, flag_step, if_neg g0]
          simp [h1, h2]
        refine Hs.run0 300 (fun _ => by kernel_rfl) ?_
        exact Hs.ret (v := .bool true) Tryz.func132 (by kernel_rfl) fun w' H => ⟨by rw [e], H.only⟩
      · refine Hs.run0 300 (fun _ => by kernel_rfl) ?_
        refine Hs.loop (by kernel_rfl) ?_
        exact Hs.goto (loopAt Tryz.f132 0) [] [] [(0, .c (.v (.int .i64 op))), (2, .c (.v (.bool false))), (5, .c (.v (.agg #[.int .i64 30, .int .i64 42, .int .i64 50, .int .i64 62, .int .i64 70, .int .i64 75, .int .i64 90, .int .i64 93]))), (6, .c (.v (.int .i64 2)))] (by kernel_rfl) (by decide) (by kernel_rfl) (by kernel_rfl) (fun _ => (by kernel_rfl)) (J2 g0 (fun h => by omega))
    · have h1 := of_decide_eq_false h
      refine Hs.rung0 [4] 300 (fun _ => by kernel_rfl) ?_
      refine Hs.condF (by kernel_rfl) ?_
      refine Hs.run0 300 (fun _ => by kernel_rfl) ?_
      refine Hs.loop (by kernel_rfl) ?_
      exact Hs.goto (loopAt Tryz.f132 0) [] [] [(0, .c (.v (.int .i64 op))), (2, .c (.v (.bool false))), (5, .c (.v (.agg #[.int .i64 30, .int .i64 42, .int .i64 50, .int .i64 62, .int .i64 70, .int .i64 75, .int .i64 90, .int .i64 93]))), (6, .c (.v (.int .i64 2)))] (by kernel_rfl) (by decide) (by kernel_rfl) (by kernel_rfl) (fun _ => (by kernel_rfl)) (J2 g0 (fun h => by omega))
  have J0 : ∀ u : Nat → Value, Hs Tryz.prog 132 (fun e w' => e = .returned (.bool (isFlagB op)) ∧ Only [] w w') (Tryz.f132).ntmps w [] [] ⟨.no, loopAt Tryz.f132 0, pins [(0, .c (.v (.int .i64 op))), (2, .c (.v (.bool false))), (5, .c (.v (.agg #[.int .i64 30, .int .i64 42, .int .i64 50, .int .i64 62, .int .i64 70, .int .i64 75, .int .i64 90, .int .i64 93]))), (6, .c (.v (.int .i64 0)))] (.vals u), []⟩ := by
    intro  u
    refine Hs.run0 300 (fun _ => by kernel_rfl) ?_
    refine Hs.condT (by kernel_rfl) ?_
    refine Hs.run1 300 (fun _ => by kernel_rfl) fun c0 => ?_
    refine Hs.bool 13 (decide ((30 : Int) ≤ op)) (by kernel_rfl) (fun h => ?_) (fun h => ?_)
    · have h1 := of_decide_eq_true h
      refine Hs.rung0 [4] 300 (fun _ => by kernel_rfl) ?_
      refine Hs.condP (op ≤ (42 : Int)) (by kernel_rfl) (fun h2 => ?_) (fun h2 => ?_)
      · have e : isFlagB op = true := by
          simp only [isFlagB, flag_step]
          simp [h1, h2]
        refine Hs.run0 300 (fun _ => by kernel_rfl) ?_
        exact Hs.ret (v := .bool true) Tryz.func132 (by kernel_rfl) fun w' H => ⟨by rw [e], H.only⟩
      · refine Hs.run0 300 (fun _ => by kernel_rfl) ?_
        refine Hs.loop (by kernel_rfl) ?_
        exact Hs.goto (loopAt Tryz.f132 0) [] [] [(0, .c (.v (.int .i64 op))), (2, .c (.v (.bool false))), (5, .c (.v (.agg #[.int .i64 30, .int .i64 42, .int .i64 50, .int .i64 62, .int .i64 70, .int .i64 75, .int .i64 90, .int .i64 93]))), (6, .c (.v (.int .i64 1)))] (by kernel_rfl) (by decide) (by kernel_rfl) (by kernel_rfl) (fun _ => (by kernel_rfl)) (J1  (fun h => by omega))
    · have h1 := of_decide_eq_false h
      refine Hs.rung0 [4] 300 (fun _ => by kernel_rfl) ?_
      refine Hs.condF (by kernel_rfl) ?_
      refine Hs.run0 300 (fun _ => by kernel_rfl) ?_
      refine Hs.loop (by kernel_rfl) ?_
      exact Hs.goto (loopAt Tryz.f132 0) [] [] [(0, .c (.v (.int .i64 op))), (2, .c (.v (.bool false))), (5, .c (.v (.agg #[.int .i64 30, .int .i64 42, .int .i64 50, .int .i64 62, .int .i64 70, .int .i64 75, .int .i64 90, .int .i64 93]))), (6, .c (.v (.int .i64 1)))] (by kernel_rfl) (by decide) (by kernel_rfl) (by kernel_rfl) (fun _ => (by kernel_rfl)) (J1  (fun h => by omega))
  refine Hs.enter Tryz.func132 [] [] [] [.c (.v (.int .i64 op))] (Mem.start0 w) (by kernel_rfl) (by kernel_rfl) ?_
  refine Hs.run0 300 (fun _ => by kernel_rfl) ?_
  refine Hs.callV (fun w' H => groups_any w') (by kernel_rfl) ?_
  refine Hs.run0 300 (fun _ => by kernel_rfl) ?_
  refine Hs.loop (by kernel_rfl) ?_
  exact Hs.goto (loopAt Tryz.f132 0) [] [] [(0, .c (.v (.int .i64 op))), (2, .c (.v (.bool false))), (5, .c (.v (.agg #[.int .i64 30, .int .i64 42, .int .i64 50, .int .i64 62, .int .i64 70, .int .i64 75, .int .i64 90, .int .i64 93]))), (6, .c (.v (.int .i64 0)))] (by kernel_rfl) (by decide) (by kernel_rfl) (by kernel_rfl) (fun _ => (by kernel_rfl)) J0
theorem flag_lo {op : Int} (h : isFlagB op = true) : 30 ≤ op ∧ op ≤ 93 := by
  simp [isFlagB] at h
  omega
theorem bit_any (op : Int) (h1 : 30 ≤ op) (h2 : op ≤ 93) (w : World) : Calls Tryz.prog 133 #[.int .i64 op] w fun e w' => e = .returned (.int .u64 (bitI op)) ∧ Only [] w w' := by
  refine Hs.enter Tryz.func133 [] [] [] [.c (.v (.int .i64 op))] (Mem.start0 w) (by kernel_rfl) (by kernel_rfl) ?_
  refine Hs.rung0 [] 8 (fun _ => (by kernel_rfl)) ?_
  have e : IntKind.i64.wrap (op - 30) = op - 30 := IntWalk.i64_in _ (by omega)
  have e2 : IntKind.u64.wrap ((1 : Int) * 2 ^ min (op - 30).toNat 64) = bitI op := by
    rw [Nat.min_eq_left (by omega), Int.one_mul]
    unfold bitI
    have h3 : (2 : Int) ^ (op - 30).toNat = ((2 ^ (op - 30).toNat : Nat) : Int) := (Int.natCast_pow 2 _).symm
    have h6 : (op - 30).toNat < 64 := by omega
    have h4 : 2 ^ (op - 30).toNat < 2 ^ 64 := Nat.pow_lt_pow_right (by decide) h6
    rw [h3]
    generalize 2 ^ (op - 30).toNat = q at h4
    have h7 : q < 18446744073709551616 := h4
    have h5 : (q : Int) < 18446744073709551616 := by omega
    show ((q : Int) % (18446744073709551616 : Int)) = _
    exact Int.emod_eq_of_lt (Int.natCast_nonneg q) h5
  refine Hs.bin (op := .shl) (T := 147) (k := .u64) (k' := .i64) (a := 1) (b := IntKind.i64.wrap (op - 30)) (.int .u64 (IntKind.u64.wrap ((1 : Int) * 2 ^ min (IntKind.i64.wrap (op - 30)).toNat 64))) (by kernel_rfl) (fun w => run_shl (by rw [e]; omega) w) ?_
  refine Hs.run0 300 (fun _ => by kernel_rfl) ?_
  exact Hs.ret (v := .int .u64 (IntKind.u64.wrap ((1 : Int) * 2 ^ min (IntKind.i64.wrap (op - 30)).toNat 64))) Tryz.func133 (by kernel_rfl) fun w' H => ⟨by rw [e, e2], H.only⟩
def TM.chr (t : TM) (op : Nat) : Int := if t.ch op == 255 then 0 else t.ch op
def TM.on (t : TM) (op : Nat) : Bool := !(t.ch op == 255)
def TM.is (t : TM) (op : Nat) (c : Int) : Bool := t.on op && c == t.ch op
theorem set_any (t : TM) (op : Int) (on : Bool) (w : World) : Calls Tryz.prog 114 #[t.val, .int .i64 op, .bool on] w fun e w' => e = .returned (t.set op on).val ∧ Only [] w w' := by
  obtain ⟨ch, fl, inn, out, mn, tm⟩ := t
  refine Hs.enter Tryz.func114 [] [] [] [.g (TM.sc ⟨ch, fl, inn, out, mn, tm⟩), .c (.v (.int .i64 op)), .c (.v (.bool on))] (Mem.start0 w) (by kernel_rfl) (by kernel_rfl) ?_
  refine Hs.run2 300 (fun _ => by kernel_rfl) fun b0 b1 => ?_
  refine Hs.callV (fun w' H => isFlag_any op w') (by kernel_rfl) ?_
  refine Hs.run0 300 (fun _ => by kernel_rfl) ?_
  refine Hs.cond (!isFlagB op) (by kernel_rfl) (fun h => ?_) (fun h => ?_)
  · refine Hs.run0 300 (fun _ => by kernel_rfl) ?_
    exact Hs.ret (v := TM.val ⟨ch, fl, inn, out, mn, tm⟩) Tryz.func114 (by kernel_rfl) fun w' H => ⟨by
      have h : isFlagB op = false := by simpa using h
      simp only [TM.set, setI, h, Bool.false_eq_true, if_false], H.only⟩
  have h : isFlagB op = true := by simpa using h
  obtain ⟨h1, h2⟩ := flag_lo h
  refine Hs.run0 300 (fun _ => by kernel_rfl) ?_
  refine Hs.cond on (by kernel_rfl) (fun ho => ?_) (fun ho => ?_)
  · refine Hs.run0 300 (fun _ => by kernel_rfl) ?_
    refine Hs.any [0, 1006] (by kernel_rfl) ?_
    refine Hs.run0 300 (fun _ => by kernel_rfl) ?_
    refine Hs.callV (fun w' H => bit_any op h1 h2 w') (by kernel_rfl) ?_
    refine Hs.run0 300 (fun _ => by kernel_rfl) ?_
    exact Hs.ret (v := TM.val ⟨ch, IntKind.u64.wrap (((BitVec.ofInt 64 fl) ||| (BitVec.ofInt 64 (bitI op))).toNat), inn, out, mn, tm⟩) Tryz.func114 (by kernel_rfl) fun w' H => ⟨by subst ho; simp only [TM.set, setI, h, if_true], H.only⟩
  · refine Hs.run0 300 (fun _ => by kernel_rfl) ?_
    refine Hs.any [0, 1006] (by kernel_rfl) ?_
    refine Hs.run0 300 (fun _ => by kernel_rfl) ?_
    refine Hs.callV (fun w' H => bit_any op h1 h2 w') (by kernel_rfl) ?_
    refine Hs.run0 300 (fun _ => by kernel_rfl) ?_
    exact Hs.ret (v := TM.val ⟨ch, IntKind.u64.wrap (((BitVec.ofInt 64 fl) &&& ~~~(BitVec.ofInt 64 (bitI op))).toNat), inn, out, mn, tm⟩) Tryz.func114 (by kernel_rfl) fun w' H => ⟨by subst ho; simp only [TM.set, setI, h, if_true, Bool.false_eq_true, if_false], H.only⟩
end Go.Proofs.YtmmcamkmglpgiaaGreatDoor

namespace Go.Proofs.YtmmcamkmglpgiaaGreatDoor
open Go.RowKit
set_option linter.all false
set_option maxRecDepth 100000
def plV (p q : Int) : Value := .agg #[.int .i64 p, .int .i64 q]
def opA (o : OP9) : Value := .agg (cOP o).toArray
abbrev RetB (b : Bool) (w : World) : Ending → World → Prop := fun e w' => e = .returned (.bool b) ∧ Only [] w w'

theorem plCode_any (p q : Int) (o : OP9) (w : World) : Calls Tryz.prog 65 #[plV p q, opA o] w (RetB (withinB o.a 0 255) w) := by
  refine Hs.enter Tryz.func65 [] [] [] [.g [.v (.int .i64 p), .v (.int .i64 q)], .g o.sc] (Mem.start0 w) (by kernel_rfl) (by kernel_rfl) ?_
  refine Hs.run2 300 (fun _ => by kernel_rfl) fun b0 b1 => ?_
  refine Hs.callV (v := .bool (withinB o.a 0 255)) (fun w' H => within_any _ _ _ w') (by kernel_rfl) ?_
  refine Hs.run0 300 (fun _ => by kernel_rfl) ?_
  exact Hs.ret (v := .bool (withinB o.a 0 255)) Tryz.func65 (by kernel_rfl) fun w' H => ⟨rfl, H.only⟩

theorem plCount_any (p q : Int) (o : OP9) (w : World) : Calls Tryz.prog 67 #[plV p q, opA o] w (RetB (withinB o.a 1 1024) w) := by
  refine Hs.enter Tryz.func67 [] [] [] [.g [.v (.int .i64 p), .v (.int .i64 q)], .g o.sc] (Mem.start0 w) (by kernel_rfl) (by kernel_rfl) ?_
  refine Hs.run2 300 (fun _ => by kernel_rfl) fun b0 b1 => ?_
  refine Hs.callV (v := .bool (withinB o.a 1 1024)) (fun w' H => within_any _ _ _ w') (by kernel_rfl) ?_
  refine Hs.run0 300 (fun _ => by kernel_rfl) ?_
  exact Hs.ret (v := .bool (withinB o.a 1 1024)) Tryz.func67 (by kernel_rfl) fun w' H => ⟨rfl, H.only⟩

theorem plFlags_any (p q : Int) (o : OP9) (w : World) : Calls Tryz.prog 69 #[plV p q, opA o] w (RetB (withinB o.a 0 3) w) := by
  refine Hs.enter Tryz.func69 [] [] [] [.g [.v (.int .i64 p), .v (.int .i64 q)], .g o.sc] (Mem.start0 w) (by kernel_rfl) (by kernel_rfl) ?_
  refine Hs.run2 300 (fun _ => by kernel_rfl) fun b0 b1 => ?_
  refine Hs.callV (v := .bool (withinB o.a 0 3)) (fun w' H => within_any _ _ _ w') (by kernel_rfl) ?_
  refine Hs.run0 300 (fun _ => by kernel_rfl) ?_
  exact Hs.ret (v := .bool (withinB o.a 0 3)) Tryz.func69 (by kernel_rfl) fun w' H => ⟨rfl, H.only⟩

theorem plWhose_any (p q : Int) (o : OP9) (w : World) : Calls Tryz.prog 71 #[plV p q, opA o] w (RetB (withinB o.a 0 2) w) := by
  refine Hs.enter Tryz.func71 [] [] [] [.g [.v (.int .i64 p), .v (.int .i64 q)], .g o.sc] (Mem.start0 w) (by kernel_rfl) (by kernel_rfl) ?_
  refine Hs.run2 300 (fun _ => by kernel_rfl) fun b0 b1 => ?_
  refine Hs.callV (v := .bool (withinB o.a 0 2)) (fun w' H => within_any _ _ _ w') (by kernel_rfl) ?_
  refine Hs.run0 300 (fun _ => by kernel_rfl) ?_
  exact Hs.ret (v := .bool (withinB o.a 0 2)) Tryz.func71 (by kernel_rfl) fun w' H => ⟨rfl, H.only⟩

theorem plEither_any (p q : Int) (o : OP9) (w : World) : Calls Tryz.prog 73 #[plV p q, opA o] w (RetB (withinB o.a 0 1) w) := by
  refine Hs.enter Tryz.func73 [] [] [] [.g [.v (.int .i64 p), .v (.int .i64 q)], .g o.sc] (Mem.start0 w) (by kernel_rfl) (by kernel_rfl) ?_
  refine Hs.run2 300 (fun _ => by kernel_rfl) fun b0 b1 => ?_
  refine Hs.callV (v := .bool (withinB o.a 0 1)) (fun w' H => within_any _ _ _ w') (by kernel_rfl) ?_
  refine Hs.run0 300 (fun _ => by kernel_rfl) ?_
  exact Hs.ret (v := .bool (withinB o.a 0 1)) Tryz.func73 (by kernel_rfl) fun w' H => ⟨rfl, H.only⟩

theorem plTime_any (p q : Int) (o : OP9) (w : World) : Calls Tryz.prog 76 #[plV p q, opA o] w (RetB (withinB o.a 0 1000) w) := by
  refine Hs.enter Tryz.func76 [] [] [] [.g [.v (.int .i64 p), .v (.int .i64 q)], .g o.sc] (Mem.start0 w) (by kernel_rfl) (by kernel_rfl) ?_
  refine Hs.run2 300 (fun _ => by kernel_rfl) fun b0 b1 => ?_
  refine Hs.callV (v := .bool (withinB o.a 0 1000)) (fun w' H => within_any _ _ _ w') (by kernel_rfl) ?_
  refine Hs.run0 300 (fun _ => by kernel_rfl) ?_
  exact Hs.ret (v := .bool (withinB o.a 0 1000)) Tryz.func76 (by kernel_rfl) fun w' H => ⟨rfl, H.only⟩

def shortB (o : OP9) : Bool := decide ((o.t.size : Int) ≤ 1024)
theorem plShort_any (p q : Int) (o : OP9) (w : World) : Calls Tryz.prog 66 #[plV p q, opA o] w (RetB (shortB o) w) := by
  refine Hs.enter Tryz.func66 [] [] [] [.g [.v (.int .i64 p), .v (.int .i64 q)], .g o.sc] (Mem.start0 w) (by kernel_rfl) (by kernel_rfl) ?_
  refine Hs.run2 300 (fun _ => by kernel_rfl) fun b0 b1 => ?_
  exact Hs.ret (v := .bool (shortB o)) Tryz.func66 (by kernel_rfl) fun w' H => ⟨rfl, H.only⟩

def laterB (p q a : Int) : Bool := decide (a > p) && decide (a < q)
theorem plLater_any (p q : Int) (o : OP9) (w : World) : Calls Tryz.prog 68 #[plV p q, opA o] w (RetB (laterB p q o.a) w) := by
  refine Hs.enter Tryz.func68 [] [] [] [.g [.v (.int .i64 p), .v (.int .i64 q)], .g o.sc] (Mem.start0 w) (by kernel_rfl) (by kernel_rfl) ?_
  refine Hs.run2 300 (fun _ => by kernel_rfl) fun b0 b1 => ?_
  refine Hs.bool 10 (decide (o.a > p)) (by kernel_rfl) (fun h => ?_) (fun h => ?_)
  · refine Hs.rung0 [5] 300 (fun _ => by kernel_rfl) ?_
    exact Hs.ret (v := .bool (decide (o.a < q))) Tryz.func68 (by kernel_rfl) fun w' H => ⟨by simp only [laterB, h, Bool.true_and], H.only⟩
  · refine Hs.rung0 [5] 300 (fun _ => by kernel_rfl) ?_
    exact Hs.ret (v := .bool false) Tryz.func68 (by kernel_rfl) fun w' H => ⟨by simp only [laterB, h, Bool.false_and], H.only⟩

theorem plAny_any (p q : Int) (o : OP9) (w : World) : Calls Tryz.prog 72 #[plV p q, opA o] w (RetB (true) w) := by
  refine Hs.enter Tryz.func72 [] [] [] [.g [.v (.int .i64 p), .v (.int .i64 q)], .g o.sc] (Mem.start0 w) (by kernel_rfl) (by kernel_rfl) ?_
  refine Hs.run2 300 (fun _ => by kernel_rfl) fun b0 b1 => ?_
  exact Hs.ret (v := .bool true) Tryz.func72 (by kernel_rfl) fun w' H => ⟨rfl, H.only⟩

theorem isSignal_any (n : Int) (w : World) : Calls Tryz.prog 96 #[.int .i64 n] w (RetB (isS n) w) := by
  refine Hs.enter Tryz.func96 [] [] [] [.c (.v (.int .i64 n))] (Mem.start0 w) (by kernel_rfl) (by kernel_rfl) ?_
  refine Hs.run0 300 (fun _ => by kernel_rfl) ?_
  refine Hs.callV (v := .tuple #[.string (if isS n then nameS n else ⟨#[]⟩), .bool (isS n)]) (fun w' H => name_any18 n w') (by kernel_rfl) ?_
  refine Hs.run0 300 (fun _ => by kernel_rfl) ?_
  exact Hs.ret (v := .bool (isS n)) Tryz.func96 (by kernel_rfl) fun w' H => ⟨rfl, H.only⟩

theorem plTarget_any (p q : Int) (o : OP9) (w : World) : Calls Tryz.prog 70 #[plV p q, opA o] w (RetB (withinB o.a 0 4 && isS o.b) w) := by
  refine Hs.enter Tryz.func70 [] [] [] [.g [.v (.int .i64 p), .v (.int .i64 q)], .g o.sc] (Mem.start0 w) (by kernel_rfl) (by kernel_rfl) ?_
  refine Hs.run2 300 (fun _ => by kernel_rfl) fun b0 b1 => ?_
  refine Hs.callV (v := .bool (withinB o.a 0 4)) (fun w' H => within_any _ _ _ w') (by kernel_rfl) ?_
  refine Hs.run0 300 (fun _ => by kernel_rfl) ?_
  refine Hs.bool 8 (withinB o.a 0 4) (by kernel_rfl) (fun h => ?_) (fun h => ?_)
  · refine Hs.rung0 [3] 300 (fun _ => by kernel_rfl) ?_
    refine Hs.callV (v := .bool (isS o.b)) (fun w' H => isSignal_any _ w') (by kernel_rfl) ?_
    refine Hs.rung0 [3] 300 (fun _ => by kernel_rfl) ?_
    exact Hs.ret (v := .bool (isS o.b)) Tryz.func70 (by kernel_rfl) fun w' H => ⟨by rw [h]; rfl, H.only⟩
  · refine Hs.rung0 [3] 300 (fun _ => by kernel_rfl) ?_
    exact Hs.ret (v := .bool false) Tryz.func70 (by kernel_rfl) fun w' H => ⟨by rw [h]; rfl, H.only⟩

theorem plMask_any (p q : Int) (o : OP9) (w : World) : Calls Tryz.prog 75 #[plV p q, opA o] w (RetB (isS o.a && withinB o.b 0 1) w) := by
  refine Hs.enter Tryz.func75 [] [] [] [.g [.v (.int .i64 p), .v (.int .i64 q)], .g o.sc] (Mem.start0 w) (by kernel_rfl) (by kernel_rfl) ?_
  refine Hs.run2 300 (fun _ => by kernel_rfl) fun b0 b1 => ?_
  refine Hs.callV (v := .bool (isS o.a)) (fun w' H => isSignal_any _ w') (by kernel_rfl) ?_
  refine Hs.run0 300 (fun _ => by kernel_rfl) ?_
  refine Hs.bool 8 (isS o.a) (by kernel_rfl) (fun h => ?_) (fun h => ?_)
  · refine Hs.rung0 [3] 300 (fun _ => by kernel_rfl) ?_
    refine Hs.callV (v := .bool (withinB o.b 0 1)) (fun w' H => within_any _ _ _ w') (by kernel_rfl) ?_
    refine Hs.rung0 [3] 300 (fun _ => by kernel_rfl) ?_
    exact Hs.ret (v := .bool (withinB o.b 0 1)) Tryz.func75 (by kernel_rfl) fun w' H => ⟨by rw [h]; rfl, H.only⟩
  · refine Hs.rung0 [3] 300 (fun _ => by kernel_rfl) ?_
    exact Hs.ret (v := .bool false) Tryz.func75 (by kernel_rfl) fun w' H => ⟨by rw [h]; rfl, H.only⟩

def tm0 : TM := ⟨fun _ => 0, 0, 0, 0, 0, 0⟩
theorem flag_cases {n : Int} (h : isFlagB n = true) : n = 30 ∨ n = 31 ∨ n = 32 ∨ n = 33 ∨ n = 34 ∨ n = 35 ∨ n = 36 ∨ n = 37 ∨ n = 38 ∨ n = 39 ∨ n = 40 ∨ n = 41 ∨ n = 42 ∨ n = 50 ∨ n = 51 ∨ n = 52 ∨ n = 53 ∨ n = 54 ∨ n = 55 ∨ n = 56 ∨ n = 57 ∨ n = 58 ∨ n = 59 ∨ n = 60 ∨ n = 61 ∨ n = 62 ∨ n = 70 ∨ n = 71 ∨ n = 72 ∨ n = 73 ∨ n = 74 ∨ n = 75 ∨ n = 90 ∨ n = 91 ∨ n = 92 ∨ n = 93 := by
  simp only [isFlagB, Bool.or_eq_true, Bool.and_eq_true, decide_eq_true_eq] at h
  omega
theorem flag_set (n : Int) : (!((setI 0 n true == 0) && true)) = isFlagB n := by
  cases hf : isFlagB n with
  | false => unfold setI; rw [hf]; rfl
  | true =>
    rcases flag_cases hf with rfl | rfl | rfl | rfl | rfl | rfl | rfl | rfl | rfl | rfl | rfl | rfl | rfl | rfl | rfl | rfl | rfl | rfl | rfl | rfl | rfl | rfl | rfl | rfl | rfl | rfl | rfl | rfl | rfl | rfl | rfl | rfl | rfl | rfl | rfl | rfl <;> decide
theorem isFlag9_any (n : Int) (w : World) : Calls Tryz.prog 98 #[.int .i64 n] w (RetB (isFlagB n) w) := by
  refine Hs.enter Tryz.func98 [] [] [] [.c (.v (.int .i64 n))] (Mem.start0 w) (by kernel_rfl) (by kernel_rfl) ?_
  refine Hs.run1 300 (fun _ => by kernel_rfl) fun b0 => ?_
  refine Hs.any [0] (by kernel_rfl) ?_
  refine Hs.run0 300 (fun _ => by kernel_rfl) ?_
  refine Hs.callV (v := (tm0.set n true).val) (fun w' H => set_any tm0 n true w') (by kernel_rfl) ?_
  refine Hs.sel1 4 (by kernel_rfl) ?_
  refine Hs.cmp (op := .neq) (T := 150) (tm0.set n true).cells.toArray tm0.cells.toArray ((setI 0 n true == 0) && true) (!((setI 0 n true == 0) && true)) (by kernel_rfl) (.inr ⟨rfl, rfl⟩) (by kernel_rfl) (by kernel_rfl) ?_
  refine Hs.run0 300 (fun _ => by kernel_rfl) ?_
  exact Hs.ret (v := .bool (!((setI 0 n true == 0) && true))) Tryz.func98 (by kernel_rfl) fun w' H => ⟨by rw [flag_set], H.only⟩

def sureB (n : Int) : Bool := decide (n = 9) || decide (n = 19)
theorem sure_any (n : Int) (w : World) : Calls Tryz.prog 113 #[.int .i64 n] w (RetB (sureB n) w) := by
  refine Hs.enter Tryz.func113 [] [] [] [.c (.v (.int .i64 n))] (Mem.start0 w) (by kernel_rfl) (by kernel_rfl) ?_
  refine Hs.run0 300 (fun _ => by kernel_rfl) ?_
  refine Hs.bool 5 (decide (n = 9)) (by kernel_rfl) (fun h => ?_) (fun h => ?_)
  · refine Hs.rung0 [2] 300 (fun _ => by kernel_rfl) ?_
    exact Hs.ret (v := .bool true) Tryz.func113 (by kernel_rfl) fun w' H => ⟨by simp only [sureB, h, Bool.true_or], H.only⟩
  · refine Hs.rung0 [2] 300 (fun _ => by kernel_rfl) ?_
    exact Hs.ret (v := .bool (decide (n = 19))) Tryz.func113 (by kernel_rfl) fun w' H => ⟨by simp only [sureB, h, Bool.false_or], H.only⟩

end Go.Proofs.YtmmcamkmglpgiaaGreatDoor

namespace Go.Proofs.YtmmcamkmglpgiaaGreatDoor
open Go.RowKit
set_option linter.all false
set_option maxRecDepth 100000
def actV (A : Nat → Int) : Value := .agg #[.int .i64 (A 0), .int .i64 (A 1), .int .i64 (A 2), .int .i64 (A 3), .int .i64 (A 4), .int .i64 (A 5), .int .i64 (A 6), .int .i64 (A 7), .int .i64 (A 8), .int .i64 (A 9), .int .i64 (A 10), .int .i64 (A 11), .int .i64 (A 12), .int .i64 (A 13), .int .i64 (A 14), .int .i64 (A 15), .int .i64 (A 16), .int .i64 (A 17), .int .i64 (A 18), .int .i64 (A 19), .int .i64 (A 20), .int .i64 (A 21), .int .i64 (A 22), .int .i64 (A 23), .int .i64 (A 24), .int .i64 (A 25), .int .i64 (A 26), .int .i64 (A 27), .int .i64 (A 28), .int .i64 (A 29), .int .i64 (A 30), .int .i64 (A 31)]
def actOk (sig how : Int) : Bool := isS sig && (!sureB sig && withinB how 0 2)
theorem sig_cases {n : Int} (h : isS n = true) (h2 : sureB n = false) : n = 1 ∨ n = 2 ∨ n = 3 ∨ n = 4 ∨ n = 5 ∨ n = 6 ∨ n = 7 ∨ n = 8 ∨ n = 10 ∨ n = 11 ∨ n = 12 ∨ n = 13 ∨ n = 14 ∨ n = 15 ∨ n = 17 ∨ n = 18 ∨ n = 20 ∨ n = 21 ∨ n = 22 ∨ n = 28 := by
  simp only [isS, sureB, Bool.or_eq_true, Bool.and_eq_true, Bool.or_eq_false_iff, decide_eq_true_eq, decide_eq_false_iff_not] at h h2
  omega
abbrev ActR (sig how : Int) (w : World) : Ending → World → Prop := fun e w' => ∃ A : Nat → Int, e = .returned (.tuple #[actV A, .int .i64 (if actOk sig how then 0 else 2)]) ∧ Only [] w w' ∧ True
theorem sgAct_any (sig how : Int) (w : World) : Calls Tryz.prog 97 #[actV (fun _ => 0), .int .i64 sig, .int .i64 how] w (ActR sig how w) := by
  have hC := fun w => is_any18 sig w
  have hD := fun w => sure_any sig w
  refine Hs.enter Tryz.func97 [] [] [] [.c (.v (actV (fun _ => 0))), .c (.v (.int .i64 sig)), .c (.v (.int .i64 how))] (Mem.start0 w) (by kernel_rfl) (by kernel_rfl) ?_
  refine Hs.run2 300 (fun _ => by kernel_rfl) fun b0 b1 => ?_
  cases hS : isS sig with
  | false =>
    rw [hS] at hC
    have hok : actOk sig how = false := by unfold actOk; rw [hS]; rfl
    refine Hs.callV (v := .bool false) (fun w' H => hC w') (by kernel_rfl) ?_
    refine Hs.run0 300 (fun _ => by kernel_rfl) ?_
    refine Hs.rung0 [3] 300 (fun _ => by kernel_rfl) ?_
    refine Hs.rung0 [3, 7] 300 (fun _ => by kernel_rfl) ?_
    refine Hs.rung0 [3, 7, 11] 300 (fun _ => by kernel_rfl) ?_
    refine Hs.condT (by kernel_rfl) ?_
    refine Hs.run0 300 (fun _ => by kernel_rfl) ?_
    exact Hs.ret (v := .tuple #[actV (fun _ => 0), .int .i64 2]) Tryz.func97 (by kernel_rfl) fun w' H => ⟨fun _ => 0, by rw [hok]; rfl, H.only, trivial⟩
  | true =>
    rw [hS] at hC
    refine Hs.callV (v := .bool true) (fun w' H => hC w') (by kernel_rfl) ?_
    refine Hs.run0 300 (fun _ => by kernel_rfl) ?_
    refine Hs.rung0 [3] 300 (fun _ => by kernel_rfl) ?_
    cases hU : sureB sig with
    | true =>
      rw [hU] at hD
      have hok : actOk sig how = false := by unfold actOk; rw [hS, hU]; rfl
      refine Hs.callV (v := .bool true) (fun w' H => hD w') (by kernel_rfl) ?_
      refine Hs.rung0 [3] 300 (fun _ => by kernel_rfl) ?_
      refine Hs.rung0 [3, 7] 300 (fun _ => by kernel_rfl) ?_
      refine Hs.rung0 [3, 7, 11] 300 (fun _ => by kernel_rfl) ?_
      refine Hs.condT (by kernel_rfl) ?_
      refine Hs.run0 300 (fun _ => by kernel_rfl) ?_
      exact Hs.ret (v := .tuple #[actV (fun _ => 0), .int .i64 2]) Tryz.func97 (by kernel_rfl) fun w' H => ⟨fun _ => 0, by rw [hok]; rfl, H.only, trivial⟩
    | false =>
      rw [hU] at hD
      refine Hs.callV (v := .bool false) (fun w' H => hD w') (by kernel_rfl) ?_
      refine Hs.rung0 [3] 300 (fun _ => by kernel_rfl) ?_
      refine Hs.rung0 [3, 7] 300 (fun _ => by kernel_rfl) ?_
      refine Hs.bool 19 (decide (how < 0)) (by kernel_rfl) (fun h => ?_) (fun h => ?_)
      · have hok : actOk sig how = false := by
          have := of_decide_eq_true h
          unfold actOk withinB; rw [show decide (0 ≤ how) = false from decide_eq_false (by omega)]; simp
        refine Hs.rung0 [3, 7, 11] 300 (fun _ => by kernel_rfl) ?_
        refine Hs.condT (by kernel_rfl) ?_
        refine Hs.run0 300 (fun _ => by kernel_rfl) ?_
        exact Hs.ret (v := .tuple #[actV (fun _ => 0), .int .i64 2]) Tryz.func97 (by kernel_rfl) fun w' H => ⟨fun _ => 0, by rw [hok]; rfl, H.only, trivial⟩
      have h0 := of_decide_eq_false h
      refine Hs.rung0 [3, 7, 11] 300 (fun _ => by kernel_rfl) ?_
      refine Hs.condP (how > 2) (by kernel_rfl) (fun h2 => ?_) (fun h2 => ?_)
      · have hok : actOk sig how = false := by
          unfold actOk withinB; rw [show decide (how ≤ 2) = false from decide_eq_false (by omega)]; simp
        refine Hs.run0 300 (fun _ => by kernel_rfl) ?_
        exact Hs.ret (v := .tuple #[actV (fun _ => 0), .int .i64 2]) Tryz.func97 (by kernel_rfl) fun w' H => ⟨fun _ => 0, by rw [hok]; rfl, H.only, trivial⟩
      have hok : actOk sig how = true := by
        unfold actOk withinB; rw [hS, hU, show decide (how ≤ 2) = true from decide_eq_true (by omega), show decide (0 ≤ how) = true from decide_eq_true (by omega)]; rfl
      have e1 : ActR sig how w = fun e w' => ∃ A : Nat → Int, e = .returned (.tuple #[actV A, .int .i64 0]) ∧ Only [] w w' ∧ True := by
        unfold ActR; rw [hok]; rfl
      rw [e1]
      clear hC hD hok e1 h0 h h2
      rcases sig_cases hS hU with rfl | rfl | rfl | rfl | rfl | rfl | rfl | rfl | rfl | rfl | rfl | rfl | rfl | rfl | rfl | rfl | rfl | rfl | rfl | rfl
      · refine Hs.run0 300 (fun _ => by kernel_rfl) ?_
        exact Hs.ret (v := .tuple #[actV fun i => if i = 1 then how else 0, .int .i64 0]) Tryz.func97 (by kernel_rfl) fun w' H => ⟨fun i => if i = 1 then how else 0, rfl, H.only, trivial⟩
      · refine Hs.run0 300 (fun _ => by kernel_rfl) ?_
        exact Hs.ret (v := .tuple #[actV fun i => if i = 2 then how else 0, .int .i64 0]) Tryz.func97 (by kernel_rfl) fun w' H => ⟨fun i => if i = 2 then how else 0, rfl, H.only, trivial⟩
      · refine Hs.run0 300 (fun _ => by kernel_rfl) ?_
        exact Hs.ret (v := .tuple #[actV fun i => if i = 3 then how else 0, .int .i64 0]) Tryz.func97 (by kernel_rfl) fun w' H => ⟨fun i => if i = 3 then how else 0, rfl, H.only, trivial⟩
      · refine Hs.run0 300 (fun _ => by kernel_rfl) ?_
        exact Hs.ret (v := .tuple #[actV fun i => if i = 4 then how else 0, .int .i64 0]) Tryz.func97 (by kernel_rfl) fun w' H => ⟨fun i => if i = 4 then how else 0, rfl, H.only, trivial⟩
      · refine Hs.run0 300 (fun _ => by kernel_rfl) ?_
        exact Hs.ret (v := .tuple #[actV fun i => if i = 5 then how else 0, .int .i64 0]) Tryz.func97 (by kernel_rfl) fun w' H => ⟨fun i => if i = 5 then how else 0, rfl, H.only, trivial⟩
      · refine Hs.run0 300 (fun _ => by kernel_rfl) ?_
        exact Hs.ret (v := .tuple #[actV fun i => if i = 6 then how else 0, .int .i64 0]) Tryz.func97 (by kernel_rfl) fun w' H => ⟨fun i => if i = 6 then how else 0, rfl, H.only, trivial⟩
      · refine Hs.run0 300 (fun _ => by kernel_rfl) ?_
        exact Hs.ret (v := .tuple #[actV fun i => if i = 7 then how else 0, .int .i64 0]) Tryz.func97 (by kernel_rfl) fun w' H => ⟨fun i => if i = 7 then how else 0, rfl, H.only, trivial⟩
      · refine Hs.run0 300 (fun _ => by kernel_rfl) ?_
        exact Hs.ret (v := .tuple #[actV fun i => if i = 8 then how else 0, .int .i64 0]) Tryz.func97 (by kernel_rfl) fun w' H => ⟨fun i => if i = 8 then how else 0, rfl, H.only, trivial⟩
      · refine Hs.run0 300 (fun _ => by kernel_rfl) ?_
        exact Hs.ret (v := .tuple #[actV fun i => if i = 10 then how else 0, .int .i64 0]) Tryz.func97 (by kernel_rfl) fun w' H => ⟨fun i => if i = 10 then how else 0, rfl, H.only, trivial⟩
      · refine Hs.run0 300 (fun _ => by kernel_rfl) ?_
        exact Hs.ret (v := .tuple #[actV fun i => if i = 11 then how else 0, .int .i64 0]) Tryz.func97 (by kernel_rfl) fun w' H => ⟨fun i => if i = 11 then how else 0, rfl, H.only, trivial⟩
      · refine Hs.run0 300 (fun _ => by kernel_rfl) ?_
        exact Hs.ret (v := .tuple #[actV fun i => if i = 12 then how else 0, .int .i64 0]) Tryz.func97 (by kernel_rfl) fun w' H => ⟨fun i => if i = 12 then how else 0, rfl, H.only, trivial⟩
      · refine Hs.run0 300 (fun _ => by kernel_rfl) ?_
        exact Hs.ret (v := .tuple #[actV fun i => if i = 13 then how else 0, .int .i64 0]) Tryz.func97 (by kernel_rfl) fun w' H => ⟨fun i => if i = 13 then how else 0, rfl, H.only, trivial⟩
      · refine Hs.run0 300 (fun _ => by kernel_rfl) ?_
        exact Hs.ret (v := .tuple #[actV fun i => if i = 14 then how else 0, .int .i64 0]) Tryz.func97 (by kernel_rfl) fun w' H => ⟨fun i => if i = 14 then how else 0, rfl, H.only, trivial⟩
      · refine Hs.run0 300 (fun _ => by kernel_rfl) ?_
        exact Hs.ret (v := .tuple #[actV fun i => if i = 15 then how else 0, .int .i64 0]) Tryz.func97 (by kernel_rfl) fun w' H => ⟨fun i => if i = 15 then how else 0, rfl, H.only, trivial⟩
      · refine Hs.run0 300 (fun _ => by kernel_rfl) ?_
        exact Hs.ret (v := .tuple #[actV fun i => if i = 17 then how else 0, .int .i64 0]) Tryz.func97 (by kernel_rfl) fun w' H => ⟨fun i => if i = 17 then how else 0, rfl, H.only, trivial⟩
      · refine Hs.run0 300 (fun _ => by kernel_rfl) ?_
        exact Hs.ret (v := .tuple #[actV fun i => if i = 18 then how else 0, .int .i64 0]) Tryz.func97 (by kernel_rfl) fun w' H => ⟨fun i => if i = 18 then how else 0, rfl, H.only, trivial⟩
      · refine Hs.run0 300 (fun _ => by kernel_rfl) ?_
        exact Hs.ret (v := .tuple #[actV fun i => if i = 20 then how else 0, .int .i64 0]) Tryz.func97 (by kernel_rfl) fun w' H => ⟨fun i => if i = 20 then how else 0, rfl, H.only, trivial⟩
      · refine Hs.run0 300 (fun _ => by kernel_rfl) ?_
        exact Hs.ret (v := .tuple #[actV fun i => if i = 21 then how else 0, .int .i64 0]) Tryz.func97 (by kernel_rfl) fun w' H => ⟨fun i => if i = 21 then how else 0, rfl, H.only, trivial⟩
      · refine Hs.run0 300 (fun _ => by kernel_rfl) ?_
        exact Hs.ret (v := .tuple #[actV fun i => if i = 22 then how else 0, .int .i64 0]) Tryz.func97 (by kernel_rfl) fun w' H => ⟨fun i => if i = 22 then how else 0, rfl, H.only, trivial⟩
      · refine Hs.run0 300 (fun _ => by kernel_rfl) ?_
        exact Hs.ret (v := .tuple #[actV fun i => if i = 28 then how else 0, .int .i64 0]) Tryz.func97 (by kernel_rfl) fun w' H => ⟨fun i => if i = 28 then how else 0, rfl, H.only, trivial⟩
end Go.Proofs.YtmmcamkmglpgiaaGreatDoor

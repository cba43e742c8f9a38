/- Layer 19: the operation that a line says; for all lines; where the library's tables hold what they hold · Layer 19: what is asked of an operation, kind by kind; for all operations; no condition · Layers 18, 19: an action's change; whether an operation may be; for all operations; no condition · Layer 19: whether an operation may be; for all operations; no condition · Layer 19: what is wrong with a program; for all programs; no condition but lengths · Layer 19: what is wrong with programs; for all programs; no condition but lengths · Layer 19: what a line makes of programs, in plain words; the library's functions that Parse calls; no condition but lengths · Layer 19: a text that says programs, in plain words: what is read is printed as it came; no condition. -/
import Derived.Test.YtmmcamkmglpgiaaGreatDoorPgA
import Derived.Test.YtmmcamkmglpgiaaGreatDoorPxA
import Derived.Test.YtmmcamkmglpgiaaGreatDoorPxB
import Derived.Test.YtmmcamkmglpgiaaGreatDoorEngAN
import Derived.Shelf.Strings.SlTrimAscii
import Derived.Test.YtmmcamkmglpgiaaGreatDoorEngL
namespace Go.Proofs.YtmmcamkmglpgiaaGreatDoor
open Go.RowKit
set_option linter.all false
set_option maxRecDepth 100000
section
variable {P : Program} {f : FR} {R : Ending → World → Prop} {n : Nat} {w0 : World} {L : List Nat} {β : List Nat} {m : SM}
def strM (P : Program) (n : Nat) (m : SM) : SM := (strK P n m).getD m
/-- Texts compared, a row indexed, a slice of a whole array. -/
theorem Hs.xk (hs : (strK P n m).isSome = true) (h : Hs P f R n w0 L β (strM P n m)) : Hs P f R n w0 L β m := by
  obtain ⟨m', hm'⟩ := Option.isSome_iff_exists.1 hs
  unfold strM at h
  rw [hm'] at h
  have h : Hs P f R n w0 L β m' := h
  refine ⟨fun w H W => ?_⟩
  obtain ⟨h1, h2, h3⟩ := strK_sound (P := P) (f := f) (R := R) (β := β) hm' H W
  exact h3 (h.go w (by rw [h1]; exact H) h2)
end
def zero9 : OP9 := ⟨0, 0, 0, ⟨#[]⟩⟩
def shK (k : Int) : Int := match sortRows[k.toNat]? with
  | some r => r.2.1
  | none => 0
def opN (k : Int) : List (List UInt8) → Option OP9
  | [] => some ⟨k, 0, 0, ⟨#[]⟩⟩
  | [a] => match numOk a with
    | true => some ⟨k, atoiN a, 0, ⟨#[]⟩⟩
    | false => none
  | a :: b :: _ => match numOk a with
    | true => match numOk b with
      | true => some ⟨k, atoiN a, atoiN b, ⟨#[]⟩⟩
      | false => none
    | false => none
def opT (k : Int) : List (List UInt8) → OP9 × Bool
  | [a] => match readB (a.length + 1) a [] with
    | some o => (⟨k, 0, 0, strL o⟩, true)
    | none => (⟨k, 0, 0, ⟨#[]⟩⟩, false)
  | _ => (zero9, false)
/-- The operation that a line says; false: none. -/
def opW : List (List UInt8) → OP9 × Bool
  | [] => (zero9, false)
  | x :: r => match decide (ixI x < 1) with
    | true => (zero9, false)
    | false => match shK (ixI x) == 3 with
      | true => opT (ixI x) r
      | false => match decide (((r.length + 1 : Nat) : Int) = 1 + shK (ixI x)) with
        | false => (zero9, false)
        | true => match opN (ixI x) r with
          | some o => (o, true)
          | none => (zero9, false)
theorem opW_cons (x : List UInt8) (r : List (List UInt8)) : opW (x :: r) = match decide (ixI x < 1) with
    | true => (zero9, false)
    | false => match shK (ixI x) == 3 with
      | true => opT (ixI x) r
      | false => match decide (((r.length + 1 : Nat) : Int) = 1 + shK (ixI x)) with
        | false => (zero9, false)
        | true => match opN (ixI x) r with
          | some o => (o, true)
          | none => (zero9, false) := rfl
def opB (s : List UInt8) : OP9 × Bool := opW (cutS s)
def opV (o : OP9 × Bool) : Value := .tuple #[.agg (cOP o.1).toArray, .bool o.2]
theorem ixF_lt (x : List UInt8) : ∀ (l : List SoR) (i : Nat), ixF x l i = -1 ∨ ∃ j r, l[j]? = some r ∧ ixF x l i = ((i + j : Nat) : Int)
  | [], i => .inl rfl
  | r :: l, i => by
    unfold ixF
    cases r.1 == x with
    | true => exact .inr ⟨0, r, rfl, rfl⟩
    | false =>
      rcases ixF_lt x l (i + 1) with h | ⟨j, q, h1, h2⟩
      · exact .inl h
      · exact .inr ⟨j + 1, q, h1, by dsimp only; rw [h2]; congr 1; omega⟩
theorem ix_row {x : List UInt8} (h : ¬ ixI x < 1) : ∃ (k : Nat) (r : SoR), ixI x = (k : Int) ∧ 1 ≤ k ∧ k < 17 ∧ sortRows[k]? = some r ∧ shK (ixI x) = r.2.1 := by
  rcases ixF_lt x sortRows 0 with h1 | ⟨j, r, h1, h2⟩
  · exact absurd (show ixI x < 1 by show ixF x sortRows 0 < 1; rw [h1]; decide) h
  · rw [Nat.zero_add] at h2
    have h3 : ixI x = (j : Int) := h2
    have h4 := (List.getElem?_eq_some_iff.1 h1).1
    refine ⟨j, r, h3, by omega, h4, h1, ?_⟩
    unfold shK
    rw [h3, Int.toNat_natCast, h1]
theorem sh_cases {k : Nat} {r : SoR} (h : sortRows[k]? = some r) : r.2.1 = 0 ∨ r.2.1 = 1 ∨ r.2.1 = 2 ∨ r.2.1 = 3 := by
  have hm := List.mem_of_getElem? h
  unfold sortRows at hm
  simp only [List.mem_cons, List.not_mem_nil, or_false] at hm
  rcases hm with rfl | rfl | rfl | rfl | rfl | rfl | rfl | rfl | rfl | rfl | rfl | rfl | rfl | rfl | rfl | rfl | rfl <;> simp
theorem flat3 : ∀ (l : List SoR) (k : Nat) (r : SoR), l[k]? = some r → (l.flatMap cS)[k * 3 + 1]? = some (.int .i64 r.2.1)
  | [], k, r, h => by simp at h
  | x :: l, 0, r, h => by simp at h; subst h; rfl
  | x :: l, k + 1, r, h => by
    have := flat3 l k r (by simpa using h)
    rw [List.flatMap_cons, List.getElem?_append_right (by rw [cS_len]; omega), cS_len]
    rw [← this]
    congr 1
    omega
theorem sortC_get {k : Nat} {r : SoR} (h : sortRows[k]? = some r) : sortC[k * 3 + 1]? = some (.int .i64 r.2.1) := flat3 _ k r h
set_option maxHeartbeats 4000000 in
theorem op_any19 (s : List UInt8) (hs : s.length ≤ 1000000) (w : World) (hS : SLib w) : Calls Tryz.prog 37 #[.string (strL s)] w fun e w' => e = .returned (opV (opB s)) ∧ Only [] w w' := by
  obtain ⟨x, rest, hcut⟩ := cutS_ne s
  have hlen : ∀ y ∈ cutS s, y.length ≤ s.length := cutS_len s
  have hB : opB s = opW (x :: rest) := by unfold opB; rw [hcut]
  rw [hB]
  have hsp := fun w hS => split_any19 s (by omega) w hS
  rw [hcut] at hsp hlen
  clear hB
  refine Hs.enter Tryz.func37 [] [] [] [.c (.v (.string (strL s)))] (Mem.start0 w) (by kernel_rfl) (by kernel_rfl) ?_
  refine Hs.run1 300 (fun _ => by kernel_rfl) fun b0 => ?_
  refine Hs.callNB 9 (.string (strL x) :: rest.map fun x => .string (strL x)) (.c (.s 1 0 (rest.length + 1) (rest.length + 1))) (fun w' H => (hsp w' (hS.only H.only)).mono ?_) (by kernel_rfl) (by kernel_rfl) (by kernel_rfl) fun b1 => ?_
  · rintro e w2 ⟨rfl, rfl⟩
    exact ⟨w'.heap.size, rfl, (Only.refl [] w').alloc _, Nat.le_refl _, Blk.new w' _ _⟩
  refine Hs.run1 300 (fun _ => by kernel_rfl) fun b2 => ?_
  refine Hs.callV (v := .agg sortC.toArray) (fun w' H => sorts_any w') (by kernel_rfl) ?_
  refine Hs.run1 300 (fun _ => by kernel_rfl) fun b3 => ?_
  refine Hs.xk (by kernel_rfl) ?_
  refine Hs.run0 300 (fun _ => by kernel_rfl) ?_
  have hix : ∀ w', Mem w [] ([] ++ [b0] ++ [b1] ++ [b2] ++ [b3]) [.b true 36 [.v (.int .i64 0), .v (.int .i64 0), .v (.int .i64 0), .v (.string ⟨#[]⟩)], .r true 9 (.string (strL x) :: rest.map fun x => .string (strL x)), .b true 110 [.s 1 0 (rest.length + 1) (rest.length + 1)], .b true 101 (sortC.map .v)] w' → Calls Tryz.prog 58 #[.slice (some ⟨b3, 0, none⟩) 17 17, .func (.func 59) #[] #[.pointer (some ⟨b2, 0, none⟩)]] w' fun e w2 => e = .returned (.int .i64 (ixI x)) ∧ Only [] w' w2 := fun w' H => by
    have h2 : b2 ≠ b1 := fun e => by
      have := H.inj 2 1 _ _ b1 rfl rfl (by show some b2 = some b1; rw [e]) rfl
      cases this
    refine ixSort_any x (rest.map fun x => .string (strL x)) (rest.length + 1) b2 b1 b3 (by rw [List.length_map]) h2 w' (H.at 2 rfl) (H.lies 1 _ rfl) ?_
    have := H.at 3 rfl
    rw [dens_v] at this
    exact this
  refine Hs.callV (v := .int .i64 (ixI x)) (fun w' H => hix w' H) (by kernel_rfl) ?_
  clear hix
  refine Hs.run0 300 (fun _ => by kernel_rfl) ?_
  refine Hs.condP (ixI x < 1) (by kernel_rfl) (fun h => ?_) (fun h => ?_)
  · refine Hs.run0 300 (fun _ => by kernel_rfl) ?_
    have e : opW (x :: rest) = (zero9, false) := by rw [opW_cons, decide_eq_true h]
    exact Hs.ret (v := opV (zero9, false)) Tryz.func37 (by kernel_rfl) fun w' H => ⟨by rw [e], H.only⟩
  obtain ⟨k, r, hk, hk1, hk2, hr, hsh⟩ := ix_row h
  have hop : opW (x :: rest) = match r.2.1 == 3 with
      | true => opT k rest
      | false => match decide (((rest.length + 1 : Nat) : Int) = 1 + r.2.1) with
        | false => (zero9, false)
        | true => match opN k rest with
          | some o => (o, true)
          | none => (zero9, false) := by
    rw [opW_cons, decide_eq_false h, hsh, hk]
  rw [hop]
  clear hop hsh
  rw [hk]
  clear hk h hcut hsp
  have ha : arrOff Tryz.prog 101 (.c (.v (.int .i64 (k : Int)))) = some (k * 3) := by
    have hu : Tryz.prog.underlying 101 = some (.array 17 100) := by kernel_rfl
    have hz : szB Tryz.prog 100 = some 3 := by kernel_rfl
    unfold arrOff
    rw [hu]
    show (match Nat.blt k 17 with
      | true => (match szB Tryz.prog 100 with
        | some n => some (k * n)
        | none => none)
      | false => none) = some (k * 3)
    rw [blt_spec.2 hk2, hz]
  refine Hs.runR1 7 [] 300 (fun _ => by kernel_rfl) fun b4 => ?_
  refine Hs.run0 2 (fun _ => by kernel_rfl) ?_
  refine Hs.opV (.c (.v (.pointer (some ⟨b3, 0 + k * 3, none⟩)))) (s := Instr.indexAt 101 (.pointer (some ⟨b3, 0, none⟩)) (.int .i64 (k : Int))) (by kernel_rfl) rfl (fun w' _ => run_arrOff (i := .c (.v (.int .i64 (k : Int)))) (β := []) ha w') ?_
  refine Hs.run0 300 (fun _ => by kernel_rfl) ?_
  have hcell : ∀ w' : World, Blk w' b3 101 (dens ([] ++ [b0] ++ [b1] ++ [b2] ++ [b3] ++ [b4]) (sortC.map .v)) → w'.cell? ⟨b3, 0 + k * 3 + 1, none⟩ = some (.int .i64 r.2.1) := fun w' hb => by
    rw [dens_v] at hb
    rw [hb.cell]
    have h := sortC_get hr
    rw [Nat.zero_add]
    exact h
  refine Hs.ldc (E' := 97) (b := b3) (off := 0 + k * 3 + 1) (.int .i64 r.2.1) (by kernel_rfl) (fun w' H => hcell w' (H.at (wr := true) (T := 101) (cs := sortC.map .v) 3 (by kernel_rfl))) (by kernel_rfl) ?_
  clear hcell ha
  have hsc := sh_cases hr
  clear hr
  obtain ⟨rw1, rsh, rf⟩ := r
  dsimp only at hsc ⊢
  rcases hsc with rfl | rfl | rfl | rfl
  · refine Hs.run0 300 (fun _ => by kernel_rfl) ?_
    refine Hs.condF (by kernel_rfl) ?_
    refine Hs.run0 300 (fun _ => by kernel_rfl) ?_
    refine Hs.cond (!decide (((rest.length + 1 : Nat) : Int) = 1 + 0)) (by kernel_rfl) (fun h => ?_) (fun h => ?_)
    · have hres : (match (0 : Int) == 3 with
        | true => opT k rest
        | false => match decide (((rest.length + 1 : Nat) : Int) = 1 + 0) with
          | false => (zero9, false)
          | true => match opN k rest with
            | some o => (o, true)
            | none => (zero9, false)) = (zero9, false) := by
        show (match decide (((rest.length + 1 : Nat) : Int) = 1 + 0) with | false => (zero9, false) | true => _) = _
        rw [show decide (((rest.length + 1 : Nat) : Int) = 1 + 0) = false by simpa using h]
      refine Hs.run0 300 (fun _ => by kernel_rfl) ?_
      exact Hs.ret (v := opV (zero9, false)) Tryz.func37 (by kernel_rfl) fun w' H => ⟨by rw [hres], H.only⟩
    have hrest : rest = [] := by
      cases rest with
      | nil => rfl
      | cons y r => simp at h; omega
    subst hrest
    refine Hs.run1 300 (fun _ => by kernel_rfl) fun b5 => ?_
    refine Hs.opV (.c (.s 5 0 0 2)) (s := Instr.sliceAt 116 (.slice (some ⟨b5, 0, none⟩) 2 2) none (some (.int .i64 0)) none) (by kernel_rfl) (by kernel_rfl) (fun w' _ => by kernel_rfl) ?_
    refine Hs.run0 300 (fun _ => by kernel_rfl) ?_
    refine Hs.loop (by kernel_rfl) ?_
    refine Hs.run0 300 (fun _ => by kernel_rfl) ?_
    refine Hs.condF (by kernel_rfl) ?_
    refine Hs.run0 300 (fun _ => by kernel_rfl) ?_
    exact Hs.ret (v := opV (⟨k, 0, 0, ⟨#[]⟩⟩, true)) Tryz.func37 (by kernel_rfl) fun w' H => ⟨rfl, H.only⟩
  · refine Hs.run0 300 (fun _ => by kernel_rfl) ?_
    refine Hs.condF (by kernel_rfl) ?_
    refine Hs.run0 300 (fun _ => by kernel_rfl) ?_
    refine Hs.cond (!decide (((rest.length + 1 : Nat) : Int) = 1 + 1)) (by kernel_rfl) (fun h => ?_) (fun h => ?_)
    · have hres : (match (1 : Int) == 3 with
        | true => opT k rest
        | false => match decide (((rest.length + 1 : Nat) : Int) = 1 + 1) with
          | false => (zero9, false)
          | true => match opN k rest with
            | some o => (o, true)
            | none => (zero9, false)) = (zero9, false) := by
        show (match decide (((rest.length + 1 : Nat) : Int) = 1 + 1) with | false => (zero9, false) | true => _) = _
        rw [show decide (((rest.length + 1 : Nat) : Int) = 1 + 1) = false by simpa using h]
      refine Hs.run0 300 (fun _ => by kernel_rfl) ?_
      exact Hs.ret (v := opV (zero9, false)) Tryz.func37 (by kernel_rfl) fun w' H => ⟨by rw [hres], H.only⟩
    have hrest : ∃ y, rest = [y] := by
      cases rest with
      | nil => simp at h
      | cons y r => cases r with
        | nil => exact ⟨y, rfl⟩
        | cons z r => simp at h; omega
    obtain ⟨y, rfl⟩ := hrest
    have hy := hlen y (by simp)
    refine Hs.run1 300 (fun _ => by kernel_rfl) fun b5 => ?_
    refine Hs.reb (T := 117) (cs := [.v (.pointer (some ⟨b4, 1, none⟩)), .v (.pointer (some ⟨b4, 2, none⟩))]) 5 [.p 4 1, .p 4 2] (by kernel_rfl) (by kernel_rfl) (by kernel_rfl) (by kernel_rfl) ?_
    refine Hs.opV (.c (.s 5 0 1 2)) (s := Instr.sliceAt 116 (.slice (some ⟨b5, 0, none⟩) 2 2) none (some (.int .i64 1)) none) (by kernel_rfl) (by kernel_rfl) (fun w' _ => by kernel_rfl) ?_
    refine Hs.run0 300 (fun _ => by kernel_rfl) ?_
    refine Hs.loop (by kernel_rfl) ?_
    refine Hs.run0 300 (fun _ => by kernel_rfl) ?_
    refine Hs.condT (by kernel_rfl) ?_
    refine Hs.run0 300 (fun _ => by kernel_rfl) ?_
    refine Hs.callV (v := .tuple #[.int .i64 (atoiN y), .bool (numOk y)]) (fun w' H => number_any19 y (by omega) w' (hS.only H.only)) (by kernel_rfl) ?_
    refine Hs.run0 300 (fun _ => by kernel_rfl) ?_
    refine Hs.cond (!numOk y) (by kernel_rfl) (fun h1 => ?_) (fun h1 => ?_)
    · have h1 : numOk y = false := by simpa using h1
      refine Hs.run0 300 (fun _ => by kernel_rfl) ?_
      exact Hs.ret (v := opV (zero9, false)) Tryz.func37 (by kernel_rfl) fun w' H => ⟨by
        show _ = Ending.returned (opV (match (match numOk y with | true => some (⟨k, atoiN y, 0, ⟨#[]⟩⟩ : OP9) | false => none) with | some o => (o, true) | none => (zero9, false)))
        rw [h1], H.only⟩
    have h1 : numOk y = true := by simpa using h1
    refine Hs.run0 300 (fun _ => by kernel_rfl) ?_
    refine Hs.loop (by kernel_rfl) ?_
    refine Hs.run0 300 (fun _ => by kernel_rfl) ?_
    refine Hs.condF (by kernel_rfl) ?_
    refine Hs.run0 300 (fun _ => by kernel_rfl) ?_
    exact Hs.ret (v := opV (⟨k, atoiN y, 0, ⟨#[]⟩⟩, true)) Tryz.func37 (by kernel_rfl) fun w' H => ⟨by
      show _ = Ending.returned (opV (match (match numOk y with | true => some (⟨k, atoiN y, 0, ⟨#[]⟩⟩ : OP9) | false => none) with | some o => (o, true) | none => (zero9, false)))
      rw [h1], H.only⟩
  · refine Hs.run0 300 (fun _ => by kernel_rfl) ?_
    refine Hs.condF (by kernel_rfl) ?_
    refine Hs.run0 300 (fun _ => by kernel_rfl) ?_
    refine Hs.cond (!decide (((rest.length + 1 : Nat) : Int) = 1 + 2)) (by kernel_rfl) (fun h => ?_) (fun h => ?_)
    · have hres : (match (2 : Int) == 3 with
        | true => opT k rest
        | false => match decide (((rest.length + 1 : Nat) : Int) = 1 + 2) with
          | false => (zero9, false)
          | true => match opN k rest with
            | some o => (o, true)
            | none => (zero9, false)) = (zero9, false) := by
        show (match decide (((rest.length + 1 : Nat) : Int) = 1 + 2) with | false => (zero9, false) | true => _) = _
        rw [show decide (((rest.length + 1 : Nat) : Int) = 1 + 2) = false by simpa using h]
      refine Hs.run0 300 (fun _ => by kernel_rfl) ?_
      exact Hs.ret (v := opV (zero9, false)) Tryz.func37 (by kernel_rfl) fun w' H => ⟨by rw [hres], H.only⟩
    have hrest : ∃ y z, rest = [y, z] := by
      cases rest with
      | nil => simp at h
      | cons y r => cases r with
        | nil => simp at h
        | cons z r => cases r with
          | nil => exact ⟨y, z, rfl⟩
          | cons u r => simp at h; omega
    obtain ⟨y, z, rfl⟩ := hrest
    have hy := hlen y (by simp)
    have hz := hlen z (by simp)
    refine Hs.run1 300 (fun _ => by kernel_rfl) fun b5 => ?_
    refine Hs.reb (T := 117) (cs := [.v (.pointer (some ⟨b4, 1, none⟩)), .v (.pointer (some ⟨b4, 2, none⟩))]) 5 [.p 4 1, .p 4 2] (by kernel_rfl) (by kernel_rfl) (by kernel_rfl) (by kernel_rfl) ?_
    refine Hs.opV (.c (.s 5 0 2 2)) (s := Instr.sliceAt 116 (.slice (some ⟨b5, 0, none⟩) 2 2) none (some (.int .i64 2)) none) (by kernel_rfl) (by kernel_rfl) (fun w' _ => by kernel_rfl) ?_
    refine Hs.run0 300 (fun _ => by kernel_rfl) ?_
    refine Hs.loop (by kernel_rfl) ?_
    refine Hs.run0 300 (fun _ => by kernel_rfl) ?_
    refine Hs.condT (by kernel_rfl) ?_
    refine Hs.run0 300 (fun _ => by kernel_rfl) ?_
    refine Hs.callV (v := .tuple #[.int .i64 (atoiN y), .bool (numOk y)]) (fun w' H => number_any19 y (by omega) w' (hS.only H.only)) (by kernel_rfl) ?_
    refine Hs.run0 300 (fun _ => by kernel_rfl) ?_
    refine Hs.cond (!numOk y) (by kernel_rfl) (fun h1 => ?_) (fun h1 => ?_)
    · have h1 : numOk y = false := by simpa using h1
      refine Hs.run0 300 (fun _ => by kernel_rfl) ?_
      exact Hs.ret (v := opV (zero9, false)) Tryz.func37 (by kernel_rfl) fun w' H => ⟨by
        show _ = Ending.returned (opV (match (match numOk y with | true => (match numOk z with | true => some (⟨k, atoiN y, atoiN z, ⟨#[]⟩⟩ : OP9) | false => none) | false => none) with | some o => (o, true) | none => (zero9, false)))
        rw [h1], H.only⟩
    have h1 : numOk y = true := by simpa using h1
    refine Hs.run0 300 (fun _ => by kernel_rfl) ?_
    refine Hs.loop (by kernel_rfl) ?_
    refine Hs.run0 300 (fun _ => by kernel_rfl) ?_
    refine Hs.condT (by kernel_rfl) ?_
    refine Hs.run0 300 (fun _ => by kernel_rfl) ?_
    refine Hs.callV (v := .tuple #[.int .i64 (atoiN z), .bool (numOk z)]) (fun w' H => number_any19 z (by omega) w' (hS.only H.only)) (by kernel_rfl) ?_
    refine Hs.run0 300 (fun _ => by kernel_rfl) ?_
    refine Hs.cond (!numOk z) (by kernel_rfl) (fun h2 => ?_) (fun h2 => ?_)
    · have h2 : numOk z = false := by simpa using h2
      refine Hs.run0 300 (fun _ => by kernel_rfl) ?_
      exact Hs.ret (v := opV (zero9, false)) Tryz.func37 (by kernel_rfl) fun w' H => ⟨by
        show _ = Ending.returned (opV (match (match numOk y with | true => (match numOk z with | true => some (⟨k, atoiN y, atoiN z, ⟨#[]⟩⟩ : OP9) | false => none) | false => none) with | some o => (o, true) | none => (zero9, false)))
        rw [h1, h2], H.only⟩
    have h2 : numOk z = true := by simpa using h2
    refine Hs.run0 300 (fun _ => by kernel_rfl) ?_
    refine Hs.loop (by kernel_rfl) ?_
    refine Hs.run0 300 (fun _ => by kernel_rfl) ?_
    refine Hs.condF (by kernel_rfl) ?_
    refine Hs.run0 300 (fun _ => by kernel_rfl) ?_
    exact Hs.ret (v := opV (⟨k, atoiN y, atoiN z, ⟨#[]⟩⟩, true)) Tryz.func37 (by kernel_rfl) fun w' H => ⟨by
      show _ = Ending.returned (opV (match (match numOk y with | true => (match numOk z with | true => some (⟨k, atoiN y, atoiN z, ⟨#[]⟩⟩ : OP9) | false => none) | false => none) with | some o => (o, true) | none => (zero9, false)))
      rw [h1, h2], H.only⟩
  · refine Hs.run0 300 (fun _ => by kernel_rfl) ?_
    refine Hs.condT (by kernel_rfl) ?_
    refine Hs.run0 300 (fun _ => by kernel_rfl) ?_
    refine Hs.cond (!decide (((rest.length + 1 : Nat) : Int) = 2)) (by kernel_rfl) (fun h => ?_) (fun h => ?_)
    · have hres : opT k rest = (zero9, false) := by
        cases rest with
        | nil => rfl
        | cons y r => cases r with
          | nil => simp at h
          | cons z r => rfl
      refine Hs.run0 300 (fun _ => by kernel_rfl) ?_
      exact Hs.ret (v := opV (zero9, false)) Tryz.func37 (by kernel_rfl) fun w' H => ⟨by
        show _ = Ending.returned (opV (opT k rest))
        rw [hres], H.only⟩
    have hrest : ∃ y, rest = [y] := by
      cases rest with
      | nil => simp at h
      | cons y r => cases r with
        | nil => exact ⟨y, rfl⟩
        | cons z r => simp at h; omega
    obtain ⟨y, rfl⟩ := hrest
    have hy := hlen y (by simp)
    refine Hs.run0 300 (fun _ => by kernel_rfl) ?_
    have hrd := fun w' => read_any19 y (by omega) w'
    unfold readR at hrd
    cases hR : readB (y.length + 1) y [] with
    | none =>
      rw [hR] at hrd
      refine Hs.callV (v := .tuple #[.string ⟨#[]⟩, .bool false]) (fun w' H => hrd w') (by kernel_rfl) ?_
      refine Hs.run0 300 (fun _ => by kernel_rfl) ?_
      exact Hs.ret (v := opV (⟨k, 0, 0, ⟨#[]⟩⟩, false)) Tryz.func37 (by kernel_rfl) fun w' H => ⟨by
        show _ = Ending.returned (opV (match readB (y.length + 1) y [] with | some o => (⟨k, 0, 0, strL o⟩, true) | none => (⟨k, 0, 0, ⟨#[]⟩⟩, false)))
        rw [hR], H.only⟩
    | some o =>
      rw [hR] at hrd
      refine Hs.callV (v := .tuple #[.string (strL o), .bool true]) (fun w' H => hrd w') (by kernel_rfl) ?_
      refine Hs.run0 300 (fun _ => by kernel_rfl) ?_
      exact Hs.ret (v := opV (⟨k, 0, 0, strL o⟩, true)) Tryz.func37 (by kernel_rfl) fun w' H => ⟨by
        show _ = Ending.returned (opV (match readB (y.length + 1) y [] with | some o => (⟨k, 0, 0, strL o⟩, true) | none => (⟨k, 0, 0, ⟨#[]⟩⟩, false)))
        rw [hR], H.only⟩
end Go.Proofs.YtmmcamkmglpgiaaGreatDoor

namespace Go.Proofs.YtmmcamkmglpgiaaGreatDoor
open Go.RowKit
set_option linter.all false
set_option maxRecDepth 100000
def plV (p q : Int) : Value := .agg #[.int .i64 p, .int .i64 q]
def opA (o : OP9) : Value := .agg (cOP o).toArray
abbrev RetB (b : Bool) (w : World) : Ending → World → Prop := fun e w' => e = .returned (.bool b) ∧ Only [] w w'

theorem plCode_any (p q : Int) (o : OP9) (w : World) : Calls Tryz.prog 65 #[plV p q, opA o] w (RetB (withinB o.a 0 255) w) := by
  refine Hs.enter Tryz.func65 [] [] [] [.g [.v (.int .i64 p), .v (.int .i64 q)], .g o.sc] (Mem.start0 w) (by kernel_rfl) (by kernel_rfl) ?_
  refine Hs.run2 300 (fun _ => by kernel_rfl) fun b0 b1 => ?_
  refine Hs.callV (v := .bool (withinB o.a 0 255)) (fun w' H => within_any _ _ _ w') (by kernel_rfl) ?_
  refine Hs.run0 300 (fun _ => by kernel_rfl) ?_
  exact Hs.ret (v := .bool (withinB o.a 0 255)) Tryz.func65 (by kernel_rfl) fun w' H => ⟨rfl, H.only⟩

theorem plCount_any (p q : Int) (o : OP9) (w : World) : Calls Tryz.prog 67 #[plV p q, opA o] w (RetB (withinB o.a 1 1024) w) := by
  refine Hs.enter Tryz.func67 [] [] [] [.g [.v (.int .i64 p), .v (.int .i64 q)], .g o.sc] (Mem.start0 w) (by kernel_rfl) (by kernel_rfl) ?_
  refine Hs.run2 300 (fun _ => by kernel_rfl) fun b0 b1 => ?_
  refine Hs.callV (v := .bool (withinB o.a 1 1024)) (fun w' H => within_any _ _ _ w') (by kernel_rfl) ?_
  refine Hs.run0 300 (fun _ => by kernel_rfl) ?_
  exact Hs.ret (v := .bool (withinB o.a 1 1024)) Tryz.func67 (by kernel_rfl) fun w' H => ⟨rfl, H.only⟩

theorem plFlags_any (p q : Int) (o : OP9) (w : World) : Calls Tryz.prog 69 #[plV p q, opA o] w (RetB (withinB o.a 0 3) w) := by
  refine Hs.enter Tryz.func69 [] [] [] [.g [.v (.int .i64 p), .v (.int .i64 q)], .g o.sc] (Mem.start0 w) (by kernel_rfl) (by kernel_rfl) ?_
  refine Hs.run2 300 (fun _ => by kernel_rfl) fun b0 b1 => ?_
  refine Hs.callV (v := .bool (withinB o.a 0 3)) (fun w' H => within_any _ _ _ w') (by kernel_rfl) ?_
  refine Hs.run0 300 (fun _ => by kernel_rfl) ?_
  exact Hs.ret (v := .bool (withinB o.a 0 3)) Tryz.func69 (by kernel_rfl) fun w' H => ⟨rfl, H.only⟩

theorem plWhose_any (p q : Int) (o : OP9) (w : World) : Calls Tryz.prog 71 #[plV p q, opA o] w (RetB (withinB o.a 0 2) w) := by
  refine Hs.enter Tryz.func71 [] [] [] [.g [.v (.int .i64 p), .v (.int .i64 q)], .g o.sc] (Mem.start0 w) (by kernel_rfl) (by kernel_rfl) ?_
  refine Hs.run2 300 (fun _ => by kernel_rfl) fun b0 b1 => ?_
  refine Hs.callV (v := .bool (withinB o.a 0 2)) (fun w' H => within_any _ _ _ w') (by kernel_rfl) ?_
  refine Hs.run0 300 (fun _ => by kernel_rfl) ?_
  exact Hs.ret (v := .bool (withinB o.a 0 2)) Tryz.func71 (by kernel_rfl) fun w' H => ⟨rfl, H.only⟩

theorem plEither_any (p q : Int) (o : OP9) (w : World) : Calls Tryz.prog 73 #[plV p q, opA o] w (RetB (withinB o.a 0 1) w) := by
  refine Hs.enter Tryz.func73 [] [] [] [.g [.v (.int .i64 p), .v (.int .i64 q)], .g o.sc] (Mem.start0 w) (by kernel_rfl) (by kernel_rfl) ?_
  refine Hs.run2 300 (fun _ => by kernel_rfl) fun b0 b1 => ?_
  refine Hs.callV (v := .bool (withinB o.a 0 1)) (fun w' H => within_any _ _ _ w') (by kernel_rfl) ?_
  refine Hs.run0 300 (fun _ => by kernel_rfl) ?_
  exact Hs.ret (v := .bool (withinB o.a 0 1)) Tryz.func73 (by kernel_rfl) fun w' H => ⟨rfl, H.only⟩

theorem plTime_any (p q : Int) (o : OP9) (w : World) : Calls Tryz.prog 76 #[plV p q, opA o] w (RetB (withinB o.a 0 1000) w) := by
  refine Hs.enter Tryz.func76 [] [] [] [.g [.v (.int .i64 p), .v (.int .i64 q)], .g o.sc] (Mem.start0 w) (by kernel_rfl) (by kernel_rfl) ?_
  refine Hs.run2 300 (fun _ => by kernel_rfl) fun b0 b1 => ?_
  refine Hs.callV (v := .bool (withinB o.a 0 1000)) (fun w' H => within_any _ _ _ w') (by kernel_rfl) ?_
  refine Hs.run0 300 (fun _ => by kernel_rfl) ?_
  exact Hs.ret (v := .bool (withinB o.a 0 1000)) Tryz.func76 (by kernel_rfl) fun w' H => ⟨rfl, H.only⟩

def shortB (o : OP9) : Bool := decide ((o.t.size : Int) ≤ 1024)
theorem plShort_any (p q : Int) (o : OP9) (w : World) : Calls Tryz.prog 66 #[plV p q, opA o] w (RetB (shortB o) w) := by
  refine Hs.enter Tryz.func66 [] [] [] [.g [.v (.int .i64 p), .v (.int .i64 q)], .g o.sc] (Mem.start0 w) (by kernel_rfl) (by kernel_rfl) ?_
  refine Hs.run2 300 (fun _ => by kernel_rfl) fun b0 b1 => ?_
  exact Hs.ret (v := .bool (shortB o)) Tryz.func66 (by kernel_rfl) fun w' H => ⟨rfl, H.only⟩

def laterB (p q a : Int) : Bool := decide (a > p) && decide (a < q)
theorem plLater_any (p q : Int) (o : OP9) (w : World) : Calls Tryz.prog 68 #[plV p q, opA o] w (RetB (laterB p q o.a) w) := by
  refine Hs.enter Tryz.func68 [] [] [] [.g [.v (.int .i64 p), .v (.int .i64 q)], .g o.sc] (Mem.start0 w) (by kernel_rfl) (by kernel_rfl) ?_
  refine Hs.run2 300 (fun _ => by kernel_rfl) fun b0 b1 => ?_
  refine Hs.bool 10 (decide (o.a > p)) (by kernel_rfl) (fun h => ?_) (fun h => ?_)
  · refine Hs.rung0 [5] 300 (fun _ => by kernel_rfl) ?_
    exact Hs.ret (v := .bool (decide (o.a < q))) Tryz.func68 (by kernel_rfl) fun w' H => ⟨by simp only [laterB, h, Bool.true_and], H.only⟩
  · refine Hs.rung0 [5] 300 (fun _ => by kernel_rfl) ?_
    exact Hs.ret (v := .bool false) Tryz.func68 (by kernel_rfl) fun w' H => ⟨by simp only [laterB, h, Bool.false_and], H.only⟩

theorem plAny_any (p q : Int) (o : OP9) (w : World) : Calls Tryz.prog 72 #[plV p q, opA o] w (RetB (true) w) := by
  refine Hs.enter Tryz.func72 [] [] [] [.g [.v (.int .i64 p), .v (.int .i64 q)], .g o.sc] (Mem.start0 w) (by kernel_rfl) (by kernel_rfl) ?_
  refine Hs.run2 300 (fun _ => by kernel_rfl) fun b0 b1 => ?_
  exact Hs.ret (v := .bool true) Tryz.func72 (by kernel_rfl) fun w' H => ⟨rfl, H.only⟩

theorem isSignal_any (n : Int) (w : World) : Calls Tryz.prog 96 #[.int .i64 n] w (RetB (isS n) w) := by
  refine Hs.enter Tryz.func96 [] [] [] [.c (.v (.int .i64 n))] (Mem.start0 w) (by kernel_rfl) (by kernel_rfl) ?_
  refine Hs.run0 300 (fun _ => by kernel_rfl) ?_
  refine Hs.callV (v := .tuple #[.string (if isS n then nameS n else ⟨#[]⟩), .bool (isS n)]) (fun w' H => name_any18 n w') (by kernel_rfl) ?_
  refine Hs.run0 300 (fun _ => by kernel_rfl) ?_
  exact Hs.ret (v := .bool (isS n)) Tryz.func96 (by kernel_rfl) fun w' H => ⟨rfl, H.only⟩

theorem plTarget_any (p q : Int) (o : OP9) (w : World) : Calls Tryz.prog 70 #[plV p q, opA o] w (RetB (withinB o.a 0 4 && isS o.b) w) := by
  refine Hs.enter Tryz.func70 [] [] [] [.g [.v (.int .i64 p), .v (.int .i64 q)], .g o.sc] (Mem.start0 w) (by kernel_rfl) (by kernel_rfl) ?_
  refine Hs.run2 300 (fun _ => by kernel_rfl) fun b0 b1 => ?_
  refine Hs.callV (v := .bool (withinB o.a 0 4)) (fun w' H => within_any _ _ _ w') (by kernel_rfl) ?_
  refine Hs.run0 300 (fun _ => by kernel_rfl) ?_
  refine Hs.bool 8 (withinB o.a 0 4) (by kernel_rfl) (fun h => ?_) (fun h => ?_)
  · refine Hs.rung0 [3] 300 (fun _ => by kernel_rfl) ?_
    refine Hs.callV (v := .bool (isS o.b)) (fun w' H => isSignal_any _ w') (by kernel_rfl) ?_
    refine Hs.rung0 [3] 300 (fun _ => by kernel_rfl) ?_
    exact Hs.ret (v := .bool (isS o.b)) Tryz.func70 (by kernel_rfl) fun w' H => ⟨by rw [h]; rfl, H.only⟩
  · refine Hs.rung0 [3] 300 (fun _ => by kernel_rfl) ?_
    exact Hs.ret (v := .bool false) Tryz.func70 (by kernel_rfl) fun w' H => ⟨by rw [h]; rfl, H.only⟩

theorem plMask_any (p q : Int) (o : OP9) (w : World) : Calls Tryz.prog 75 #[plV p q, opA o] w (RetB (isS o.a && withinB o.b 0 1) w) := by
  refine Hs.enter Tryz.func75 [] [] [] [.g [.v (.int .i64 p), .v (.int .i64 q)], .g o.sc] (Mem.start0 w) (by kernel_rfl) (by kernel_rfl) ?_
  refine Hs.run2 300 (fun _ => by kernel_rfl) fun b0 b1 => ?_
  refine Hs.callV (v := .bool (isS o.a)) (fun w' H => isSignal_any _ w') (by kernel_rfl) ?_
  refine Hs.run0 300 (fun _ => by kernel_rfl) ?_
  refine Hs.bool 8 (isS o.a) (by kernel_rfl) (fun h => ?_) (fun h => ?_)
  · refine Hs.rung0 [3] 300 (fun _ => by kernel_rfl) ?_
    refine Hs.callV (v := .bool (withinB o.b 0 1)) (fun w' H => within_any _ _ _ w') (by kernel_rfl) ?_
    refine Hs.rung0 [3] 300 (fun _ => by kernel_rfl) ?_
    exact Hs.ret (v := .bool (withinB o.b 0 1)) Tryz.func75 (by kernel_rfl) fun w' H => ⟨by rw [h]; rfl, H.only⟩
  · refine Hs.rung0 [3] 300 (fun _ => by kernel_rfl) ?_
    exact Hs.ret (v := .bool false) Tryz.func75 (by kernel_rfl) fun w' H => ⟨by rw [h]; rfl, H.only⟩

def tm0 : TM := ⟨fun _ => 0, 0, 0, 0, 0, 0⟩
theorem flag_cases {n : Int} (h : isFlagB n = true) : n = 30 ∨ n = 31 ∨ n = 32 ∨ n = 33 ∨ n = 34 ∨ n = 35 ∨ n = 36 ∨ n = 37 ∨ n = 38 ∨ n = 39 ∨ n = 40 ∨ n = 41 ∨ n = 42 ∨ n = 50 ∨ n = 51 ∨ n = 52 ∨ n = 53 ∨ n = 54 ∨ n = 55 ∨ n = 56 ∨ n = 57 ∨ n = 58 ∨ n = 59 ∨ n = 60 ∨ n = 61 ∨ n = 62 ∨ n = 70 ∨ n = 71 ∨ n = 72 ∨ n = 73 ∨ n = 74 ∨ n = 75 ∨ n = 90 ∨ n = 91 ∨ n = 92 ∨ n = 93 := by
  simp only [isFlagB, Bool.or_eq_true, Bool.and_eq_true, decide_eq_true_eq] at h
  omega
theorem flag_set (n : Int) : (!((setI 0 n true == 0) && true)) = isFlagB n := by
  cases hf : isFlagB n with
  | false => unfold setI; rw [hf]; rfl
  | true =>
    rcases flag_cases hf with rfl | rfl | rfl | rfl | rfl | rfl | rfl | rfl | rfl | rfl | rfl | rfl | rfl | rfl | rfl | rfl | rfl | rfl | rfl | rfl | rfl | rfl | rfl | rfl | rfl | rfl | rfl | rfl | rfl | rfl | rfl | rfl | rfl | rfl | rfl | rfl <;> decide
theorem isFlag9_any (n : Int) (w : World) : Calls Tryz.prog 98 #[.int .i64 n] w (RetB (isFlagB n) w) := by
  refine Hs.enter Tryz.func98 [] [] [] [.c (.v (.int .i64 n))] (Mem.start0 w) (by kernel_rfl) (by kernel_rfl) ?_
  refine Hs.run1 300 (fun _ => by kernel_rfl) fun b0 => ?_
  refine Hs.any [0] (by kernel_rfl) ?_
  refine Hs.run0 300 (fun _ => by kernel_rfl) ?_
  refine Hs.callV (v := (tm0.set n true).val) (fun w' H => set_any tm0 n true w') (by kernel_rfl) ?_
  refine Hs.sel1 4 (by kernel_rfl) ?_
  refine Hs.cmp (op := .neq) (T := 150) (tm0.set n true).cells.toArray tm0.cells.toArray ((setI 0 n true == 0) && true) (!((setI 0 n true == 0) && true)) (by kernel_rfl) (.inr ⟨rfl, rfl⟩) (by kernel_rfl) (by kernel_rfl) ?_
  refine Hs.run0 300 (fun _ => by kernel_rfl) ?_
  exact Hs.ret (v := .bool (!((setI 0 n true == 0) && true))) Tryz.func98 (by kernel_rfl) fun w' H => ⟨by rw [flag_set], H.only⟩

def sureB (n : Int) : Bool := decide (n = 9) || decide (n = 19)
theorem sure_any (n : Int) (w : World) : Calls Tryz.prog 113 #[.int .i64 n] w (RetB (sureB n) w) := by
  refine Hs.enter Tryz.func113 [] [] [] [.c (.v (.int .i64 n))] (Mem.start0 w) (by kernel_rfl) (by kernel_rfl) ?_
  refine Hs.run0 300 (fun _ => by kernel_rfl) ?_
  refine Hs.bool 5 (decide (n = 9)) (by kernel_rfl) (fun h => ?_) (fun h => ?_)
  · refine Hs.rung0 [2] 300 (fun _ => by kernel_rfl) ?_
    exact Hs.ret (v := .bool true) Tryz.func113 (by kernel_rfl) fun w' H => ⟨by simp only [sureB, h, Bool.true_or], H.only⟩
  · refine Hs.rung0 [2] 300 (fun _ => by kernel_rfl) ?_
    exact Hs.ret (v := .bool (decide (n = 19))) Tryz.func113 (by kernel_rfl) fun w' H => ⟨by simp only [sureB, h, Bool.false_or], H.only⟩

end Go.Proofs.YtmmcamkmglpgiaaGreatDoor

namespace Go.Proofs.YtmmcamkmglpgiaaGreatDoor
open Go.RowKit
set_option linter.all false
set_option maxRecDepth 100000
def actV (A : Nat → Int) : Value := .agg #[.int .i64 (A 0), .int .i64 (A 1), .int .i64 (A 2), .int .i64 (A 3), .int .i64 (A 4), .int .i64 (A 5), .int .i64 (A 6), .int .i64 (A 7), .int .i64 (A 8), .int .i64 (A 9), .int .i64 (A 10), .int .i64 (A 11), .int .i64 (A 12), .int .i64 (A 13), .int .i64 (A 14), .int .i64 (A 15), .int .i64 (A 16), .int .i64 (A 17), .int .i64 (A 18), .int .i64 (A 19), .int .i64 (A 20), .int .i64 (A 21), .int .i64 (A 22), .int .i64 (A 23), .int .i64 (A 24), .int .i64 (A 25), .int .i64 (A 26), .int .i64 (A 27), .int .i64 (A 28), .int .i64 (A 29), .int .i64 (A 30), .int .i64 (A 31)]
def actOk (sig how : Int) : Bool := isS sig && (!sureB sig && withinB how 0 2)
theorem sig_cases {n : Int} (h : isS n = true) (h2 : sureB n = false) : n = 1 ∨ n = 2 ∨ n = 3 ∨ n = 4 ∨ n = 5 ∨ n = 6 ∨ n = 7 ∨ n = 8 ∨ n = 10 ∨ n = 11 ∨ n = 12 ∨ n = 13 ∨ n = 14 ∨ n = 15 ∨ n = 17 ∨ n = 18 ∨ n = 20 ∨ n = 21 ∨ n = 22 ∨ n = 28 := by
  simp only [isS, sureB, Bool.or_eq_true, Bool.and_eq_true, Bool.or_eq_false_iff, decide_eq_true_eq, decide_eq_false_iff_not] at h h2
  omega
abbrev ActR (sig how : Int) (w : World) : Ending → World → Prop := fun e w' => ∃ A : Nat → Int, e = .returned (.tuple #[actV A, .int .i64 (if actOk sig how then 0 else 2)]) ∧ Only [] w w' ∧ True
theorem sgAct_any (sig how : Int) (w : World) : Calls Tryz.prog 97 #[actV (fun _ => 0), .int .i64 sig, .int .i64 how] w (ActR sig how w) := by
  have hC := fun w => is_any18 sig w
  have hD := fun w => sure_any sig w
  refine Hs.enter Tryz.func97 [] [] [] [.c (.v (actV (fun _ => 0))), .c (.v (.int .i64 sig)), .c (.v (.int .i64 how))] (Mem.start0 w) (by kernel_rfl) (by kernel_rfl) ?_
  refine Hs.run2 300 (fun _ => by kernel_rfl) fun b0 b1 => ?_
  cases hS : isS sig with
  | false =>
    rw [hS] at hC
    have hok : actOk sig how = false := by unfold actOk; rw [hS]; rfl
    refine Hs.callV (v := .bool false) (fun w' H => hC w') (by kernel_rfl) ?_
    refine Hs.run0 300 (fun _ => by kernel_rfl) ?_
    refine Hs.rung0 [3] 300 (fun _ => by kernel_rfl) ?_
    refine Hs.rung0 [3, 7] 300 (fun _ => by kernel_rfl) ?_
    refine Hs.rung0 [3, 7, 11] 300 (fun _ => by kernel_rfl) ?_
    refine Hs.condT (by kernel_rfl) ?_
    refine Hs.run0 300 (fun _ => by kernel_rfl) ?_
    exact Hs.ret (v := .tuple #[actV (fun _ => 0), .int .i64 2]) Tryz.func97 (by kernel_rfl) fun w' H => ⟨fun _ => 0, by rw [hok]; rfl, H.only, trivial⟩
  | true =>
    rw [hS] at hC
    refine Hs.callV (v := .bool true) (fun w' H => hC w') (by kernel_rfl) ?_
    refine Hs.run0 300 (fun _ => by kernel_rfl) ?_
    refine Hs.rung0 [3] 300 (fun _ => by kernel_rfl) ?_
    cases hU : sureB sig with
    | true =>
      rw [hU] at hD
      have hok : actOk sig how = false := by unfold actOk; rw [hS, hU]; rfl
      refine Hs.callV (v := .bool true) (fun w' H => hD w') (by kernel_rfl) ?_
      refine Hs.rung0 [3] 300 (fun _ => by kernel_rfl) ?_
      refine Hs.rung0 [3, 7] 300 (fun _ => by kernel_rfl) ?_
      refine Hs.rung0 [3, 7, 11] 300 (fun _ => by kernel_rfl) ?_
      refine Hs.condT (by kernel_rfl) ?_
      refine Hs.run0 300 (fun _ => by kernel_rfl) ?_
      exact Hs.ret (v := .tuple #[actV (fun _ => 0), .int .i64 2]) Tryz.func97 (by kernel_rfl) fun w' H => ⟨fun _ => 0, by rw [hok]; rfl, H.only, trivial⟩
    | false =>
      rw [hU] at hD
      refine Hs.callV (v := .bool false) (fun w' H => hD w') (by kernel_rfl) ?_
      refine Hs.rung0 [3] 300 (fun _ => by kernel_rfl) ?_
      refine Hs.rung0 [3, 7] 300 (fun _ => by kernel_rfl) ?_
      refine Hs.bool 19 (decide (how < 0)) (by kernel_rfl) (fun h => ?_) (fun h => ?_)
      · have hok : actOk sig how = false := by
          have := of_decide_eq_true h
          unfold actOk withinB; rw [show decide (0 ≤ how) = false from decide_eq_false (by omega)]; simp
        refine Hs.rung0 [3, 7, 11] 300 (fun _ => by kernel_rfl) ?_
        refine Hs.condT (by kernel_rfl) ?_
        refine Hs.run0 300 (fun _ => by kernel_rfl) ?_
        exact Hs.ret (v := .tuple #[actV (fun _ => 0), .int .i64 2]) Tryz.func97 (by kernel_rfl) fun w' H => ⟨fun _ => 0, by rw [hok]; rfl, H.only, trivial⟩
      have h0 := of_decide_eq_false h
      refine Hs.rung0 [3, 7, 11] 300 (fun _ => by kernel_rfl) ?_
      refine Hs.condP (how > 2) (by kernel_rfl) (fun h2 => ?_) (fun h2 => ?_)
      · have hok : actOk sig how = false := by
          unfold actOk withinB; rw [show decide (how ≤ 2) = false from decide_eq_false (by omega)]; simp
        refine Hs.run0 300 (fun _ => by kernel_rfl) ?_
        exact Hs.ret (v := .tuple #[actV (fun _ => 0), .int .i64 2]) Tryz.func97 (by kernel_rfl) fun w' H => ⟨fun _ => 0, by rw [hok]; rfl, H.only, trivial⟩
      have hok : actOk sig how = true := by
        unfold actOk withinB; rw [hS, hU, show decide (how ≤ 2) = true from decide_eq_true (by omega), show decide (0 ≤ how) = true from decide_eq_true (by omega)]; rfl
      have e1 : ActR sig how w = fun e w' => ∃ A : Nat → Int, e = .returned (.tuple #[actV A, .int .i64 0]) ∧ Only [] w w' ∧ True := by
        unfold ActR; rw [hok]; rfl
      rw [e1]
      clear hC hD hok e1 h0 h h2
      rcases sig_cases hS hU with rfl | rfl | rfl | rfl | rfl | rfl | rfl | rfl | rfl | rfl | rfl | rfl | rfl | rfl | rfl | rfl | rfl | rfl | rfl | rfl
      · refine Hs.run0 300 (fun _ => by kernel_rfl) ?_
        exact Hs.ret (v := .tuple #[actV fun i => if i = 1 then how else 0, .int .i64 0]) Tryz.func97 (by kernel_rfl) fun w' H => ⟨fun i => if i = 1 then how else 0, rfl, H.only, trivial⟩
      · refine Hs.run0 300 (fun _ => by kernel_rfl) ?_
        exact Hs.ret (v := .tuple #[actV fun i => if i = 2 then how else 0, .int .i64 0]) Tryz.func97 (by kernel_rfl) fun w' H => ⟨fun i => if i = 2 then how else 0, rfl, H.only, trivial⟩
      · refine Hs.run0 300 (fun _ => by kernel_rfl) ?_
        exact Hs.ret (v := .tuple #[actV fun i => if i = 3 then how else 0, .int .i64 0]) Tryz.func97 (by kernel_rfl) fun w' H => ⟨fun i => if i = 3 then how else 0, rfl, H.only, trivial⟩
      · refine Hs.run0 300 (fun _ => by kernel_rfl) ?_
        exact Hs.ret (v := .tuple #[actV fun i => if i = 4 then how else 0, .int .i64 0]) Tryz.func97 (by kernel_rfl) fun w' H => ⟨fun i => if i = 4 then how else 0, rfl, H.only, trivial⟩
      · refine Hs.run0 300 (fun _ => by kernel_rfl) ?_
        exact Hs.ret (v := .tuple #[actV fun i => if i = 5 then how else 0, .int .i64 0]) Tryz.func97 (by kernel_rfl) fun w' H => ⟨fun i => if i = 5 then how else 0, rfl, H.only, trivial⟩
      · refine Hs.run0 300 (fun _ => by kernel_rfl) ?_
        exact Hs.ret (v := .tuple #[actV fun i => if i = 6 then how else 0, .int .i64 0]) Tryz.func97 (by kernel_rfl) fun w' H => ⟨fun i => if i = 6 then how else 0, rfl, H.only, trivial⟩
      · refine Hs.run0 300 (fun _ => by kernel_rfl) ?_
        exact Hs.ret (v := .tuple #[actV fun i => if i = 7 then how else 0, .int .i64 0]) Tryz.func97 (by kernel_rfl) fun w' H => ⟨fun i => if i = 7 then how else 0, rfl, H.only, trivial⟩
      · refine Hs.run0 300 (fun _ => by kernel_rfl) ?_
        exact Hs.ret (v := .tuple #[actV fun i => if i = 8 then how else 0, .int .i64 0]) Tryz.func97 (by kernel_rfl) fun w' H => ⟨fun i => if i = 8 then how else 0, rfl, H.only, trivial⟩
      · refine Hs.run0 300 (fun _ => by kernel_rfl) ?_
        exact Hs.ret (v := .tuple #[actV fun i => if i = 10 then how else 0, .int .i64 0]) Tryz.func97 (by kernel_rfl) fun w' H => ⟨fun i => if i = 10 then how else 0, rfl, H.only, trivial⟩
      · refine Hs.run0 300 (fun _ => by kernel_rfl) ?_
        exact Hs.ret (v := .tuple #[actV fun i => if i = 11 then how else 0, .int .i64 0]) Tryz.func97 (by kernel_rfl) fun w' H => ⟨fun i => if i = 11 then how else 0, rfl, H.only, trivial⟩
      · refine Hs.run0 300 (fun _ => by kernel_rfl) ?_
        exact Hs.ret (v := .tuple #[actV fun i => if i = 12 then how else 0, .int .i64 0]) Tryz.func97 (by kernel_rfl) fun w' H => ⟨fun i => if i = 12 then how else 0, rfl, H.only, trivial⟩
      · refine Hs.run0 300 (fun _ => by kernel_rfl) ?_
        exact Hs.ret (v := .tuple #[actV fun i => if i = 13 then how else 0, .int .i64 0]) Tryz.func97 (by kernel_rfl) fun w' H => ⟨fun i => if i = 13 then how else 0, rfl, H.only, trivial⟩
      · refine Hs.run0 300 (fun _ => by kernel_rfl) ?_
        exact Hs.ret (v := .tuple #[actV fun i => if i = 14 then how else 0, .int .i64 0]) Tryz.func97 (by kernel_rfl) fun w' H => ⟨fun i => if i = 14 then how else 0, rfl, H.only, trivial⟩
      · refine Hs.run0 300 (fun _ => by kernel_rfl) ?_
        exact Hs.ret (v := .tuple #[actV fun i => if i = 15 then how else 0, .int .i64 0]) Tryz.func97 (by kernel_rfl) fun w' H => ⟨fun i => if i = 15 then how else 0, rfl, H.only, trivial⟩
      · refine Hs.run0 300 (fun _ => by kernel_rfl) ?_
        exact Hs.ret (v := .tuple #[actV fun i => if i = 17 then how else 0, .int .i64 0]) Tryz.func97 (by kernel_rfl) fun w' H => ⟨fun i => if i = 17 then how else 0, rfl, H.only, trivial⟩
      · refine Hs.run0 300 (fun _ => by kernel_rfl) ?_
        exact Hs.ret (v := .tuple #[actV fun i => if i = 18 then how else 0, .int .i64 0]) Tryz.func97 (by kernel_rfl) fun w' H => ⟨fun i => if i = 18 then how else 0, rfl, H.only, trivial⟩
      · refine Hs.run0 300 (fun _ => by kernel_rfl) ?_
        exact Hs.ret (v := .tuple #[actV fun i => if i = 20 then how else 0, .int .i64 0]) Tryz.func97 (by kernel_rfl) fun w' H => ⟨fun i => if i = 20 then how else 0, rfl, H.only, trivial⟩
      · refine Hs.run0 300 (fun _ => by kernel_rfl) ?_
        exact Hs.ret (v := .tuple #[actV fun i => if i = 21 then how else 0, .int .i64 0]) Tryz.func97 (by kernel_rfl) fun w' H => ⟨fun i => if i = 21 then how else 0, rfl, H.only, trivial⟩
      · refine Hs.run0 300 (fun _ => by kernel_rfl) ?_
        exact Hs.ret (v := .tuple #[actV fun i => if i = 22 then how else 0, .int .i64 0]) Tryz.func97 (by kernel_rfl) fun w' H => ⟨fun i => if i = 22 then how else 0, rfl, H.only, trivial⟩
      · refine Hs.run0 300 (fun _ => by kernel_rfl) ?_
        exact Hs.ret (v := .tuple #[actV fun i => if i = 28 then how else 0, .int .i64 0]) Tryz.func97 (by kernel_rfl) fun w' H => ⟨fun i => if i = 28 then how else 0, rfl, H.only, trivial⟩
end Go.Proofs.YtmmcamkmglpgiaaGreatDoor

namespace Go.Proofs.YtmmcamkmglpgiaaGreatDoor
open Go.RowKit
set_option linter.all false
set_option maxRecDepth 100000
theorem plAct_any (p q : Int) (o : OP9) (w : World) : Calls Tryz.prog 74 #[plV p q, opA o] w (RetB (actOk o.a o.b) w) := by
  have hC := fun w => sgAct_any o.a o.b w
  unfold ActR at hC
  refine Hs.enter Tryz.func74 [] [] [] [.g [.v (.int .i64 p), .v (.int .i64 q)], .g o.sc] (Mem.start0 w) (by kernel_rfl) (by kernel_rfl) ?_
  refine Hs.run2 300 (fun _ => by kernel_rfl) fun b0 b1 => ?_
  cases hA : actOk o.a o.b with
  | false =>
    rw [hA] at hC
    refine Hs.callX (v := fun A => .tuple #[actV A, .int .i64 2]) (Q := fun _ => True) (fun w' H => hC w') (by kernel_rfl) fun A _ => ?_
    refine Hs.run1 300 (fun _ => by kernel_rfl) fun b2 => ?_
    exact Hs.ret (v := .bool false) Tryz.func74 (by kernel_rfl) fun w' H => ⟨rfl, H.only⟩
  | true =>
    rw [hA] at hC
    refine Hs.callX (v := fun A => .tuple #[actV A, .int .i64 0]) (Q := fun _ => True) (fun w' H => hC w') (by kernel_rfl) fun A _ => ?_
    refine Hs.run1 300 (fun _ => by kernel_rfl) fun b2 => ?_
    exact Hs.ret (v := .bool true) Tryz.func74 (by kernel_rfl) fun w' H => ⟨rfl, H.only⟩
theorem plMode_any (p q : Int) (o : OP9) (w : World) : Calls Tryz.prog 77 #[plV p q, opA o] w (RetB (isFlagB o.a && withinB o.b 0 1) w) := by
  refine Hs.enter Tryz.func77 [] [] [] [.g [.v (.int .i64 p), .v (.int .i64 q)], .g o.sc] (Mem.start0 w) (by kernel_rfl) (by kernel_rfl) ?_
  refine Hs.run2 300 (fun _ => by kernel_rfl) fun b0 b1 => ?_
  refine Hs.callV (v := .bool (isFlagB o.a)) (fun w' H => isFlag9_any _ w') (by kernel_rfl) ?_
  refine Hs.run0 300 (fun _ => by kernel_rfl) ?_
  refine Hs.bool 8 (isFlagB o.a) (by kernel_rfl) (fun h => ?_) (fun h => ?_)
  · refine Hs.rung0 [3] 300 (fun _ => by kernel_rfl) ?_
    refine Hs.callV (v := .bool (withinB o.b 0 1)) (fun w' H => within_any _ _ _ w') (by kernel_rfl) ?_
    refine Hs.rung0 [3] 300 (fun _ => by kernel_rfl) ?_
    exact Hs.ret (v := .bool (withinB o.b 0 1)) Tryz.func77 (by kernel_rfl) fun w' H => ⟨by rw [h]; rfl, H.only⟩
  · refine Hs.rung0 [3] 300 (fun _ => by kernel_rfl) ?_
    exact Hs.ret (v := .bool false) Tryz.func77 (by kernel_rfl) fun w' H => ⟨by rw [h]; rfl, H.only⟩
/-- What is asked of an operation of a kind. -/
def askB (k : Nat) (p q : Int) (o : OP9) : Bool := match k with
  | 1 => withinB o.a 0 255
  | 2 => shortB o
  | 3 => shortB o
  | 4 => withinB o.a 1 1024
  | 5 => laterB p q o.a
  | 6 => laterB p q o.a
  | 7 => withinB o.a 0 3
  | 8 => withinB o.a 0 4 && isS o.b
  | 9 => withinB o.a 0 2
  | 11 => withinB o.a 0 1
  | 12 => actOk o.a o.b
  | 13 => isS o.a && withinB o.b 0 1
  | 14 => withinB o.a 0 1000
  | 15 => isFlagB o.a && withinB o.b 0 1
  | _ => true
def shN (k : Nat) : Nat := match k with
  | 10 => 0
  | 16 => 0
  | 8 => 2
  | 12 => 2
  | 13 => 2
  | 15 => 2
  | 2 => 3
  | 3 => 3
  | _ => 1
def textE (t : ByteArray) : Bool := !(t.toList == (⟨#[]⟩ : ByteArray).toList)
def restB (k : Nat) (p q : Int) (o : OP9) : Bool := !(!(Nat.beq (shN k) 3) && textE o.t) && (!(!(Nat.beq (shN k) 2) && o.b != 0) && (!(!(Nat.beq (shN k) 2) && !(Nat.beq (shN k) 1) && o.a != 0) && askB k p q o))
def rightB (o : OP9) (p q : Int) : Bool := withinB o.k 1 16 && restB o.k.toNat p q o
theorem right_out (o : OP9) (p q : Int) (h : withinB o.k 1 16 = false) (w : World) : Calls Tryz.prog 41 #[opA o, .int .i64 p, .int .i64 q] w (RetB false w) := by
  have hC := fun w => within_any o.k 1 16 w
  rw [h] at hC
  refine Hs.enter Tryz.func41 [] [] [] [.g o.sc, .c (.v (.int .i64 p)), .c (.v (.int .i64 q))] (Mem.start0 w) (by kernel_rfl) (by kernel_rfl) ?_
  refine Hs.run1 300 (fun _ => by kernel_rfl) fun b0 => ?_
  refine Hs.callV (v := .bool false) (fun w' H => hC w') (by kernel_rfl) ?_
  refine Hs.run0 300 (fun _ => by kernel_rfl) ?_
  refine Hs.condT (by kernel_rfl) ?_
  refine Hs.run0 300 (fun _ => by kernel_rfl) ?_
  exact Hs.ret (v := .bool false) Tryz.func41 (by kernel_rfl) fun w' H => ⟨rfl, H.only⟩
theorem right_1 (a b : Int) (t : ByteArray) (p q : Int) (w : World) : Calls Tryz.prog 41 #[opA ⟨1, a, b, t⟩, .int .i64 p, .int .i64 q] w (RetB (restB 1 p q ⟨1, a, b, t⟩) w) := by
  have hR : restB 1 p q ⟨1, a, b, t⟩ = (!(textE t) && (!(b != 0) && (withinB a 0 255))) := rfl
  rw [hR]
  refine Hs.enter Tryz.func41 [] [] [] [.g [.v (.int .i64 1), .v (.int .i64 a), .v (.int .i64 b), .v (.string t)], .c (.v (.int .i64 p)), .c (.v (.int .i64 q))] (Mem.start0 w) (by kernel_rfl) (by kernel_rfl) ?_
  refine Hs.run1 300 (fun _ => by kernel_rfl) fun b0 => ?_
  refine Hs.callV (v := .bool true) (fun w' H => within_any 1 1 16 w') (by kernel_rfl) ?_
  refine Hs.run0 300 (fun _ => by kernel_rfl) ?_
  refine Hs.condF (by kernel_rfl) ?_
  refine Hs.run0 300 (fun _ => by kernel_rfl) ?_
  refine Hs.any [0] (by kernel_rfl) ?_
  refine Hs.run0 300 (fun _ => by kernel_rfl) ?_
  apply Hs.share1 (β' := [] ++ [b0])
  · intro K
    refine Hs.branch2 0 4 (by kernel_rfl) ?_ ?_
    · refine Hs.callV (v := .agg sortC.toArray) (fun w' H => sorts_any w') (by kernel_rfl) ?_
      refine Hs.run1 300 (fun _ => by kernel_rfl) fun b1 => ?_
      exact K b1
    · refine Hs.run1 300 (fun _ => by kernel_rfl) fun b1 => ?_
      refine Hs.callV (v := .agg sortC.toArray) (fun w' H => sorts_any w') (by kernel_rfl) ?_
      refine Hs.run0 300 (fun _ => by kernel_rfl) ?_
      exact Hs.eqM (K b1) (by kernel_rfl) (by kernel_rfl)
  intro b1
  refine Hs.rung0 [3, 8] 300 (fun _ => by kernel_rfl) ?_
  refine Hs.bool 16 (textE t) (by kernel_rfl) (fun ht => ?_) (fun ht => ?_)
  · refine Hs.condT (by kernel_rfl) ?_
    refine Hs.rung0 [3, 8] 300 (fun _ => by kernel_rfl) ?_
    refine Hs.condT (by kernel_rfl) ?_
    refine Hs.run0 300 (fun _ => by kernel_rfl) ?_
    exact Hs.ret (v := .bool false) Tryz.func41 (by kernel_rfl) fun w' H => ⟨by rw [show (textE t) = true from ht]; rfl, H.only⟩
  refine Hs.condF (by kernel_rfl) ?_
  refine Hs.rung0 [3, 8] 300 (fun _ => by kernel_rfl) ?_
  refine Hs.bool 16 (b != 0) (by kernel_rfl) (fun hb => ?_) (fun hb => ?_)
  · refine Hs.condT (by kernel_rfl) ?_
    refine Hs.rung0 [3, 8] 300 (fun _ => by kernel_rfl) ?_
    refine Hs.condT (by kernel_rfl) ?_
    refine Hs.run0 300 (fun _ => by kernel_rfl) ?_
    exact Hs.ret (v := .bool false) Tryz.func41 (by kernel_rfl) fun w' H => ⟨by rw [show (textE t) = false from ht]; rw [show (b != 0) = true from hb]; rfl, H.only⟩
  refine Hs.condF (by kernel_rfl) ?_
  refine Hs.rung0 [3, 8] 300 (fun _ => by kernel_rfl) ?_
  refine Hs.condF (by kernel_rfl) ?_
  refine Hs.run0 300 (fun _ => by kernel_rfl) ?_
  refine Hs.callV (v := .bool (withinB a 0 255)) (fun w' H => plCode_any p q ⟨1, a, b, t⟩ w') (by kernel_rfl) ?_
  refine Hs.run0 300 (fun _ => by kernel_rfl) ?_
  exact Hs.ret (v := .bool (withinB a 0 255)) Tryz.func41 (by kernel_rfl) fun w' H => ⟨by rw [show (textE t) = false from ht]; rw [show (b != 0) = false from hb]; rfl, H.only⟩
theorem right_2 (a b : Int) (t : ByteArray) (p q : Int) (w : World) : Calls Tryz.prog 41 #[opA ⟨2, a, b, t⟩, .int .i64 p, .int .i64 q] w (RetB (restB 2 p q ⟨2, a, b, t⟩) w) := by
  have hR : restB 2 p q ⟨2, a, b, t⟩ = (!(b != 0) && (!(a != 0) && (shortB ⟨2, a, b, t⟩))) := rfl
  rw [hR]
  refine Hs.enter Tryz.func41 [] [] [] [.g [.v (.int .i64 2), .v (.int .i64 a), .v (.int .i64 b), .v (.string t)], .c (.v (.int .i64 p)), .c (.v (.int .i64 q))] (Mem.start0 w) (by kernel_rfl) (by kernel_rfl) ?_
  refine Hs.run1 300 (fun _ => by kernel_rfl) fun b0 => ?_
  refine Hs.callV (v := .bool true) (fun w' H => within_any 2 1 16 w') (by kernel_rfl) ?_
  refine Hs.run0 300 (fun _ => by kernel_rfl) ?_
  refine Hs.condF (by kernel_rfl) ?_
  refine Hs.run0 300 (fun _ => by kernel_rfl) ?_
  refine Hs.any [0] (by kernel_rfl) ?_
  refine Hs.run0 300 (fun _ => by kernel_rfl) ?_
  apply Hs.share1 (β' := [] ++ [b0])
  · intro K
    refine Hs.branch2 0 4 (by kernel_rfl) ?_ ?_
    · refine Hs.callV (v := .agg sortC.toArray) (fun w' H => sorts_any w') (by kernel_rfl) ?_
      refine Hs.run1 300 (fun _ => by kernel_rfl) fun b1 => ?_
      exact K b1
    · refine Hs.run1 300 (fun _ => by kernel_rfl) fun b1 => ?_
      refine Hs.callV (v := .agg sortC.toArray) (fun w' H => sorts_any w') (by kernel_rfl) ?_
      refine Hs.run0 300 (fun _ => by kernel_rfl) ?_
      exact Hs.eqM (K b1) (by kernel_rfl) (by kernel_rfl)
  intro b1
  refine Hs.rung0 [3, 8] 300 (fun _ => by kernel_rfl) ?_
  refine Hs.condF (by kernel_rfl) ?_
  refine Hs.rung0 [3, 8] 300 (fun _ => by kernel_rfl) ?_
  refine Hs.bool 16 (b != 0) (by kernel_rfl) (fun hb => ?_) (fun hb => ?_)
  · refine Hs.condT (by kernel_rfl) ?_
    refine Hs.rung0 [3, 8] 300 (fun _ => by kernel_rfl) ?_
    refine Hs.condT (by kernel_rfl) ?_
    refine Hs.run0 300 (fun _ => by kernel_rfl) ?_
    exact Hs.ret (v := .bool false) Tryz.func41 (by kernel_rfl) fun w' H => ⟨by rw [show (b != 0) = true from hb]; rfl, H.only⟩
  refine Hs.condF (by kernel_rfl) ?_
  refine Hs.rung0 [3, 8] 300 (fun _ => by kernel_rfl) ?_
  refine Hs.bool 16 (a != 0) (by kernel_rfl) (fun ha => ?_) (fun ha => ?_)
  · refine Hs.condT (by kernel_rfl) ?_
    
    
    refine Hs.run0 300 (fun _ => by kernel_rfl) ?_
    exact Hs.ret (v := .bool false) Tryz.func41 (by kernel_rfl) fun w' H => ⟨by rw [show (b != 0) = false from hb]; rw [show (a != 0) = true from ha]; rfl, H.only⟩
  refine Hs.condF (by kernel_rfl) ?_
  refine Hs.run0 300 (fun _ => by kernel_rfl) ?_
  refine Hs.callV (v := .bool (shortB ⟨2, a, b, t⟩)) (fun w' H => plShort_any p q ⟨2, a, b, t⟩ w') (by kernel_rfl) ?_
  refine Hs.run0 300 (fun _ => by kernel_rfl) ?_
  exact Hs.ret (v := .bool (shortB ⟨2, a, b, t⟩)) Tryz.func41 (by kernel_rfl) fun w' H => ⟨by rw [show (b != 0) = false from hb]; rw [show (a != 0) = false from ha]; rfl, H.only⟩
theorem right_3 (a b : Int) (t : ByteArray) (p q : Int) (w : World) : Calls Tryz.prog 41 #[opA ⟨3, a, b, t⟩, .int .i64 p, .int .i64 q] w (RetB (restB 3 p q ⟨3, a, b, t⟩) w) := by
  have hR : restB 3 p q ⟨3, a, b, t⟩ = (!(b != 0) && (!(a != 0) && (shortB ⟨3, a, b, t⟩))) := rfl
  rw [hR]
  refine Hs.enter Tryz.func41 [] [] [] [.g [.v (.int .i64 3), .v (.int .i64 a), .v (.int .i64 b), .v (.string t)], .c (.v (.int .i64 p)), .c (.v (.int .i64 q))] (Mem.start0 w) (by kernel_rfl) (by kernel_rfl) ?_
  refine Hs.run1 300 (fun _ => by kernel_rfl) fun b0 => ?_
  refine Hs.callV (v := .bool true) (fun w' H => within_any 3 1 16 w') (by kernel_rfl) ?_
  refine Hs.run0 300 (fun _ => by kernel_rfl) ?_
  refine Hs.condF (by kernel_rfl) ?_
  refine Hs.run0 300 (fun _ => by kernel_rfl) ?_
  refine Hs.any [0] (by kernel_rfl) ?_
  refine Hs.run0 300 (fun _ => by kernel_rfl) ?_
  apply Hs.share1 (β' := [] ++ [b0])
  · intro K
    refine Hs.branch2 0 4 (by kernel_rfl) ?_ ?_
    · refine Hs.callV (v := .agg sortC.toArray) (fun w' H => sorts_any w') (by kernel_rfl) ?_
      refine Hs.run1 300 (fun _ => by kernel_rfl) fun b1 => ?_
      exact K b1
    · refine Hs.run1 300 (fun _ => by kernel_rfl) fun b1 => ?_
      refine Hs.callV (v := .agg sortC.toArray) (fun w' H => sorts_any w') (by kernel_rfl) ?_
      refine Hs.run0 300 (fun _ => by kernel_rfl) ?_
      exact Hs.eqM (K b1) (by kernel_rfl) (by kernel_rfl)
  intro b1
  refine Hs.rung0 [3, 8] 300 (fun _ => by kernel_rfl) ?_
  refine Hs.condF (by kernel_rfl) ?_
  refine Hs.rung0 [3, 8] 300 (fun _ => by kernel_rfl) ?_
  refine Hs.bool 16 (b != 0) (by kernel_rfl) (fun hb => ?_) (fun hb => ?_)
  · refine Hs.condT (by kernel_rfl) ?_
    refine Hs.rung0 [3, 8] 300 (fun _ => by kernel_rfl) ?_
    refine Hs.condT (by kernel_rfl) ?_
    refine Hs.run0 300 (fun _ => by kernel_rfl) ?_
    exact Hs.ret (v := .bool false) Tryz.func41 (by kernel_rfl) fun w' H => ⟨by rw [show (b != 0) = true from hb]; rfl, H.only⟩
  refine Hs.condF (by kernel_rfl) ?_
  refine Hs.rung0 [3, 8] 300 (fun _ => by kernel_rfl) ?_
  refine Hs.bool 16 (a != 0) (by kernel_rfl) (fun ha => ?_) (fun ha => ?_)
  · refine Hs.condT (by kernel_rfl) ?_
    
    
    refine Hs.run0 300 (fun _ => by kernel_rfl) ?_
    exact Hs.ret (v := .bool false) Tryz.func41 (by kernel_rfl) fun w' H => ⟨by rw [show (b != 0) = false from hb]; rw [show (a != 0) = true from ha]; rfl, H.only⟩
  refine Hs.condF (by kernel_rfl) ?_
  refine Hs.run0 300 (fun _ => by kernel_rfl) ?_
  refine Hs.callV (v := .bool (shortB ⟨3, a, b, t⟩)) (fun w' H => plShort_any p q ⟨3, a, b, t⟩ w') (by kernel_rfl) ?_
  refine Hs.run0 300 (fun _ => by kernel_rfl) ?_
  exact Hs.ret (v := .bool (shortB ⟨3, a, b, t⟩)) Tryz.func41 (by kernel_rfl) fun w' H => ⟨by rw [show (b != 0) = false from hb]; rw [show (a != 0) = false from ha]; rfl, H.only⟩
theorem right_4 (a b : Int) (t : ByteArray) (p q : Int) (w : World) : Calls Tryz.prog 41 #[opA ⟨4, a, b, t⟩, .int .i64 p, .int .i64 q] w (RetB (restB 4 p q ⟨4, a, b, t⟩) w) := by
  have hR : restB 4 p q ⟨4, a, b, t⟩ = (!(textE t) && (!(b != 0) && (withinB a 1 1024))) := rfl
  rw [hR]
  refine Hs.enter Tryz.func41 [] [] [] [.g [.v (.int .i64 4), .v (.int .i64 a), .v (.int .i64 b), .v (.string t)], .c (.v (.int .i64 p)), .c (.v (.int .i64 q))] (Mem.start0 w) (by kernel_rfl) (by kernel_rfl) ?_
  refine Hs.run1 300 (fun _ => by kernel_rfl) fun b0 => ?_
  refine Hs.callV (v := .bool true) (fun w' H => within_any 4 1 16 w') (by kernel_rfl) ?_
  refine Hs.run0 300 (fun _ => by kernel_rfl) ?_
  refine Hs.condF (by kernel_rfl) ?_
  refine Hs.run0 300 (fun _ => by kernel_rfl) ?_
  refine Hs.any [0] (by kernel_rfl) ?_
  refine Hs.run0 300 (fun _ => by kernel_rfl) ?_
  apply Hs.share1 (β' := [] ++ [b0])
  · intro K
    refine Hs.branch2 0 4 (by kernel_rfl) ?_ ?_
    · refine Hs.callV (v := .agg sortC.toArray) (fun w' H => sorts_any w') (by kernel_rfl) ?_
      refine Hs.run1 300 (fun _ => by kernel_rfl) fun b1 => ?_
      exact K b1
    · refine Hs.run1 300 (fun _ => by kernel_rfl) fun b1 => ?_
      refine Hs.callV (v := .agg sortC.toArray) (fun w' H => sorts_any w') (by kernel_rfl) ?_
      refine Hs.run0 300 (fun _ => by kernel_rfl) ?_
      exact Hs.eqM (K b1) (by kernel_rfl) (by kernel_rfl)
  intro b1
  refine Hs.rung0 [3, 8] 300 (fun _ => by kernel_rfl) ?_
  refine Hs.bool 16 (textE t) (by kernel_rfl) (fun ht => ?_) (fun ht => ?_)
  · refine Hs.condT (by kernel_rfl) ?_
    refine Hs.rung0 [3, 8] 300 (fun _ => by kernel_rfl) ?_
    refine Hs.condT (by kernel_rfl) ?_
    refine Hs.run0 300 (fun _ => by kernel_rfl) ?_
    exact Hs.ret (v := .bool false) Tryz.func41 (by kernel_rfl) fun w' H => ⟨by rw [show (textE t) = true from ht]; rfl, H.only⟩
  refine Hs.condF (by kernel_rfl) ?_
  refine Hs.rung0 [3, 8] 300 (fun _ => by kernel_rfl) ?_
  refine Hs.bool 16 (b != 0) (by kernel_rfl) (fun hb => ?_) (fun hb => ?_)
  · refine Hs.condT (by kernel_rfl) ?_
    refine Hs.rung0 [3, 8] 300 (fun _ => by kernel_rfl) ?_
    refine Hs.condT (by kernel_rfl) ?_
    refine Hs.run0 300 (fun _ => by kernel_rfl) ?_
    exact Hs.ret (v := .bool false) Tryz.func41 (by kernel_rfl) fun w' H => ⟨by rw [show (textE t) = false from ht]; rw [show (b != 0) = true from hb]; rfl, H.only⟩
  refine Hs.condF (by kernel_rfl) ?_
  refine Hs.rung0 [3, 8] 300 (fun _ => by kernel_rfl) ?_
  refine Hs.condF (by kernel_rfl) ?_
  refine Hs.run0 300 (fun _ => by kernel_rfl) ?_
  refine Hs.callV (v := .bool (withinB a 1 1024)) (fun w' H => plCount_any p q ⟨4, a, b, t⟩ w') (by kernel_rfl) ?_
  refine Hs.run0 300 (fun _ => by kernel_rfl) ?_
  exact Hs.ret (v := .bool (withinB a 1 1024)) Tryz.func41 (by kernel_rfl) fun w' H => ⟨by rw [show (textE t) = false from ht]; rw [show (b != 0) = false from hb]; rfl, H.only⟩
theorem right_5 (a b : Int) (t : ByteArray) (p q : Int) (w : World) : Calls Tryz.prog 41 #[opA ⟨5, a, b, t⟩, .int .i64 p, .int .i64 q] w (RetB (restB 5 p q ⟨5, a, b, t⟩) w) := by
  have hR : restB 5 p q ⟨5, a, b, t⟩ = (!(textE t) && (!(b != 0) && (laterB p q a))) := rfl
  rw [hR]
  refine Hs.enter Tryz.func41 [] [] [] [.g [.v (.int .i64 5), .v (.int .i64 a), .v (.int .i64 b), .v (.string t)], .c (.v (.int .i64 p)), .c (.v (.int .i64 q))] (Mem.start0 w) (by kernel_rfl) (by kernel_rfl) ?_
  refine Hs.run1 300 (fun _ => by kernel_rfl) fun b0 => ?_
  refine Hs.callV (v := .bool true) (fun w' H => within_any 5 1 16 w') (by kernel_rfl) ?_
  refine Hs.run0 300 (fun _ => by kernel_rfl) ?_
  refine Hs.condF (by kernel_rfl) ?_
  refine Hs.run0 300 (fun _ => by kernel_rfl) ?_
  refine Hs.any [0] (by kernel_rfl) ?_
  refine Hs.run0 300 (fun _ => by kernel_rfl) ?_
  apply Hs.share1 (β' := [] ++ [b0])
  · intro K
    refine Hs.branch2 0 4 (by kernel_rfl) ?_ ?_
    · refine Hs.callV (v := .agg sortC.toArray) (fun w' H => sorts_any w') (by kernel_rfl) ?_
      refine Hs.run1 300 (fun _ => by kernel_rfl) fun b1 => ?_
      exact K b1
    · refine Hs.run1 300 (fun _ => by kernel_rfl) fun b1 => ?_
      refine Hs.callV (v := .agg sortC.toArray) (fun w' H => sorts_any w') (by kernel_rfl) ?_
      refine Hs.run0 300 (fun _ => by kernel_rfl) ?_
      exact Hs.eqM (K b1) (by kernel_rfl) (by kernel_rfl)
  intro b1
  refine Hs.rung0 [3, 8] 300 (fun _ => by kernel_rfl) ?_
  refine Hs.bool 16 (textE t) (by kernel_rfl) (fun ht => ?_) (fun ht => ?_)
  · refine Hs.condT (by kernel_rfl) ?_
    refine Hs.rung0 [3, 8] 300 (fun _ => by kernel_rfl) ?_
    refine Hs.condT (by kernel_rfl) ?_
    refine Hs.run0 300 (fun _ => by kernel_rfl) ?_
    exact Hs.ret (v := .bool false) Tryz.func41 (by kernel_rfl) fun w' H => ⟨by rw [show (textE t) = true from ht]; rfl, H.only⟩
  refine Hs.condF (by kernel_rfl) ?_
  refine Hs.rung0 [3, 8] 300 (fun _ => by kernel_rfl) ?_
  refine Hs.bool 16 (b != 0) (by kernel_rfl) (fun hb => ?_) (fun hb => ?_)
  · refine Hs.condT (by kernel_rfl) ?_
    refine Hs.rung0 [3, 8] 300 (fun _ => by kernel_rfl) ?_
    refine Hs.condT (by kernel_rfl) ?_
    refine Hs.run0 300 (fun _ => by kernel_rfl) ?_
    exact Hs.ret (v := .bool false) Tryz.func41 (by kernel_rfl) fun w' H => ⟨by rw [show (textE t) = false from ht]; rw [show (b != 0) = true from hb]; rfl, H.only⟩
  refine Hs.condF (by kernel_rfl) ?_
  refine Hs.rung0 [3, 8] 300 (fun _ => by kernel_rfl) ?_
  refine Hs.condF (by kernel_rfl) ?_
  refine Hs.run0 300 (fun _ => by kernel_rfl) ?_
  refine Hs.callV (v := .bool (laterB p q a)) (fun w' H => plLater_any p q ⟨5, a, b, t⟩ w') (by kernel_rfl) ?_
  refine Hs.run0 300 (fun _ => by kernel_rfl) ?_
  exact Hs.ret (v := .bool (laterB p q a)) Tryz.func41 (by kernel_rfl) fun w' H => ⟨by rw [show (textE t) = false from ht]; rw [show (b != 0) = false from hb]; rfl, H.only⟩
theorem right_6 (a b : Int) (t : ByteArray) (p q : Int) (w : World) : Calls Tryz.prog 41 #[opA ⟨6, a, b, t⟩, .int .i64 p, .int .i64 q] w (RetB (restB 6 p q ⟨6, a, b, t⟩) w) := by
  have hR : restB 6 p q ⟨6, a, b, t⟩ = (!(textE t) && (!(b != 0) && (laterB p q a))) := rfl
  rw [hR]
  refine Hs.enter Tryz.func41 [] [] [] [.g [.v (.int .i64 6), .v (.int .i64 a), .v (.int .i64 b), .v (.string t)], .c (.v (.int .i64 p)), .c (.v (.int .i64 q))] (Mem.start0 w) (by kernel_rfl) (by kernel_rfl) ?_
  refine Hs.run1 300 (fun _ => by kernel_rfl) fun b0 => ?_
  refine Hs.callV (v := .bool true) (fun w' H => within_any 6 1 16 w') (by kernel_rfl) ?_
  refine Hs.run0 300 (fun _ => by kernel_rfl) ?_
  refine Hs.condF (by kernel_rfl) ?_
  refine Hs.run0 300 (fun _ => by kernel_rfl) ?_
  refine Hs.any [0] (by kernel_rfl) ?_
  refine Hs.run0 300 (fun _ => by kernel_rfl) ?_
  apply Hs.share1 (β' := [] ++ [b0])
  · intro K
    refine Hs.branch2 0 4 (by kernel_rfl) ?_ ?_
    · refine Hs.callV (v := .agg sortC.toArray) (fun w' H => sorts_any w') (by kernel_rfl) ?_
      refine Hs.run1 300 (fun _ => by kernel_rfl) fun b1 => ?_
      exact K b1
    · refine Hs.run1 300 (fun _ => by kernel_rfl) fun b1 => ?_
      refine Hs.callV (v := .agg sortC.toArray) (fun w' H => sorts_any w') (by kernel_rfl) ?_
      refine Hs.run0 300 (fun _ => by kernel_rfl) ?_
      exact Hs.eqM (K b1) (by kernel_rfl) (by kernel_rfl)
  intro b1
  refine Hs.rung0 [3, 8] 300 (fun _ => by kernel_rfl) ?_
  refine Hs.bool 16 (textE t) (by kernel_rfl) (fun ht => ?_) (fun ht => ?_)
  · refine Hs.condT (by kernel_rfl) ?_
    refine Hs.rung0 [3, 8] 300 (fun _ => by kernel_rfl) ?_
    refine Hs.condT (by kernel_rfl) ?_
    refine Hs.run0 300 (fun _ => by kernel_rfl) ?_
    exact Hs.ret (v := .bool false) Tryz.func41 (by kernel_rfl) fun w' H => ⟨by rw [show (textE t) = true from ht]; rfl, H.only⟩
  refine Hs.condF (by kernel_rfl) ?_
  refine Hs.rung0 [3, 8] 300 (fun _ => by kernel_rfl) ?_
  refine Hs.bool 16 (b != 0) (by kernel_rfl) (fun hb => ?_) (fun hb => ?_)
  · refine Hs.condT (by kernel_rfl) ?_
    refine Hs.rung0 [3, 8] 300 (fun _ => by kernel_rfl) ?_
    refine Hs.condT (by kernel_rfl) ?_
    refine Hs.run0 300 (fun _ => by kernel_rfl) ?_
    exact Hs.ret (v := .bool false) Tryz.func41 (by kernel_rfl) fun w' H => ⟨by rw [show (textE t) = false from ht]; rw [show (b != 0) = true from hb]; rfl, H.only⟩
  refine Hs.condF (by kernel_rfl) ?_
  refine Hs.rung0 [3, 8] 300 (fun _ => by kernel_rfl) ?_
  refine Hs.condF (by kernel_rfl) ?_
  refine Hs.run0 300 (fun _ => by kernel_rfl) ?_
  refine Hs.callV (v := .bool (laterB p q a)) (fun w' H => plLater_any p q ⟨6, a, b, t⟩ w') (by kernel_rfl) ?_
  refine Hs.run0 300 (fun _ => by kernel_rfl) ?_
  exact Hs.ret (v := .bool (laterB p q a)) Tryz.func41 (by kernel_rfl) fun w' H => ⟨by rw [show (textE t) = false from ht]; rw [show (b != 0) = false from hb]; rfl, H.only⟩
theorem right_7 (a b : Int) (t : ByteArray) (p q : Int) (w : World) : Calls Tryz.prog 41 #[opA ⟨7, a, b, t⟩, .int .i64 p, .int .i64 q] w (RetB (restB 7 p q ⟨7, a, b, t⟩) w) := by
  have hR : restB 7 p q ⟨7, a, b, t⟩ = (!(textE t) && (!(b != 0) && (withinB a 0 3))) := rfl
  rw [hR]
  refine Hs.enter Tryz.func41 [] [] [] [.g [.v (.int .i64 7), .v (.int .i64 a), .v (.int .i64 b), .v (.string t)], .c (.v (.int .i64 p)), .c (.v (.int .i64 q))] (Mem.start0 w) (by kernel_rfl) (by kernel_rfl) ?_
  refine Hs.run1 300 (fun _ => by kernel_rfl) fun b0 => ?_
  refine Hs.callV (v := .bool true) (fun w' H => within_any 7 1 16 w') (by kernel_rfl) ?_
  refine Hs.run0 300 (fun _ => by kernel_rfl) ?_
  refine Hs.condF (by kernel_rfl) ?_
  refine Hs.run0 300 (fun _ => by kernel_rfl) ?_
  refine Hs.any [0] (by kernel_rfl) ?_
  refine Hs.run0 300 (fun _ => by kernel_rfl) ?_
  apply Hs.share1 (β' := [] ++ [b0])
  · intro K
    refine Hs.branch2 0 4 (by kernel_rfl) ?_ ?_
    · refine Hs.callV (v := .agg sortC.toArray) (fun w' H => sorts_any w') (by kernel_rfl) ?_
      refine Hs.run1 300 (fun _ => by kernel_rfl) fun b1 => ?_
      exact K b1
    · refine Hs.run1 300 (fun _ => by kernel_rfl) fun b1 => ?_
      refine Hs.callV (v := .agg sortC.toArray) (fun w' H => sorts_any w') (by kernel_rfl) ?_
      refine Hs.run0 300 (fun _ => by kernel_rfl) ?_
      exact Hs.eqM (K b1) (by kernel_rfl) (by kernel_rfl)
  intro b1
  refine Hs.rung0 [3, 8] 300 (fun _ => by kernel_rfl) ?_
  refine Hs.bool 16 (textE t) (by kernel_rfl) (fun ht => ?_) (fun ht => ?_)
  · refine Hs.condT (by kernel_rfl) ?_
    refine Hs.rung0 [3, 8] 300 (fun _ => by kernel_rfl) ?_
    refine Hs.condT (by kernel_rfl) ?_
    refine Hs.run0 300 (fun _ => by kernel_rfl) ?_
    exact Hs.ret (v := .bool false) Tryz.func41 (by kernel_rfl) fun w' H => ⟨by rw [show (textE t) = true from ht]; rfl, H.only⟩
  refine Hs.condF (by kernel_rfl) ?_
  refine Hs.rung0 [3, 8] 300 (fun _ => by kernel_rfl) ?_
  refine Hs.bool 16 (b != 0) (by kernel_rfl) (fun hb => ?_) (fun hb => ?_)
  · refine Hs.condT (by kernel_rfl) ?_
    refine Hs.rung0 [3, 8] 300 (fun _ => by kernel_rfl) ?_
    refine Hs.condT (by kernel_rfl) ?_
    refine Hs.run0 300 (fun _ => by kernel_rfl) ?_
    exact Hs.ret (v := .bool false) Tryz.func41 (by kernel_rfl) fun w' H => ⟨by rw [show (textE t) = false from ht]; rw [show (b != 0) = true from hb]; rfl, H.only⟩
  refine Hs.condF (by kernel_rfl) ?_
  refine Hs.rung0 [3, 8] 300 (fun _ => by kernel_rfl) ?_
  refine Hs.condF (by kernel_rfl) ?_
  refine Hs.run0 300 (fun _ => by kernel_rfl) ?_
  refine Hs.callV (v := .bool (withinB a 0 3)) (fun w' H => plFlags_any p q ⟨7, a, b, t⟩ w') (by kernel_rfl) ?_
  refine Hs.run0 300 (fun _ => by kernel_rfl) ?_
  exact Hs.ret (v := .bool (withinB a 0 3)) Tryz.func41 (by kernel_rfl) fun w' H => ⟨by rw [show (textE t) = false from ht]; rw [show (b != 0) = false from hb]; rfl, H.only⟩
theorem right_8 (a b : Int) (t : ByteArray) (p q : Int) (w : World) : Calls Tryz.prog 41 #[opA ⟨8, a, b, t⟩, .int .i64 p, .int .i64 q] w (RetB (restB 8 p q ⟨8, a, b, t⟩) w) := by
  have hR : restB 8 p q ⟨8, a, b, t⟩ = (!(textE t) && (withinB a 0 4 && isS b)) := rfl
  rw [hR]
  refine Hs.enter Tryz.func41 [] [] [] [.g [.v (.int .i64 8), .v (.int .i64 a), .v (.int .i64 b), .v (.string t)], .c (.v (.int .i64 p)), .c (.v (.int .i64 q))] (Mem.start0 w) (by kernel_rfl) (by kernel_rfl) ?_
  refine Hs.run1 300 (fun _ => by kernel_rfl) fun b0 => ?_
  refine Hs.callV (v := .bool true) (fun w' H => within_any 8 1 16 w') (by kernel_rfl) ?_
  refine Hs.run0 300 (fun _ => by kernel_rfl) ?_
  refine Hs.condF (by kernel_rfl) ?_
  refine Hs.run0 300 (fun _ => by kernel_rfl) ?_
  refine Hs.any [0] (by kernel_rfl) ?_
  refine Hs.run0 300 (fun _ => by kernel_rfl) ?_
  apply Hs.share1 (β' := [] ++ [b0])
  · intro K
    refine Hs.branch2 0 4 (by kernel_rfl) ?_ ?_
    · refine Hs.callV (v := .agg sortC.toArray) (fun w' H => sorts_any w') (by kernel_rfl) ?_
      refine Hs.run1 300 (fun _ => by kernel_rfl) fun b1 => ?_
      exact K b1
    · refine Hs.run1 300 (fun _ => by kernel_rfl) fun b1 => ?_
      refine Hs.callV (v := .agg sortC.toArray) (fun w' H => sorts_any w') (by kernel_rfl) ?_
      refine Hs.run0 300 (fun _ => by kernel_rfl) ?_
      exact Hs.eqM (K b1) (by kernel_rfl) (by kernel_rfl)
  intro b1
  refine Hs.rung0 [3, 8] 300 (fun _ => by kernel_rfl) ?_
  refine Hs.bool 16 (textE t) (by kernel_rfl) (fun ht => ?_) (fun ht => ?_)
  · refine Hs.condT (by kernel_rfl) ?_
    refine Hs.rung0 [3, 8] 300 (fun _ => by kernel_rfl) ?_
    refine Hs.condT (by kernel_rfl) ?_
    refine Hs.run0 300 (fun _ => by kernel_rfl) ?_
    exact Hs.ret (v := .bool false) Tryz.func41 (by kernel_rfl) fun w' H => ⟨by rw [show (textE t) = true from ht]; rfl, H.only⟩
  refine Hs.condF (by kernel_rfl) ?_
  refine Hs.rung0 [3, 8] 300 (fun _ => by kernel_rfl) ?_
  refine Hs.condF (by kernel_rfl) ?_
  refine Hs.rung0 [3, 8] 300 (fun _ => by kernel_rfl) ?_
  refine Hs.condF (by kernel_rfl) ?_
  refine Hs.run0 300 (fun _ => by kernel_rfl) ?_
  refine Hs.callV (v := .bool (withinB a 0 4 && isS b)) (fun w' H => plTarget_any p q ⟨8, a, b, t⟩ w') (by kernel_rfl) ?_
  refine Hs.run0 300 (fun _ => by kernel_rfl) ?_
  exact Hs.ret (v := .bool (withinB a 0 4 && isS b)) Tryz.func41 (by kernel_rfl) fun w' H => ⟨by rw [show (textE t) = false from ht]; rfl, H.only⟩
theorem right_9 (a b : Int) (t : ByteArray) (p q : Int) (w : World) : Calls Tryz.prog 41 #[opA ⟨9, a, b, t⟩, .int .i64 p, .int .i64 q] w (RetB (restB 9 p q ⟨9, a, b, t⟩) w) := by
  have hR : restB 9 p q ⟨9, a, b, t⟩ = (!(textE t) && (!(b != 0) && (withinB a 0 2))) := rfl
  rw [hR]
  refine Hs.enter Tryz.func41 [] [] [] [.g [.v (.int .i64 9), .v (.int .i64 a), .v (.int .i64 b), .v (.string t)], .c (.v (.int .i64 p)), .c (.v (.int .i64 q))] (Mem.start0 w) (by kernel_rfl) (by kernel_rfl) ?_
  refine Hs.run1 300 (fun _ => by kernel_rfl) fun b0 => ?_
  refine Hs.callV (v := .bool true) (fun w' H => within_any 9 1 16 w') (by kernel_rfl) ?_
  refine Hs.run0 300 (fun _ => by kernel_rfl) ?_
  refine Hs.condF (by kernel_rfl) ?_
  refine Hs.run0 300 (fun _ => by kernel_rfl) ?_
  refine Hs.any [0] (by kernel_rfl) ?_
  refine Hs.run0 300 (fun _ => by kernel_rfl) ?_
  apply Hs.share1 (β' := [] ++ [b0])
  · intro K
    refine Hs.branch2 0 4 (by kernel_rfl) ?_ ?_
    · refine Hs.callV (v := .agg sortC.toArray) (fun w' H => sorts_any w') (by kernel_rfl) ?_
      refine Hs.run1 300 (fun _ => by kernel_rfl) fun b1 => ?_
      exact K b1
    · refine Hs.run1 300 (fun _ => by kernel_rfl) fun b1 => ?_
      refine Hs.callV (v := .agg sortC.toArray) (fun w' H => sorts_any w') (by kernel_rfl) ?_
      refine Hs.run0 300 (fun _ => by kernel_rfl) ?_
      exact Hs.eqM (K b1) (by kernel_rfl) (by kernel_rfl)
  intro b1
  refine Hs.rung0 [3, 8] 300 (fun _ => by kernel_rfl) ?_
  refine Hs.bool 16 (textE t) (by kernel_rfl) (fun ht => ?_) (fun ht => ?_)
  · refine Hs.condT (by kernel_rfl) ?_
    refine Hs.rung0 [3, 8] 300 (fun _ => by kernel_rfl) ?_
    refine Hs.condT (by kernel_rfl) ?_
    refine Hs.run0 300 (fun _ => by kernel_rfl) ?_
    exact Hs.ret (v := .bool false) Tryz.func41 (by kernel_rfl) fun w' H => ⟨by rw [show (textE t) = true from ht]; rfl, H.only⟩
  refine Hs.condF (by kernel_rfl) ?_
  refine Hs.rung0 [3, 8] 300 (fun _ => by kernel_rfl) ?_
  refine Hs.bool 16 (b != 0) (by kernel_rfl) (fun hb => ?_) (fun hb => ?_)
  · refine Hs.condT (by kernel_rfl) ?_
    refine Hs.rung0 [3, 8] 300 (fun _ => by kernel_rfl) ?_
    refine Hs.condT (by kernel_rfl) ?_
    refine Hs.run0 300 (fun _ => by kernel_rfl) ?_
    exact Hs.ret (v := .bool false) Tryz.func41 (by kernel_rfl) fun w' H => ⟨by rw [show (textE t) = false from ht]; rw [show (b != 0) = true from hb]; rfl, H.only⟩
  refine Hs.condF (by kernel_rfl) ?_
  refine Hs.rung0 [3, 8] 300 (fun _ => by kernel_rfl) ?_
  refine Hs.condF (by kernel_rfl) ?_
  refine Hs.run0 300 (fun _ => by kernel_rfl) ?_
  refine Hs.callV (v := .bool (withinB a 0 2)) (fun w' H => plWhose_any p q ⟨9, a, b, t⟩ w') (by kernel_rfl) ?_
  refine Hs.run0 300 (fun _ => by kernel_rfl) ?_
  exact Hs.ret (v := .bool (withinB a 0 2)) Tryz.func41 (by kernel_rfl) fun w' H => ⟨by rw [show (textE t) = false from ht]; rw [show (b != 0) = false from hb]; rfl, H.only⟩
theorem right_10 (a b : Int) (t : ByteArray) (p q : Int) (w : World) : Calls Tryz.prog 41 #[opA ⟨10, a, b, t⟩, .int .i64 p, .int .i64 q] w (RetB (restB 10 p q ⟨10, a, b, t⟩) w) := by
  have hR : restB 10 p q ⟨10, a, b, t⟩ = (!(textE t) && (!(b != 0) && (!(a != 0) && (true)))) := rfl
  rw [hR]
  refine Hs.enter Tryz.func41 [] [] [] [.g [.v (.int .i64 10), .v (.int .i64 a), .v (.int .i64 b), .v (.string t)], .c (.v (.int .i64 p)), .c (.v (.int .i64 q))] (Mem.start0 w) (by kernel_rfl) (by kernel_rfl) ?_
  refine Hs.run1 300 (fun _ => by kernel_rfl) fun b0 => ?_
  refine Hs.callV (v := .bool true) (fun w' H => within_any 10 1 16 w') (by kernel_rfl) ?_
  refine Hs.run0 300 (fun _ => by kernel_rfl) ?_
  refine Hs.condF (by kernel_rfl) ?_
  refine Hs.run0 300 (fun _ => by kernel_rfl) ?_
  refine Hs.any [0] (by kernel_rfl) ?_
  refine Hs.run0 300 (fun _ => by kernel_rfl) ?_
  apply Hs.share1 (β' := [] ++ [b0])
  · intro K
    refine Hs.branch2 0 4 (by kernel_rfl) ?_ ?_
    · refine Hs.callV (v := .agg sortC.toArray) (fun w' H => sorts_any w') (by kernel_rfl) ?_
      refine Hs.run1 300 (fun _ => by kernel_rfl) fun b1 => ?_
      exact K b1
    · refine Hs.run1 300 (fun _ => by kernel_rfl) fun b1 => ?_
      refine Hs.callV (v := .agg sortC.toArray) (fun w' H => sorts_any w') (by kernel_rfl) ?_
      refine Hs.run0 300 (fun _ => by kernel_rfl) ?_
      exact Hs.eqM (K b1) (by kernel_rfl) (by kernel_rfl)
  intro b1
  refine Hs.rung0 [3, 8] 300 (fun _ => by kernel_rfl) ?_
  refine Hs.bool 16 (textE t) (by kernel_rfl) (fun ht => ?_) (fun ht => ?_)
  · refine Hs.condT (by kernel_rfl) ?_
    refine Hs.rung0 [3, 8] 300 (fun _ => by kernel_rfl) ?_
    refine Hs.condT (by kernel_rfl) ?_
    refine Hs.run0 300 (fun _ => by kernel_rfl) ?_
    exact Hs.ret (v := .bool false) Tryz.func41 (by kernel_rfl) fun w' H => ⟨by rw [show (textE t) = true from ht]; rfl, H.only⟩
  refine Hs.condF (by kernel_rfl) ?_
  refine Hs.rung0 [3, 8] 300 (fun _ => by kernel_rfl) ?_
  refine Hs.bool 16 (b != 0) (by kernel_rfl) (fun hb => ?_) (fun hb => ?_)
  · refine Hs.condT (by kernel_rfl) ?_
    refine Hs.rung0 [3, 8] 300 (fun _ => by kernel_rfl) ?_
    refine Hs.condT (by kernel_rfl) ?_
    refine Hs.run0 300 (fun _ => by kernel_rfl) ?_
    exact Hs.ret (v := .bool false) Tryz.func41 (by kernel_rfl) fun w' H => ⟨by rw [show (textE t) = false from ht]; rw [show (b != 0) = true from hb]; rfl, H.only⟩
  refine Hs.condF (by kernel_rfl) ?_
  refine Hs.rung0 [3, 8] 300 (fun _ => by kernel_rfl) ?_
  refine Hs.bool 16 (a != 0) (by kernel_rfl) (fun ha => ?_) (fun ha => ?_)
  · refine Hs.condT (by kernel_rfl) ?_
    
    
    refine Hs.run0 300 (fun _ => by kernel_rfl) ?_
    exact Hs.ret (v := .bool false) Tryz.func41 (by kernel_rfl) fun w' H => ⟨by rw [show (textE t) = false from ht]; rw [show (b != 0) = false from hb]; rw [show (a != 0) = true from ha]; rfl, H.only⟩
  refine Hs.condF (by kernel_rfl) ?_
  refine Hs.run0 300 (fun _ => by kernel_rfl) ?_
  refine Hs.callV (v := .bool (true)) (fun w' H => plAny_any p q ⟨10, a, b, t⟩ w') (by kernel_rfl) ?_
  refine Hs.run0 300 (fun _ => by kernel_rfl) ?_
  exact Hs.ret (v := .bool (true)) Tryz.func41 (by kernel_rfl) fun w' H => ⟨by rw [show (textE t) = false from ht]; rw [show (b != 0) = false from hb]; rw [show (a != 0) = false from ha]; rfl, H.only⟩
theorem right_11 (a b : Int) (t : ByteArray) (p q : Int) (w : World) : Calls Tryz.prog 41 #[opA ⟨11, a, b, t⟩, .int .i64 p, .int .i64 q] w (RetB (restB 11 p q ⟨11, a, b, t⟩) w) := by
  have hR : restB 11 p q ⟨11, a, b, t⟩ = (!(textE t) && (!(b != 0) && (withinB a 0 1))) := rfl
  rw [hR]
  refine Hs.enter Tryz.func41 [] [] [] [.g [.v (.int .i64 11), .v (.int .i64 a), .v (.int .i64 b), .v (.string t)], .c (.v (.int .i64 p)), .c (.v (.int .i64 q))] (Mem.start0 w) (by kernel_rfl) (by kernel_rfl) ?_
  refine Hs.run1 300 (fun _ => by kernel_rfl) fun b0 => ?_
  refine Hs.callV (v := .bool true) (fun w' H => within_any 11 1 16 w') (by kernel_rfl) ?_
  refine Hs.run0 300 (fun _ => by kernel_rfl) ?_
  refine Hs.condF (by kernel_rfl) ?_
  refine Hs.run0 300 (fun _ => by kernel_rfl) ?_
  refine Hs.any [0] (by kernel_rfl) ?_
  refine Hs.run0 300 (fun _ => by kernel_rfl) ?_
  apply Hs.share1 (β' := [] ++ [b0])
  · intro K
    refine Hs.branch2 0 4 (by kernel_rfl) ?_ ?_
    · refine Hs.callV (v := .agg sortC.toArray) (fun w' H => sorts_any w') (by kernel_rfl) ?_
      refine Hs.run1 300 (fun _ => by kernel_rfl) fun b1 => ?_
      exact K b1
    · refine Hs.run1 300 (fun _ => by kernel_rfl) fun b1 => ?_
      refine Hs.callV (v := .agg sortC.toArray) (fun w' H => sorts_any w') (by kernel_rfl) ?_
      refine Hs.run0 300 (fun _ => by kernel_rfl) ?_
      exact Hs.eqM (K b1) (by kernel_rfl) (by kernel_rfl)
  intro b1
  refine Hs.rung0 [3, 8] 300 (fun _ => by kernel_rfl) ?_
  refine Hs.bool 16 (textE t) (by kernel_rfl) (fun ht => ?_) (fun ht => ?_)
  · refine Hs.condT (by kernel_rfl) ?_
    refine Hs.rung0 [3, 8] 300 (fun _ => by kernel_rfl) ?_
    refine Hs.condT (by kernel_rfl) ?_
    refine Hs.run0 300 (fun _ => by kernel_rfl) ?_
    exact Hs.ret (v := .bool false) Tryz.func41 (by kernel_rfl) fun w' H => ⟨by rw [show (textE t) = true from ht]; rfl, H.only⟩
  refine Hs.condF (by kernel_rfl) ?_
  refine Hs.rung0 [3, 8] 300 (fun _ => by kernel_rfl) ?_
  refine Hs.bool 16 (b != 0) (by kernel_rfl) (fun hb => ?_) (fun hb => ?_)
  · refine Hs.condT (by kernel_rfl) ?_
    refine Hs.rung0 [3, 8] 300 (fun _ => by kernel_rfl) ?_
    refine Hs.condT (by kernel_rfl) ?_
    refine Hs.run0 300 (fun _ => by kernel_rfl) ?_
    exact Hs.ret (v := .bool false) Tryz.func41 (by kernel_rfl) fun w' H => ⟨by rw [show (textE t) = false from ht]; rw [show (b != 0) = true from hb]; rfl, H.only⟩
  refine Hs.condF (by kernel_rfl) ?_
  refine Hs.rung0 [3, 8] 300 (fun _ => by kernel_rfl) ?_
  refine Hs.condF (by kernel_rfl) ?_
  refine Hs.run0 300 (fun _ => by kernel_rfl) ?_
  refine Hs.callV (v := .bool (withinB a 0 1)) (fun w' H => plEither_any p q ⟨11, a, b, t⟩ w') (by kernel_rfl) ?_
  refine Hs.run0 300 (fun _ => by kernel_rfl) ?_
  exact Hs.ret (v := .bool (withinB a 0 1)) Tryz.func41 (by kernel_rfl) fun w' H => ⟨by rw [show (textE t) = false from ht]; rw [show (b != 0) = false from hb]; rfl, H.only⟩
theorem right_12 (a b : Int) (t : ByteArray) (p q : Int) (w : World) : Calls Tryz.prog 41 #[opA ⟨12, a, b, t⟩, .int .i64 p, .int .i64 q] w (RetB (restB 12 p q ⟨12, a, b, t⟩) w) := by
  have hR : restB 12 p q ⟨12, a, b, t⟩ = (!(textE t) && (actOk a b)) := rfl
  rw [hR]
  refine Hs.enter Tryz.func41 [] [] [] [.g [.v (.int .i64 12), .v (.int .i64 a), .v (.int .i64 b), .v (.string t)], .c (.v (.int .i64 p)), .c (.v (.int .i64 q))] (Mem.start0 w) (by kernel_rfl) (by kernel_rfl) ?_
  refine Hs.run1 300 (fun _ => by kernel_rfl) fun b0 => ?_
  refine Hs.callV (v := .bool true) (fun w' H => within_any 12 1 16 w') (by kernel_rfl) ?_
  refine Hs.run0 300 (fun _ => by kernel_rfl) ?_
  refine Hs.condF (by kernel_rfl) ?_
  refine Hs.run0 300 (fun _ => by kernel_rfl) ?_
  refine Hs.any [0] (by kernel_rfl) ?_
  refine Hs.run0 300 (fun _ => by kernel_rfl) ?_
  apply Hs.share1 (β' := [] ++ [b0])
  · intro K
    refine Hs.branch2 0 4 (by kernel_rfl) ?_ ?_
    · refine Hs.callV (v := .agg sortC.toArray) (fun w' H => sorts_any w') (by kernel_rfl) ?_
      refine Hs.run1 300 (fun _ => by kernel_rfl) fun b1 => ?_
      exact K b1
    · refine Hs.run1 300 (fun _ => by kernel_rfl) fun b1 => ?_
      refine Hs.callV (v := .agg sortC.toArray) (fun w' H => sorts_any w') (by kernel_rfl) ?_
      refine Hs.run0 300 (fun _ => by kernel_rfl) ?_
      exact Hs.eqM (K b1) (by kernel_rfl) (by kernel_rfl)
  intro b1
  refine Hs.rung0 [3, 8] 300 (fun _ => by kernel_rfl) ?_
  refine Hs.bool 16 (textE t) (by kernel_rfl) (fun ht => ?_) (fun ht => ?_)
  · refine Hs.condT (by kernel_rfl) ?_
    refine Hs.rung0 [3, 8] 300 (fun _ => by kernel_rfl) ?_
    refine Hs.condT (by kernel_rfl) ?_
    refine Hs.run0 300 (fun _ => by kernel_rfl) ?_
    exact Hs.ret (v := .bool false) Tryz.func41 (by kernel_rfl) fun w' H => ⟨by rw [show (textE t) = true from ht]; rfl, H.only⟩
  refine Hs.condF (by kernel_rfl) ?_
  refine Hs.rung0 [3, 8] 300 (fun _ => by kernel_rfl) ?_
  refine Hs.condF (by kernel_rfl) ?_
  refine Hs.rung0 [3, 8] 300 (fun _ => by kernel_rfl) ?_
  refine Hs.condF (by kernel_rfl) ?_
  refine Hs.run0 300 (fun _ => by kernel_rfl) ?_
  refine Hs.callV (v := .bool (actOk a b)) (fun w' H => plAct_any p q ⟨12, a, b, t⟩ w') (by kernel_rfl) ?_
  refine Hs.run0 300 (fun _ => by kernel_rfl) ?_
  exact Hs.ret (v := .bool (actOk a b)) Tryz.func41 (by kernel_rfl) fun w' H => ⟨by rw [show (textE t) = false from ht]; rfl, H.only⟩
theorem right_13 (a b : Int) (t : ByteArray) (p q : Int) (w : World) : Calls Tryz.prog 41 #[opA ⟨13, a, b, t⟩, .int .i64 p, .int .i64 q] w (RetB (restB 13 p q ⟨13, a, b, t⟩) w) := by
  have hR : restB 13 p q ⟨13, a, b, t⟩ = (!(textE t) && (isS a && withinB b 0 1)) := rfl
  rw [hR]
  refine Hs.enter Tryz.func41 [] [] [] [.g [.v (.int .i64 13), .v (.int .i64 a), .v (.int .i64 b), .v (.string t)], .c (.v (.int .i64 p)), .c (.v (.int .i64 q))] (Mem.start0 w) (by kernel_rfl) (by kernel_rfl) ?_
  refine Hs.run1 300 (fun _ => by kernel_rfl) fun b0 => ?_
  refine Hs.callV (v := .bool true) (fun w' H => within_any 13 1 16 w') (by kernel_rfl) ?_
  refine Hs.run0 300 (fun _ => by kernel_rfl) ?_
  refine Hs.condF (by kernel_rfl) ?_
  refine Hs.run0 300 (fun _ => by kernel_rfl) ?_
  refine Hs.any [0] (by kernel_rfl) ?_
  refine Hs.run0 300 (fun _ => by kernel_rfl) ?_
  apply Hs.share1 (β' := [] ++ [b0])
  · intro K
    refine Hs.branch2 0 4 (by kernel_rfl) ?_ ?_
    · refine Hs.callV (v := .agg sortC.toArray) (fun w' H => sorts_any w') (by kernel_rfl) ?_
      refine Hs.run1 300 (fun _ => by kernel_rfl) fun b1 => ?_
      exact K b1
    · refine Hs.run1 300 (fun _ => by kernel_rfl) fun b1 => ?_
      refine Hs.callV (v := .agg sortC.toArray) (fun w' H => sorts_any w') (by kernel_rfl) ?_
      refine Hs.run0 300 (fun _ => by kernel_rfl) ?_
      exact Hs.eqM (K b1) (by kernel_rfl) (by kernel_rfl)
  intro b1
  refine Hs.rung0 [3, 8] 300 (fun _ => by kernel_rfl) ?_
  refine Hs.bool 16 (textE t) (by kernel_rfl) (fun ht => ?_) (fun ht => ?_)
  · refine Hs.condT (by kernel_rfl) ?_
    refine Hs.rung0 [3, 8] 300 (fun _ => by kernel_rfl) ?_
    refine Hs.condT (by kernel_rfl) ?_
    refine Hs.run0 300 (fun _ => by kernel_rfl) ?_
    exact Hs.ret (v := .bool false) Tryz.func41 (by kernel_rfl) fun w' H => ⟨by rw [show (textE t) = true from ht]; rfl, H.only⟩
  refine Hs.condF (by kernel_rfl) ?_
  refine Hs.rung0 [3, 8] 300 (fun _ => by kernel_rfl) ?_
  refine Hs.condF (by kernel_rfl) ?_
  refine Hs.rung0 [3, 8] 300 (fun _ => by kernel_rfl) ?_
  refine Hs.condF (by kernel_rfl) ?_
  refine Hs.run0 300 (fun _ => by kernel_rfl) ?_
  refine Hs.callV (v := .bool (isS a && withinB b 0 1)) (fun w' H => plMask_any p q ⟨13, a, b, t⟩ w') (by kernel_rfl) ?_
  refine Hs.run0 300 (fun _ => by kernel_rfl) ?_
  exact Hs.ret (v := .bool (isS a && withinB b 0 1)) Tryz.func41 (by kernel_rfl) fun w' H => ⟨by rw [show (textE t) = false from ht]; rfl, H.only⟩
theorem right_14 (a b : Int) (t : ByteArray) (p q : Int) (w : World) : Calls Tryz.prog 41 #[opA ⟨14, a, b, t⟩, .int .i64 p, .int .i64 q] w (RetB (restB 14 p q ⟨14, a, b, t⟩) w) := by
  have hR : restB 14 p q ⟨14, a, b, t⟩ = (!(textE t) && (!(b != 0) && (withinB a 0 1000))) := rfl
  rw [hR]
  refine Hs.enter Tryz.func41 [] [] [] [.g [.v (.int .i64 14), .v (.int .i64 a), .v (.int .i64 b), .v (.string t)], .c (.v (.int .i64 p)), .c (.v (.int .i64 q))] (Mem.start0 w) (by kernel_rfl) (by kernel_rfl) ?_
  refine Hs.run1 300 (fun _ => by kernel_rfl) fun b0 => ?_
  refine Hs.callV (v := .bool true) (fun w' H => within_any 14 1 16 w') (by kernel_rfl) ?_
  refine Hs.run0 300 (fun _ => by kernel_rfl) ?_
  refine Hs.condF (by kernel_rfl) ?_
  refine Hs.run0 300 (fun _ => by kernel_rfl) ?_
  refine Hs.any [0] (by kernel_rfl) ?_
  refine Hs.run0 300 (fun _ => by kernel_rfl) ?_
  apply Hs.share1 (β' := [] ++ [b0])
  · intro K
    refine Hs.branch2 0 4 (by kernel_rfl) ?_ ?_
    · refine Hs.callV (v := .agg sortC.toArray) (fun w' H => sorts_any w') (by kernel_rfl) ?_
      refine Hs.run1 300 (fun _ => by kernel_rfl) fun b1 => ?_
      exact K b1
    · refine Hs.run1 300 (fun _ => by kernel_rfl) fun b1 => ?_
      refine Hs.callV (v := .agg sortC.toArray) (fun w' H => sorts_any w') (by kernel_rfl) ?_
      refine Hs.run0 300 (fun _ => by kernel_rfl) ?_
      exact Hs.eqM (K b1) (by kernel_rfl) (by kernel_rfl)
  intro b1
  refine Hs.rung0 [3, 8] 300 (fun _ => by kernel_rfl) ?_
  refine Hs.bool 16 (textE t) (by kernel_rfl) (fun ht => ?_) (fun ht => ?_)
  · refine Hs.condT (by kernel_rfl) ?_
    refine Hs.rung0 [3, 8] 300 (fun _ => by kernel_rfl) ?_
    refine Hs.condT (by kernel_rfl) ?_
    refine Hs.run0 300 (fun _ => by kernel_rfl) ?_
    exact Hs.ret (v := .bool false) Tryz.func41 (by kernel_rfl) fun w' H => ⟨by rw [show (textE t) = true from ht]; rfl, H.only⟩
  refine Hs.condF (by kernel_rfl) ?_
  refine Hs.rung0 [3, 8] 300 (fun _ => by kernel_rfl) ?_
  refine Hs.bool 16 (b != 0) (by kernel_rfl) (fun hb => ?_) (fun hb => ?_)
  · refine Hs.condT (by kernel_rfl) ?_
    refine Hs.rung0 [3, 8] 300 (fun _ => by kernel_rfl) ?_
    refine Hs.condT (by kernel_rfl) ?_
    refine Hs.run0 300 (fun _ => by kernel_rfl) ?_
    exact Hs.ret (v := .bool false) Tryz.func41 (by kernel_rfl) fun w' H => ⟨by rw [show (textE t) = false from ht]; rw [show (b != 0) = true from hb]; rfl, H.only⟩
  refine Hs.condF (by kernel_rfl) ?_
  refine Hs.rung0 [3, 8] 300 (fun _ => by kernel_rfl) ?_
  refine Hs.condF (by kernel_rfl) ?_
  refine Hs.run0 300 (fun _ => by kernel_rfl) ?_
  refine Hs.callV (v := .bool (withinB a 0 1000)) (fun w' H => plTime_any p q ⟨14, a, b, t⟩ w') (by kernel_rfl) ?_
  refine Hs.run0 300 (fun _ => by kernel_rfl) ?_
  exact Hs.ret (v := .bool (withinB a 0 1000)) Tryz.func41 (by kernel_rfl) fun w' H => ⟨by rw [show (textE t) = false from ht]; rw [show (b != 0) = false from hb]; rfl, H.only⟩
theorem right_15 (a b : Int) (t : ByteArray) (p q : Int) (w : World) : Calls Tryz.prog 41 #[opA ⟨15, a, b, t⟩, .int .i64 p, .int .i64 q] w (RetB (restB 15 p q ⟨15, a, b, t⟩) w) := by
  have hR : restB 15 p q ⟨15, a, b, t⟩ = (!(textE t) && (isFlagB a && withinB b 0 1)) := rfl
  rw [hR]
  refine Hs.enter Tryz.func41 [] [] [] [.g [.v (.int .i64 15), .v (.int .i64 a), .v (.int .i64 b), .v (.string t)], .c (.v (.int .i64 p)), .c (.v (.int .i64 q))] (Mem.start0 w) (by kernel_rfl) (by kernel_rfl) ?_
  refine Hs.run1 300 (fun _ => by kernel_rfl) fun b0 => ?_
  refine Hs.callV (v := .bool true) (fun w' H => within_any 15 1 16 w') (by kernel_rfl) ?_
  refine Hs.run0 300 (fun _ => by kernel_rfl) ?_
  refine Hs.condF (by kernel_rfl) ?_
  refine Hs.run0 300 (fun _ => by kernel_rfl) ?_
  refine Hs.any [0] (by kernel_rfl) ?_
  refine Hs.run0 300 (fun _ => by kernel_rfl) ?_
  apply Hs.share1 (β' := [] ++ [b0])
  · intro K
    refine Hs.branch2 0 4 (by kernel_rfl) ?_ ?_
    · refine Hs.callV (v := .agg sortC.toArray) (fun w' H => sorts_any w') (by kernel_rfl) ?_
      refine Hs.run1 300 (fun _ => by kernel_rfl) fun b1 => ?_
      exact K b1
    · refine Hs.run1 300 (fun _ => by kernel_rfl) fun b1 => ?_
      refine Hs.callV (v := .agg sortC.toArray) (fun w' H => sorts_any w') (by kernel_rfl) ?_
      refine Hs.run0 300 (fun _ => by kernel_rfl) ?_
      exact Hs.eqM (K b1) (by kernel_rfl) (by kernel_rfl)
  intro b1
  refine Hs.rung0 [3, 8] 300 (fun _ => by kernel_rfl) ?_
  refine Hs.bool 16 (textE t) (by kernel_rfl) (fun ht => ?_) (fun ht => ?_)
  · refine Hs.condT (by kernel_rfl) ?_
    refine Hs.rung0 [3, 8] 300 (fun _ => by kernel_rfl) ?_
    refine Hs.condT (by kernel_rfl) ?_
    refine Hs.run0 300 (fun _ => by kernel_rfl) ?_
    exact Hs.ret (v := .bool false) Tryz.func41 (by kernel_rfl) fun w' H => ⟨by rw [show (textE t) = true from ht]; rfl, H.only⟩
  refine Hs.condF (by kernel_rfl) ?_
  refine Hs.rung0 [3, 8] 300 (fun _ => by kernel_rfl) ?_
  refine Hs.condF (by kernel_rfl) ?_
  refine Hs.rung0 [3, 8] 300 (fun _ => by kernel_rfl) ?_
  refine Hs.condF (by kernel_rfl) ?_
  refine Hs.run0 300 (fun _ => by kernel_rfl) ?_
  refine Hs.callV (v := .bool (isFlagB a && withinB b 0 1)) (fun w' H => plMode_any p q ⟨15, a, b, t⟩ w') (by kernel_rfl) ?_
  refine Hs.run0 300 (fun _ => by kernel_rfl) ?_
  exact Hs.ret (v := .bool (isFlagB a && withinB b 0 1)) Tryz.func41 (by kernel_rfl) fun w' H => ⟨by rw [show (textE t) = false from ht]; rfl, H.only⟩
theorem right_16 (a b : Int) (t : ByteArray) (p q : Int) (w : World) : Calls Tryz.prog 41 #[opA ⟨16, a, b, t⟩, .int .i64 p, .int .i64 q] w (RetB (restB 16 p q ⟨16, a, b, t⟩) w) := by
  have hR : restB 16 p q ⟨16, a, b, t⟩ = (!(textE t) && (!(b != 0) && (!(a != 0) && (true)))) := rfl
  rw [hR]
  refine Hs.enter Tryz.func41 [] [] [] [.g [.v (.int .i64 16), .v (.int .i64 a), .v (.int .i64 b), .v (.string t)], .c (.v (.int .i64 p)), .c (.v (.int .i64 q))] (Mem.start0 w) (by kernel_rfl) (by kernel_rfl) ?_
  refine Hs.run1 300 (fun _ => by kernel_rfl) fun b0 => ?_
  refine Hs.callV (v := .bool true) (fun w' H => within_any 16 1 16 w') (by kernel_rfl) ?_
  refine Hs.run0 300 (fun _ => by kernel_rfl) ?_
  refine Hs.condF (by kernel_rfl) ?_
  refine Hs.run0 300 (fun _ => by kernel_rfl) ?_
  refine Hs.any [0] (by kernel_rfl) ?_
  refine Hs.run0 300 (fun _ => by kernel_rfl) ?_
  apply Hs.share1 (β' := [] ++ [b0])
  · intro K
    refine Hs.branch2 0 4 (by kernel_rfl) ?_ ?_
    · refine Hs.callV (v := .agg sortC.toArray) (fun w' H => sorts_any w') (by kernel_rfl) ?_
      refine Hs.run1 300 (fun _ => by kernel_rfl) fun b1 => ?_
      exact K b1
    · refine Hs.run1 300 (fun _ => by kernel_rfl) fun b1 => ?_
      refine Hs.callV (v := .agg sortC.toArray) (fun w' H => sorts_any w') (by kernel_rfl) ?_
      refine Hs.run0 300 (fun _ => by kernel_rfl) ?_
      exact Hs.eqM (K b1) (by kernel_rfl) (by kernel_rfl)
  intro b1
  refine Hs.rung0 [3, 8] 300 (fun _ => by kernel_rfl) ?_
  refine Hs.bool 16 (textE t) (by kernel_rfl) (fun ht => ?_) (fun ht => ?_)
  · refine Hs.condT (by kernel_rfl) ?_
    refine Hs.rung0 [3, 8] 300 (fun _ => by kernel_rfl) ?_
    refine Hs.condT (by kernel_rfl) ?_
    refine Hs.run0 300 (fun _ => by kernel_rfl) ?_
    exact Hs.ret (v := .bool false) Tryz.func41 (by kernel_rfl) fun w' H => ⟨by rw [show (textE t) = true from ht]; rfl, H.only⟩
  refine Hs.condF (by kernel_rfl) ?_
  refine Hs.rung0 [3, 8] 300 (fun _ => by kernel_rfl) ?_
  refine Hs.bool 16 (b != 0) (by kernel_rfl) (fun hb => ?_) (fun hb => ?_)
  · refine Hs.condT (by kernel_rfl) ?_
    refine Hs.rung0 [3, 8] 300 (fun _ => by kernel_rfl) ?_
    refine Hs.condT (by kernel_rfl) ?_
    refine Hs.run0 300 (fun _ => by kernel_rfl) ?_
    exact Hs.ret (v := .bool false) Tryz.func41 (by kernel_rfl) fun w' H => ⟨by rw [show (textE t) = false from ht]; rw [show (b != 0) = true from hb]; rfl, H.only⟩
  refine Hs.condF (by kernel_rfl) ?_
  refine Hs.rung0 [3, 8] 300 (fun _ => by kernel_rfl) ?_
  refine Hs.bool 16 (a != 0) (by kernel_rfl) (fun ha => ?_) (fun ha => ?_)
  · refine Hs.condT (by kernel_rfl) ?_
    
    
    refine Hs.run0 300 (fun _ => by kernel_rfl) ?_
    exact Hs.ret (v := .bool false) Tryz.func41 (by kernel_rfl) fun w' H => ⟨by rw [show (textE t) = false from ht]; rw [show (b != 0) = false from hb]; rw [show (a != 0) = true from ha]; rfl, H.only⟩
  refine Hs.condF (by kernel_rfl) ?_
  refine Hs.run0 300 (fun _ => by kernel_rfl) ?_
  refine Hs.callV (v := .bool (true)) (fun w' H => plAny_any p q ⟨16, a, b, t⟩ w') (by kernel_rfl) ?_
  refine Hs.run0 300 (fun _ => by kernel_rfl) ?_
  exact Hs.ret (v := .bool (true)) Tryz.func41 (by kernel_rfl) fun w' H => ⟨by rw [show (textE t) = false from ht]; rw [show (b != 0) = false from hb]; rw [show (a != 0) = false from ha]; rfl, H.only⟩
end Go.Proofs.YtmmcamkmglpgiaaGreatDoor

namespace Go.Proofs.YtmmcamkmglpgiaaGreatDoor
open Go.RowKit Go.Shelf
set_option linter.all false
set_option maxRecDepth 100000
theorem right_any (o : OP9) (p q : Int) (w : World) : Calls Tryz.prog 41 #[opA o, .int .i64 p, .int .i64 q] w (RetB (rightB o p q) w) := by
  cases h : withinB o.k 1 16 with
  | false =>
    have e : rightB o p q = false := by unfold rightB; rw [h]; rfl
    rw [e]
    exact right_out o p q h w
  | true =>
    have e : rightB o p q = restB o.k.toNat p q o := by unfold rightB; rw [h]; rfl
    rw [e]
    obtain ⟨k, a, b, t⟩ := o
    have h2 : 1 ≤ k ∧ k ≤ 16 := by simpa [withinB] using h
    obtain ⟨n, rfl⟩ : ∃ n : Nat, k = n := ⟨k.toNat, by omega⟩
    have h3 : n = 1 ∨ n = 2 ∨ n = 3 ∨ n = 4 ∨ n = 5 ∨ n = 6 ∨ n = 7 ∨ n = 8 ∨ n = 9 ∨ n = 10 ∨ n = 11 ∨ n = 12 ∨ n = 13 ∨ n = 14 ∨ n = 15 ∨ n = 16 := by omega
    rcases h3 with rfl | rfl | rfl | rfl | rfl | rfl | rfl | rfl | rfl | rfl | rfl | rfl | rfl | rfl | rfl | rfl
    · exact right_1 a b t p q w
    · exact right_2 a b t p q w
    · exact right_3 a b t p q w
    · exact right_4 a b t p q w
    · exact right_5 a b t p q w
    · exact right_6 a b t p q w
    · exact right_7 a b t p q w
    · exact right_8 a b t p q w
    · exact right_9 a b t p q w
    · exact right_10 a b t p q w
    · exact right_11 a b t p q w
    · exact right_12 a b t p q w
    · exact right_13 a b t p q w
    · exact right_14 a b t p q w
    · exact right_15 a b t p q w
    · exact right_16 a b t p q w
theorem wrong1_any (o : OP9) (p q : Int) (c : Nat) (w : World) (hc : Blk w c 57 [.int .i64 p, .int .i64 q]) : Calls Tryz.prog 40 #[opA o, .pointer (some ⟨c, 0, none⟩)] w (RetB (!rightB o p q) w) := by
  have H0 : Mem w [] [c] [.b false 57 [.v (.int .i64 p), .v (.int .i64 q)]] w := Mem.startW [] rfl (by simp [bks, HB.blk]) ⟨hc, trivial⟩ (fun y hy => by simp [wrN, HB.wr] at hy)
  refine Hs.enter Tryz.func40 [] [c] _ [.g o.sc, .c (.p 0 0)] H0 (by kernel_rfl) (by kernel_rfl) ?_
  refine Hs.run1 300 (fun _ => by kernel_rfl) fun b1 => ?_
  refine Hs.callV (v := .bool (rightB o p q)) (fun w' H => right_any o p q w') (by kernel_rfl) ?_
  refine Hs.run0 300 (fun _ => by kernel_rfl) ?_
  exact Hs.ret (v := .bool (!rightB o p q)) Tryz.func40 (by kernel_rfl) fun w' H => ⟨rfl, H.only⟩
def ixG (f : OP9 → Bool) : List OP9 → Nat → Int
  | [], _ => -1
  | o :: l, i => match f o with
    | true => (i : Int)
    | false => ixG f l (i + 1)
theorem ixG_cons (f : OP9 → Bool) (o : OP9) (l : List OP9) (i : Nat) : ixG f (o :: l) i = match f o with
    | true => (i : Int)
    | false => ixG f l (i + 1) := rfl
theorem ixG_any (f : OP9 → Bool) : ∀ (l : List OP9) (i : Nat), decide (0 ≤ ixG f l i) = l.any f
  | [], i => rfl
  | o :: l, i => by
    unfold ixG
    rw [List.any_cons]
    cases h : f o with
    | true => exact decide_eq_true (Int.natCast_nonneg i)
    | false => exact ixG_any f l (i + 1)
set_option maxHeartbeats 1000000 in
theorem ixOp_any (p q : Int) (l : List OP9) (A : Option Addr) (cap : Nat) (c : Nat) (w : World) (hrd : RdX cOP w A l) (hm : l.length ≤ maxLen) (hc : Blk w c 57 [.int .i64 p, .int .i64 q]) : Calls Tryz.prog 63 #[.slice A l.length cap, .func (.func 40) #[] #[.pointer (some ⟨c, 0, none⟩)]] w fun e w' => e = .returned (.int .i64 (ixG (fun o => !rightB o p q) l 0)) ∧ Only [] w w' := by
  have J : ∀ (d i : Nat), l.length - i = d → i ≤ l.length → ixG (fun o => !rightB o p q) (l.drop i) i = ixG (fun o => !rightB o p q) l 0 → ∀ (u : Nat → Value), Hs Tryz.prog 63 (fun e w' => e = .returned (.int .i64 (ixG (fun o => !rightB o p q) l 0)) ∧ Only [] w w') (Tryz.f63).ntmps w [] [] ⟨.no, loopAt Tryz.f63 0, pins [(0, .c (.v (.slice A l.length cap))), (1, .c (.v (.func (.func 40) #[] #[.pointer (some ⟨c, 0, none⟩)]))), (4, .c (.v (.int .i64 0))), (7, .c (.v (.int .i64 l.length))), (8, .c (.v (.int .i64 i)))] (.vals u), []⟩ := by
    intro d
    induction d with
    | zero =>
      intro i hd hi hix u
      obtain rfl : i = l.length := by omega
      rw [List.drop_length] at hix
      have e : ixG (fun o => !rightB o p q) l 0 = -1 := hix.symm
      refine Hs.run0 300 (fun _ => by kernel_rfl) ?_
      refine Hs.condP ((l.length : Int) < (l.length : Int)) (by kernel_rfl) (fun h => by omega) (fun _ => ?_)
      refine Hs.run0 300 (fun _ => by kernel_rfl) ?_
      exact Hs.ret (v := .int .i64 (-1)) Tryz.func63 (by kernel_rfl) fun w' H => ⟨by rw [e], H.only⟩
    | succ d ih =>
      intro i hd hi hix u
      have hil : i < l.length := by omega
      obtain ⟨r, hr⟩ : ∃ r, l[i]? = some r := ⟨_, List.getElem?_eq_getElem hil⟩
      have hdr : l.drop i = r :: l.drop (i + 1) := by
        rw [List.drop_eq_getElem_cons hil]
        rw [List.getElem?_eq_getElem hil] at hr
        injection hr with hr
        rw [hr]
      rw [hdr, ixG_cons] at hix
      obtain ⟨ab, aoff, hA, _, _⟩ := hrd (by omega)
      have hih := fun hix u => ih (i + 1) (by omega) (by omega) hix u
      clear ih
      have hrd := hrd
      rw [hA] at hih hrd ⊢
      refine Hs.run0 300 (fun _ => by kernel_rfl) ?_
      refine Hs.condP ((i : Int) < (l.length : Int)) (by kernel_rfl) (fun _ => ?_) (fun h => by omega)
      refine Hs.run0 300 (fun _ => by kernel_rfl) ?_
      refine Hs.idx (b := ab) (off := aoff) (len := l.length) (c := cap) (i := i) elemPo hil (by kernel_rfl) ?_
      refine Hs.ldx (cf := cOP) (size := 4) (E := 36) (b := ab) (off := aoff) (i := i) (l := l) (x := r) cOP_len (.g r.sc) (by kernel_rfl) (fun w' H => hrd.only H.only) hr (by kernel_rfl) (by kernel_rfl) rfl (by kernel_rfl) ?_
      refine Hs.callV (v := .bool (!rightB r p q)) (fun w' H => wrong1_any r p q c w' (hc.only H.only (by simp))) (by kernel_rfl) ?_
      refine Hs.run0 300 (fun _ => by kernel_rfl) ?_
      refine Hs.cond (!rightB r p q) (by kernel_rfl) (fun h => ?_) (fun h => ?_)
      · rw [h] at hix
        refine Hs.run0 300 (fun _ => by kernel_rfl) ?_
        exact Hs.ret (v := .int .i64 i) Tryz.func63 (by kernel_rfl) fun w' H => ⟨by rw [← hix], H.only⟩
      · rw [h] at hix
        refine Hs.run0 300 (fun _ => by kernel_rfl) ?_
        refine Hs.slot 8 (.c (.v (.int .i64 (i + 1 : Nat)))) rfl ((by kernel_rfl : _ = Value.int .i64 (IntKind.i64.wrap ((i : Int) + 1))).trans (wrap_nextJ hm)) ?_
        refine Hs.loop (by kernel_rfl) ?_
        exact Hs.goto (loopAt Tryz.f63 0) [] [] [(0, .c (.v (.slice (some ⟨ab, aoff, none⟩) l.length cap))), (1, .c (.v (.func (.func 40) #[] #[.pointer (some ⟨c, 0, none⟩)]))), (4, .c (.v (.int .i64 0))), (7, .c (.v (.int .i64 l.length))), (8, .c (.v (.int .i64 (i + 1 : Nat))))] (by kernel_rfl) (by decide) (by kernel_rfl) (by kernel_rfl) (fun _ => (by kernel_rfl)) (fun u => hih hix u)
  refine Hs.enter Tryz.func63 [] [] [] [.c (.v (.slice A l.length cap)), .c (.v (.func (.func 40) #[] #[.pointer (some ⟨c, 0, none⟩)]))] (Mem.start0 w) (by kernel_rfl) (by kernel_rfl) ?_
  refine Hs.run0 300 (fun _ => by kernel_rfl) ?_
  refine Hs.loop (by kernel_rfl) ?_
  exact Hs.goto (loopAt Tryz.f63 0) [] [] [(0, .c (.v (.slice A l.length cap))), (1, .c (.v (.func (.func 40) #[] #[.pointer (some ⟨c, 0, none⟩)]))), (4, .c (.v (.int .i64 0))), (7, .c (.v (.int .i64 l.length))), (8, .c (.v (.int .i64 (0 : Nat))))] (by kernel_rfl) (by decide) (by kernel_rfl) (by kernel_rfl) (fun _ => (by kernel_rfl)) (fun u => J l.length 0 (by omega) (by omega) (by rw [List.drop_zero]) u)
theorem coOp_any (p q : Int) (l : List OP9) (A : Option Addr) (cap : Nat) (c : Nat) (w : World) (hrd : RdX cOP w A l) (hm : l.length ≤ maxLen) (hc : Blk w c 57 [.int .i64 p, .int .i64 q]) : Calls Tryz.prog 39 #[.slice A l.length cap, .func (.func 40) #[] #[.pointer (some ⟨c, 0, none⟩)]] w (RetB (l.any fun o => !rightB o p q) w) := by
  refine Hs.enter Tryz.func39 [] [] [] [.c (.v (.slice A l.length cap)), .c (.v (.func (.func 40) #[] #[.pointer (some ⟨c, 0, none⟩)]))] (Mem.start0 w) (by kernel_rfl) (by kernel_rfl) ?_
  refine Hs.run0 300 (fun _ => by kernel_rfl) ?_
  refine Hs.callV (v := .int .i64 (ixG (fun o => !rightB o p q) l 0)) (fun w' H => ixOp_any p q l A cap c w' (hrd.only H.only) hm (hc.only H.only (by simp))) (by kernel_rfl) ?_
  refine Hs.run0 300 (fun _ => by kernel_rfl) ?_
  exact Hs.ret (v := .bool (decide (0 ≤ ixG (fun o => !rightB o p q) l 0))) Tryz.func39 (by kernel_rfl) fun w' H => ⟨by rw [ixG_any], H.only⟩
def alnumL : List UInt8 := [97, 98, 99, 100, 101, 102, 103, 104, 105, 106, 107, 108, 109, 110, 111, 112, 113, 114, 115, 116, 117, 118, 119, 120, 121, 122, 48, 49, 50, 51, 52, 53, 54, 55, 56, 57]
def nmB (t : ByteArray) : Bool := textE t && (decide ((t.size : Int) ≤ 64) && (strL (Lib.trimS t.data.toList alnumL)).toList == (⟨#[]⟩ : ByteArray).toList)
theorem trim_any (t : ByteArray) (ht : (t.size : Int) ≤ 64) (w : World) : Calls Tryz.prog 62 #[.string t, .string (strL alnumL)] w fun e w' => e = .returned (.string (strL (Lib.trimS t.data.toList alnumL))) ∧ Only [] w w' := by
  have h : (t.size : Int) ≤ 64 := ht
  refine (Any.strings_Trim_laid Tryz.lays160 (by kernel_rfl) t (strL alnumL) w (by omega) (by decide) (ascii_of_all (by decide))).mono ?_
  rintro e w' ⟨rfl, hb⟩
  exact ⟨rfl, only_of_below hb⟩
theorem named_any (t : ByteArray) (w : World) : Calls Tryz.prog 38 #[.string t] w (RetB (nmB t) w) := by
  refine Hs.enter Tryz.func38 [] [] [] [.c (.v (.string t))] (Mem.start0 w) (by kernel_rfl) (by kernel_rfl) ?_
  refine Hs.run0 300 (fun _ => by kernel_rfl) ?_
  refine Hs.bool 5 (textE t) (by kernel_rfl) (fun h => ?_) (fun h => ?_)
  · refine Hs.rung0 [2] 300 (fun _ => by kernel_rfl) ?_
    refine Hs.bool 10 (decide ((t.size : Int) ≤ 64)) (by kernel_rfl) (fun h2 => ?_) (fun h2 => ?_)
    · refine Hs.rung0 [2, 7] 300 (fun _ => by kernel_rfl) ?_
      refine Hs.callV (v := .string (strL (Lib.trimS t.data.toList alnumL))) (fun w' H => trim_any t (of_decide_eq_true h2) w') (by kernel_rfl) ?_
      refine Hs.rung0 [2, 7] 300 (fun _ => by kernel_rfl) ?_
      exact Hs.ret (v := .bool ((strL (Lib.trimS t.data.toList alnumL)).toList == (⟨#[]⟩ : ByteArray).toList)) Tryz.func38 (by kernel_rfl) fun w' H => ⟨by unfold nmB; rw [h, h2]; rfl, H.only⟩
    · refine Hs.rung0 [2, 7] 300 (fun _ => by kernel_rfl) ?_
      exact Hs.ret (v := .bool false) Tryz.func38 (by kernel_rfl) fun w' H => ⟨by unfold nmB; rw [h, h2]; rfl, H.only⟩
  · refine Hs.rung0 [2, 7] 300 (fun _ => by kernel_rfl) ?_
    exact Hs.ret (v := .bool false) Tryz.func38 (by kernel_rfl) fun w' H => ⟨by unfold nmB; rw [h]; rfl, H.only⟩
end Go.Proofs.YtmmcamkmglpgiaaGreatDoor

namespace Go.Proofs.YtmmcamkmglpgiaaGreatDoor
open Go.RowKit Go.MapKept
set_option linter.all false
set_option maxRecDepth 100000
instance decBA : DecidableEq ByteArray := fun a b => decidable_of_iff (a.data.toList = b.data.toList) ⟨fun h => by
  cases a with | mk x => cases b with | mk y => exact congrArg ByteArray.mk (Array.toList_inj.1 h), fun h => by rw [h]⟩
abbrev PM := ByteArray × List OP9
def badOps (ops : List OP9) (p q : Int) : Bool := ops.any fun o => !rightB o p q
def wrongM (m : PM) (p q : Int) : Int := match nmB m.1 with
  | false => 4
  | true => if (64 : Int) < m.2.length then 6 else match badOps m.2 p q with
    | true => 2
    | false => 0
theorem wrong_any (x : PG) (p q : Int) (w : World) (hx : PgOk w x) : Calls Tryz.prog 19 #[.agg (cPG x).toArray, plV p q] w fun e w' => e = .returned (.int .i64 (wrongM x.m p q)) ∧ Only [] w w' := by
  have hco : ∀ b0 b1 w', Mem w [] ([] ++ [b0, b1]) [.b true 33 [.v (.string x.n), .v (.slice x.A x.ops.length x.c)], .b true 57 [.v (.int .i64 p), .v (.int .i64 q)]] w' → Calls Tryz.prog 39 #[.slice x.A x.ops.length x.c, .func (.func 40) #[] #[.pointer (some ⟨b1, 0, none⟩)]] w' (RetB (badOps x.ops p q) w') := fun b0 b1 w' H => coOp_any p q x.ops x.A x.c b1 w' (hx.1.only H.only) (Nat.le_trans hx.2.1 hx.2.2) (H.at 1 rfl)
  have hW : wrongM x.m p q = (match nmB x.n with
    | false => 4
    | true => if (64 : Int) < x.ops.length then 6 else match badOps x.ops p q with
      | true => 2
      | false => 0) := rfl
  rw [hW]
  refine Hs.enter Tryz.func19 [] [] [] [.g x.sc, .g [.v (.int .i64 p), .v (.int .i64 q)]] (Mem.start0 w) (by kernel_rfl) (by kernel_rfl) ?_
  refine Hs.run2 300 (fun _ => by kernel_rfl) fun b0 b1 => ?_
  refine Hs.callV (v := .bool (nmB x.n)) (fun w' H => named_any _ w') (by kernel_rfl) ?_
  refine Hs.run0 300 (fun _ => by kernel_rfl) ?_
  refine Hs.cond (!nmB x.n) (by kernel_rfl) (fun h => ?_) (fun h => ?_)
  · refine Hs.run0 300 (fun _ => by kernel_rfl) ?_
    exact Hs.ret (v := .int .i64 4) Tryz.func19 (by kernel_rfl) fun w' H => ⟨by rw [show nmB x.n = false by simpa using h], H.only⟩
  · refine Hs.run0 300 (fun _ => by kernel_rfl) ?_
    refine Hs.condP ((64 : Int) < (x.ops.length : Int)) (by kernel_rfl) (fun h2 => ?_) (fun h2 => ?_)
    · refine Hs.run0 300 (fun _ => by kernel_rfl) ?_
      exact Hs.ret (v := .int .i64 6) Tryz.func19 (by kernel_rfl) fun w' H => ⟨by rw [show nmB x.n = true by simpa using h]; dsimp only; rw [if_pos h2], H.only⟩
    · refine Hs.run0 300 (fun _ => by kernel_rfl) ?_
      refine Hs.callV (v := .bool (badOps x.ops p q)) (fun w' H => hco b0 b1 w' (Eq.mp (by kernel_rfl) H)) (by kernel_rfl) ?_
      refine Hs.run0 300 (fun _ => by kernel_rfl) ?_
      refine Hs.cond (badOps x.ops p q) (by kernel_rfl) (fun h3 => ?_) (fun h3 => ?_)
      · refine Hs.run0 300 (fun _ => by kernel_rfl) ?_
        exact Hs.ret (v := .int .i64 2) Tryz.func19 (by kernel_rfl) fun w' H => ⟨by rw [show nmB x.n = true by simpa using h]; dsimp only; rw [if_neg h2, h3], H.only⟩
      · refine Hs.run0 300 (fun _ => by kernel_rfl) ?_
        exact Hs.ret (v := .int .i64 0) Tryz.func19 (by kernel_rfl) fun w' H => ⟨by rw [show nmB x.n = true by simpa using h]; dsimp only; rw [if_neg h2, h3], H.only⟩
def kS (s : ByteArray) : Value := .string s
theorem kS_inj (a b : ByteArray) (h : kS a = kS b) : a = b := by injection h
theorem keyN : KeyT Tryz.prog 58 9 4 (.bool false) kS := ⟨(by kernel_rfl), fun w => by kernel_rfl, ⟨.string, by kernel_rfl, fun _ => trivial⟩, kS_inj⟩
def seenE (l : List ByteArray) : List (ByteArray × Value) := l.map fun n => (n, .bool true)
def hasN (n : ByteArray) (l : List ByteArray) : Bool := l.any fun a => decide (a = n)
theorem seen_look (n : ByteArray) : ∀ l : List ByteArray, lookM n (seenE l) = if hasN n l = true then some (Value.bool true) else none
  | [] => rfl
  | a :: l => by
    have e : hasN n (a :: l) = (decide (a = n) || hasN n l) := rfl
    have e2 : lookM n (seenE (a :: l)) = if a = n then some (Value.bool true) else lookM n (seenE l) := rfl
    rw [e, e2]
    by_cases h : a = n
    · rw [if_pos h, decide_eq_true h]
      rfl
    · rw [if_neg h, decide_eq_false h, Bool.false_or]
      exact seen_look n l
def dupM (seen : List ByteArray) : List ByteArray → Int
  | [] => 0
  | n :: l => if hasN n seen = true then 4 else dupM (seen ++ [n]) l
def wrongs (q : Int) : List PM → Nat → Int
  | [], _ => 0
  | m :: l, i => if wrongM m i q = 0 then wrongs q l (i + 1) else wrongM m i q
theorem wrongs_cons (q : Int) (m : PM) (l : List PM) (i : Nat) : wrongs q (m :: l) i = if wrongM m i q = 0 then wrongs q l (i + 1) else wrongM m i q := rfl
theorem dupM_cons (seen : List ByteArray) (n : ByteArray) (l : List ByteArray) : dupM seen (n :: l) = if hasN n seen = true then 4 else dupM (seen ++ [n]) l := rfl
/-- What is wrong with programs. -/
def checkM (l : List PM) : Int := match withinB (l.length : Int) 1 32 with
  | false => 5
  | true => if wrongs l.length l 0 = 0 then dupM [] (l.map Prod.fst) else wrongs l.length l 0
abbrev CkR (ps : List PG) (w : World) : Ending → World → Prop := fun e w' => e = .returned (.int .i64 (checkM (ps.map PG.m))) ∧ Only [] w w'
set_option maxHeartbeats 4000000 in
theorem check_any (ps : List PG) (A : Option Addr) (c : Nat) (w : World) (h : Pgs w A c ps) : Calls Tryz.prog 9 #[.slice A ps.length c] w (CkR ps w) := by
  have hlen : ps.length ≤ maxLen := Nat.le_trans h.le h.max
  have hwe : ∀ b, withinB (ps.length : Int) 1 32 = b → checkM (ps.map PG.m) = (match b with
    | false => 5
    | true => if wrongs ps.length (ps.map PG.m) 0 = 0 then dupM [] (ps.map PG.n) else wrongs ps.length (ps.map PG.m) 0) := by
    intro b hb
    unfold checkM
    rw [List.length_map, hb, List.map_map]
    rfl
  have J2 : ∀ (d i : Nat), ps.length - i = d → i ≤ ps.length → checkM (ps.map PG.m) = dupM ((ps.take i).map PG.n) ((ps.drop i).map PG.n) → ∀ (r : Nat) (u : Nat → Value), Hs Tryz.prog 9 (CkR ps w) (Tryz.f9).ntmps w [] [r] ⟨.no, loopAt Tryz.f9 1, pins [(6, .c (.v (.map (some r)))), (31, .c (.v (.slice A ps.length c))), (32, .c (.v (.int .i64 ps.length))), (33, .c (.v (.int .i64 i)))] (.vals u), [HB.mp kS r (seenE ((ps.take i).map PG.n))]⟩ := by
    intro d
    induction d with
    | zero =>
      intro i hd hi hix r u
      obtain rfl : i = ps.length := by omega
      rw [List.drop_length] at hix
      have e : checkM (ps.map PG.m) = 0 := hix
      refine Hs.run0 300 (fun _ => by kernel_rfl) ?_
      refine Hs.condP ((ps.length : Int) < (ps.length : Int)) (by kernel_rfl) (fun h => by omega) (fun _ => ?_)
      refine Hs.run0 300 (fun _ => by kernel_rfl) ?_
      exact Hs.ret (v := .int .i64 0) Tryz.func9 (by kernel_rfl) fun w' H => ⟨by rw [e], H.only⟩
    | succ d ih =>
      intro i hd hi hix r u
      have hil : i < ps.length := by omega
      obtain ⟨x, hx⟩ : ∃ x, ps[i]? = some x := ⟨_, List.getElem?_eq_getElem hil⟩
      have hdr : ps.drop i = x :: ps.drop (i + 1) := by
        rw [List.drop_eq_getElem_cons hil]
        rw [List.getElem?_eq_getElem hil] at hx
        injection hx with hx
        rw [hx]
      have htk : (ps.take (i + 1)).map PG.n = (ps.take i).map PG.n ++ [x.n] := by rw [List.take_add_one, hx, List.map_append]; rfl
      rw [hdr, List.map_cons, dupM_cons] at hix
      obtain ⟨ab, aoff, hA, _, _⟩ := h.rd (by omega)
      have hih := fun hix r u => ih (i + 1) (by omega) (by omega) hix r u
      clear ih
      have hrd := h.rd
      rw [hA] at hih hrd ⊢
      refine Hs.run0 300 (fun _ => by kernel_rfl) ?_
      refine Hs.condP ((i : Int) < (ps.length : Int)) (by kernel_rfl) (fun _ => ?_) (fun h => by omega)
      refine Hs.run0 300 (fun _ => by kernel_rfl) ?_
      refine Hs.idx (b := ab) (off := aoff) (len := ps.length) (c := c) (i := i) elemPr hil (by kernel_rfl) ?_
      refine Hs.ldx (cf := cPG) (size := 2) (E := 33) (b := ab) (off := aoff) (i := i) (l := ps) (x := x) cPG_len (.g x.sc) (by kernel_rfl) (fun w' H => hrd.only H.only) hx (by kernel_rfl) (by kernel_rfl) rfl (by kernel_rfl) ?_
      refine Hs.run1 300 (fun _ => by kernel_rfl) fun b1 => ?_
      by_cases hn : hasN x.n ((ps.take i).map PG.n) = true
      · rw [if_pos hn] at hix
        refine Hs.getM (r := r) (es := seenE ((ps.take i).map PG.n)) keyN x.n false (.bool true) (by rw [seen_look, if_pos hn]; rfl) (by kernel_rfl) (fun w' H => H.mapM 0 (by kernel_rfl)) ?_
        refine Hs.run0 300 (fun _ => by kernel_rfl) ?_
        refine Hs.condT (by kernel_rfl) ?_
        refine Hs.run0 300 (fun _ => by kernel_rfl) ?_
        exact Hs.ret (v := .int .i64 4) Tryz.func9 (by kernel_rfl) fun w' H => ⟨by rw [hix], H.only⟩
      · rw [if_neg hn] at hix
        refine Hs.getM (r := r) (es := seenE ((ps.take i).map PG.n)) keyN x.n false (.bool false) (by rw [seen_look, if_neg hn]; rfl) (by kernel_rfl) (fun w' H => H.mapM 0 (by kernel_rfl)) ?_
        refine Hs.run0 300 (fun _ => by kernel_rfl) ?_
        refine Hs.condF (by kernel_rfl) ?_
        refine Hs.run0 300 (fun _ => by kernel_rfl) ?_
        refine Hs.putM 0 keyN x.n (.bool true) (es := seenE ((ps.take i).map PG.n)) (r := r) (by rw [seen_look, if_neg hn]) (by kernel_rfl) (by kernel_rfl) (by kernel_rfl) ?_
        have hes : seenE ((ps.take i).map PG.n) ++ [(x.n, .bool true)] = seenE ((ps.take (i + 1)).map PG.n) := by rw [htk]; unfold seenE; rw [List.map_append]; rfl
        rw [hes]
        refine Hs.run0 300 (fun _ => by kernel_rfl) ?_
        refine Hs.slot 33 (.c (.v (.int .i64 (i + 1 : Nat)))) rfl ((by kernel_rfl : _ = Value.int .i64 (IntKind.i64.wrap ((i : Int) + 1))).trans (wrap_nextJ hlen)) ?_
        refine Hs.loop (by kernel_rfl) ?_
        exact Hs.goto (loopAt Tryz.f9 1) [0] [HB.mp kS r (seenE ((ps.take (i + 1)).map PG.n))] [(6, .c (.v (.map (some r)))), (31, .c (.v (.slice (some ⟨ab, aoff, none⟩) ps.length c))), (32, .c (.v (.int .i64 ps.length))), (33, .c (.v (.int .i64 (i + 1 : Nat))))] (by kernel_rfl) (by decide) (by kernel_rfl) (by kernel_rfl) (fun _ => (by kernel_rfl)) (fun u => hih (by rw [htk]; exact hix) r u)
  have J1 : withinB (ps.length : Int) 1 32 = true → ∀ (d i : Nat), ps.length - i = d → i ≤ ps.length → wrongs ps.length (ps.map PG.m) 0 = wrongs ps.length ((ps.drop i).map PG.m) i → ∀ (u : Nat → Value), Hs Tryz.prog 9 (CkR ps w) (Tryz.f9).ntmps w [] [] ⟨.no, loopAt Tryz.f9 0, pins [(0, .c (.v (.slice A ps.length c))), (13, .c (.v (.slice A ps.length c))), (14, .c (.v (.int .i64 ps.length))), (15, .c (.v (.int .i64 i)))] (.vals u), []⟩ := by
    intro hwi d
    induction d with
    | zero =>
      intro i hd hi hix u
      obtain rfl : i = ps.length := by omega
      rw [List.drop_length] at hix
      have e : wrongs ps.length (ps.map PG.m) 0 = 0 := hix
      have e2 := hwe true hwi
      dsimp only at e2
      rw [if_pos e] at e2
      refine Hs.run0 300 (fun _ => by kernel_rfl) ?_
      refine Hs.condP ((ps.length : Int) < (ps.length : Int)) (by kernel_rfl) (fun h => by omega) (fun _ => ?_)
      refine Hs.run0 300 (fun _ => by kernel_rfl) ?_
      refine Hs.mkM (T := 58) kS (by kernel_rfl) (by kernel_rfl) fun r => ?_
      refine Hs.run0 300 (fun _ => by kernel_rfl) ?_
      refine Hs.loop (by kernel_rfl) ?_
      exact Hs.goto (loopAt Tryz.f9 1) [0] [HB.mp kS r (seenE ((ps.take 0).map PG.n))] [(6, .c (.v (.map (some r)))), (31, .c (.v (.slice A ps.length c))), (32, .c (.v (.int .i64 ps.length))), (33, .c (.v (.int .i64 (0 : Nat))))] (by kernel_rfl) (by decide) (by kernel_rfl) (by kernel_rfl) (fun _ => (by kernel_rfl)) (fun u => J2 ps.length 0 (by omega) (by omega) (by rw [e2]; rfl) r u)
    | succ d ih =>
      intro i hd hi hix u
      have hil : i < ps.length := by omega
      obtain ⟨x, hx⟩ : ∃ x, ps[i]? = some x := ⟨_, List.getElem?_eq_getElem hil⟩
      have hxm : x ∈ ps := List.mem_of_getElem? hx
      have hxo := h.all x hxm
      have hdr : ps.drop i = x :: ps.drop (i + 1) := by
        rw [List.drop_eq_getElem_cons hil]
        rw [List.getElem?_eq_getElem hil] at hx
        injection hx with hx
        rw [hx]
      rw [hdr, List.map_cons, wrongs_cons] at hix
      obtain ⟨ab, aoff, hA, _, _⟩ := h.rd (by omega)
      have hih := fun hix u => ih (i + 1) (by omega) (by omega) hix u
      clear ih
      have hrd := h.rd
      rw [hA] at hih hrd ⊢
      refine Hs.run0 300 (fun _ => by kernel_rfl) ?_
      refine Hs.condP ((i : Int) < (ps.length : Int)) (by kernel_rfl) (fun _ => ?_) (fun h => by omega)
      refine Hs.run0 300 (fun _ => by kernel_rfl) ?_
      refine Hs.idx (b := ab) (off := aoff) (len := ps.length) (c := c) (i := i) elemPr hil (by kernel_rfl) ?_
      refine Hs.ldx (cf := cPG) (size := 2) (E := 33) (b := ab) (off := aoff) (i := i) (l := ps) (x := x) cPG_len (.g x.sc) (by kernel_rfl) (fun w' H => hrd.only H.only) hx (by kernel_rfl) (by kernel_rfl) rfl (by kernel_rfl) ?_
      refine Hs.run1 300 (fun _ => by kernel_rfl) fun b1 => ?_
      refine Hs.callV (v := .int .i64 (wrongM x.m i ps.length)) (fun w' H => wrong_any x i ps.length w' (hxo.only H.only)) (by kernel_rfl) ?_
      refine Hs.run0 300 (fun _ => by kernel_rfl) ?_
      refine Hs.cond (!decide (wrongM x.m i ps.length = 0)) (by kernel_rfl) (fun h1 => ?_) (fun h1 => ?_)
      · have h1 : ¬ wrongM x.m i ps.length = 0 := by simpa using h1
        rw [if_neg h1] at hix
        have e2 := hwe true hwi
        dsimp only at e2
        rw [hix, if_neg h1] at e2
        refine Hs.run0 300 (fun _ => by kernel_rfl) ?_
        exact Hs.ret (v := .int .i64 (wrongM x.m i ps.length)) Tryz.func9 (by kernel_rfl) fun w' H => ⟨by rw [e2], H.only⟩
      · have h1 : wrongM x.m i ps.length = 0 := by simpa using h1
        rw [if_pos h1] at hix
        refine Hs.run0 300 (fun _ => by kernel_rfl) ?_
        refine Hs.slot 15 (.c (.v (.int .i64 (i + 1 : Nat)))) rfl ((by kernel_rfl : _ = Value.int .i64 (IntKind.i64.wrap ((i : Int) + 1))).trans (wrap_nextJ hlen)) ?_
        refine Hs.loop (by kernel_rfl) ?_
        exact Hs.goto (loopAt Tryz.f9 0) [] [] [(0, .c (.v (.slice (some ⟨ab, aoff, none⟩) ps.length c))), (13, .c (.v (.slice (some ⟨ab, aoff, none⟩) ps.length c))), (14, .c (.v (.int .i64 ps.length))), (15, .c (.v (.int .i64 (i + 1 : Nat))))] (by kernel_rfl) (by decide) (by kernel_rfl) (by kernel_rfl) (fun _ => (by kernel_rfl)) (fun u => hih hix u)
  refine Hs.enter Tryz.func9 [] [] [] [.c (.v (.slice A ps.length c))] (Mem.start0 w) (by kernel_rfl) (by kernel_rfl) ?_
  refine Hs.run0 300 (fun _ => by kernel_rfl) ?_
  refine Hs.callV (v := .bool (withinB (ps.length : Int) 1 32)) (fun w' H => within_any _ _ _ w') (by kernel_rfl) ?_
  refine Hs.run0 300 (fun _ => by kernel_rfl) ?_
  refine Hs.cond (!withinB (ps.length : Int) 1 32) (by kernel_rfl) (fun h1 => ?_) (fun h1 => ?_)
  · have e2 := hwe false (by simpa using h1)
    refine Hs.run0 300 (fun _ => by kernel_rfl) ?_
    exact Hs.ret (v := .int .i64 5) Tryz.func9 (by kernel_rfl) fun w' H => ⟨by rw [e2], H.only⟩
  · refine Hs.run0 300 (fun _ => by kernel_rfl) ?_
    refine Hs.loop (by kernel_rfl) ?_
    exact Hs.goto (loopAt Tryz.f9 0) [] [] [(0, .c (.v (.slice A ps.length c))), (13, .c (.v (.slice A ps.length c))), (14, .c (.v (.int .i64 ps.length))), (15, .c (.v (.int .i64 (0 : Nat))))] (by kernel_rfl) (by decide) (by kernel_rfl) (by kernel_rfl) (fun _ => (by kernel_rfl)) (fun u => J1 (by simpa using h1) ps.length 0 (by omega) (by omega) (by rw [List.drop_zero]) u)
end Go.Proofs.YtmmcamkmglpgiaaGreatDoor

namespace Go.Proofs.YtmmcamkmglpgiaaGreatDoor
open Go.RowKit Go.Shelf
set_option linter.all false
set_option maxRecDepth 100000
theorem parse1_in (c : Int) (w : World) : CallsIn Fence.wide 1 Tryz.prog 36 #[.int .i32 c] w fun e w' => e = .returned (.bool (badR c)) ∧ w' = w := by
  refine callsIn_of_wp Tryz.func36 rfl trivial ?_ rfl
  simp only [Tryz.ntmps36, List.size_toArray, List.length_cons, List.length_nil, Nat.reduceAdd, Nat.reduceSub, Array.replicate_succ, Array.replicate_zero, List.push_toArray, List.append_toArray, List.nil_append, List.cons_append]
  by_cases h : c ≤ 32
  · gi_wp2
    go_ret
    exact ⟨by simp [badR, h], rfl⟩
  · gi_wp2
    go_ret
    have h3 : ¬ c ≤ 32 := by omega
    refine ⟨?_, rfl⟩
    rw [show badR c = (decide (c ≤ 32) || decide (c > 126)) from rfl, decide_eq_false h3]
    rfl
def badName (s : List UInt8) : Bool := decide (0 ≤ Lib.idxFunc (fun c : Nat => badR c) true (strL s))
theorem contains_any (s : List UInt8) (w : World) : Calls Tryz.prog 35 #[.string (strL s), .func (.func 36) #[] #[]] w (RetB (badName s) w) := by
  refine (Tryz.strings_ContainsFunc_runes 36 #[] (enters_of Tryz.func36 (by kernel_rfl) rfl) (fun c : Nat => badR c) (strL s) w ?_).mono ?_
  · intro W x hx hb
    refine (callsIn_wide.1 (parse1_in (x : Int) W)).mono ?_
    rintro e w' ⟨rfl, rfl⟩
    exact ⟨rfl, 0, rfl⟩
  · rintro e w' ⟨rfl, hb⟩
    exact ⟨rfl, only_of_below hb⟩
def headL : List UInt8 := [112, 114, 111, 103, 32]
def trimN (x : List UInt8) : List UInt8 := Lib.trimSuffix x [10]
def endsN (x : List UInt8) : Bool := Lib.hasSuffix x [10]
def isHead (x : List UInt8) : Bool := Lib.hasPrefix x headL
def behind (x : List UInt8) : List UInt8 := Lib.trimPrefix x headL
theorem suffix_any (s : List UInt8) (hs : s.length ≤ 9223372036854775807) (w : World) : Calls Tryz.prog 31 #[.string (strL s), .string (strL [10])] w (RetB (endsN s) w) := by
  refine (Tryz.strings_HasSuffix (strL s) (strL [10]) w hs).mono ?_
  rintro e w' ⟨rfl, rfl⟩
  exact ⟨rfl, Only.refl _ _⟩
theorem trimN_any (s : List UInt8) (hs : s.length ≤ 9223372036854775807) (w : World) : Calls Tryz.prog 33 #[.string (strL s), .string (strL [10])] w fun e w' => e = .returned (.string (strL (trimN s))) ∧ Only [] w w' := by
  refine (Tryz.strings_TrimSuffix (strL s) (strL [10]) w hs).mono ?_
  rintro e w' ⟨rfl, rfl⟩
  exact ⟨rfl, Only.refl _ _⟩
theorem cutP_any (s : List UInt8) (w : World) : Calls Tryz.prog 34 #[.string (strL s), .string (strL headL)] w fun e w' => e = .returned (.tuple #[.string (strL (behind s)), .bool (isHead s)]) ∧ Only [] w w' := by
  refine (Tryz.strings_CutPrefix (strL s) (strL headL) w).mono ?_
  rintro e w' ⟨rfl, rfl⟩
  exact ⟨rfl, Only.refl _ _⟩
abbrev LinesR (s : List UInt8) (w : World) : Ending → World → Prop := fun e w' => ∃ b : Nat, e = .returned (.func (.func 52) #[] #[.pointer (some ⟨b, 0, none⟩)]) ∧ Only [] w w' ∧ Blk w' b 9 [.string (strL s)] ∧ ∀ a, (some ⟨b, 0, none⟩ : Option Addr) = some a → w.heap.size ≤ a.block ∧ a.block < w'.heap.size
theorem lines_any (s : List UInt8) (w : World) : Calls Tryz.prog 32 #[.string (strL s)] w (LinesR s w) := by
  refine Hs.enter Tryz.func32 [] [] [] [.c (.v (.string (strL s)))] (Mem.start0 w) (by kernel_rfl) (by kernel_rfl) ?_
  refine Hs.run1 300 (fun _ => by kernel_rfl) fun b0 => ?_
  refine Hs.ret (v := .func (.func 52) #[] #[.pointer (some ⟨b0, 0, none⟩)]) Tryz.func32 (by kernel_rfl) fun w' H => ?_
  have hB : Blk w' b0 9 [.string (strL s)] := Mem.at (wr := true) (T := 9) (cs := [.v (.string (strL s))]) H 0 (by kernel_rfl)
  have hn := H.own 0 (.b true 9 [.v (.string (strL s))]) b0 (by kernel_rfl) rfl rfl
  refine ⟨b0, rfl, H.only, hB, fun a ha => ?_⟩
  injection ha with ha
  subst ha
  refine ⟨?_, hB.lt⟩
  rcases hn with h | h
  · cases h
  · exact h
/-- A line's operation, at the last program. -/
def addOp (o : OP9) : List PM → Option (List PM)
  | [] => none
  | [m] => some [(m.1, m.2 ++ [o])]
  | m :: a :: l => match addOp o (a :: l) with
    | some l' => some (m :: l')
    | none => none
theorem addOp_app (o : OP9) (m : PM) : ∀ l : List PM, addOp o (l ++ [m]) = some (l ++ [(m.1, m.2 ++ [o])])
  | [] => rfl
  | [a] => rfl
  | a :: b :: l => by
    have ih := addOp_app o m (b :: l)
    have e : addOp o (a :: ((b :: l) ++ [m])) = (match addOp o ((b :: l) ++ [m]) with
      | some l' => some (a :: l')
      | none => none) := rfl
    rw [List.cons_append, e, ih]
    rfl
/-- What a line makes of programs. -/
def stepX (l : List PM) (x : List UInt8) : Option (List PM) := match isHead x with
  | true => match badName (behind x) with
    | true => none
    | false => some (l ++ [(strL (behind x), [])])
  | false => match opB x with
    | (_, false) => none
    | (o, true) => addOp o l
def stepP (l : List PM) (x : List UInt8) : Option (List PM) := stepX l (trimN x)
def foldP : List PM → List (List UInt8) → Option (List PM)
  | l, [] => some l
  | l, x :: t => match stepP l x with
    | some l' => foldP l' t
    | none => none
theorem foldP_app : ∀ (a b : List (List UInt8)) (l : List PM), foldP l (a ++ b) = (match foldP l a with
    | some l' => foldP l' b
    | none => none)
  | [], b, l => rfl
  | x :: a, b, l => by
    have e : foldP l (x :: (a ++ b)) = (match stepP l x with
      | some l' => foldP l' (a ++ b)
      | none => none) := rfl
    have e2 : foldP l (x :: a) = (match stepP l x with
      | some l' => foldP l' a
      | none => none) := rfl
    rw [List.cons_append, e, e2]
    cases stepP l x with
    | none => rfl
    | some l' => exact foldP_app a b l'
theorem foldP_one {l l' : List PM} {a : List (List UInt8)} {x : List UInt8} (h : foldP l a = some l') : foldP l (a ++ [x]) = stepP l' x := by
  rw [foldP_app, h]
  show (match stepP l' x with
    | some l' => foldP l' []
    | none => none) = _
  cases stepP l' x <;> rfl
theorem foldP_bad {l l' : List PM} {a : List (List UInt8)} {x : List UInt8} {t : List (List UInt8)} (h : foldP l a = some l') (hx : stepP l' x = none) : foldP l (a ++ x :: t) = none := by
  rw [foldP_app, h]
  show (match stepP l' x with
    | some l' => foldP l' t
    | none => none) = _
  rw [hx]
/-- The programs that a text says, or what is wrong. -/
def parseM (s : List UInt8) : Option (List PM) × Int := match decide (262144 < s.length) with
  | true => (none, 6)
  | false => match !s.isEmpty && !endsN s with
    | true => (none, 4)
    | false => match foldP [] (linesB s) with
      | none => (none, 4)
      | some l => if checkM l = 0 then (some l, 0) else (none, checkM l)
theorem lines_mem : ∀ {s x : List UInt8}, x ∈ linesB s → x.length ≤ s.length
  | [], x, h => by cases h
  | c :: s, x, h => by
    unfold linesB at h
    split at h
    · rcases List.mem_cons.1 h with h | h
      · subst h; simp
      · have := lines_mem h; simp; omega
    · split at h
      · rename_i e
        simp at h; subst h; simp
      · rename_i h0 t e
        rcases List.mem_cons.1 h with h | h
        · subst h
          have : h0 ∈ linesB s := by rw [e]; simp
          have := lines_mem this
          simp; omega
        · have : x ∈ linesB s := by rw [e]; simp [h]
          have := lines_mem this
          simp; omega
theorem lines_len : ∀ s : List UInt8, (linesB s).length ≤ s.length
  | [] => by simp [linesB]
  | c :: s => by
    have ih := lines_len s
    unfold linesB
    split
    · simp; omega
    · split
      · simp
      · rename_i h0 t e
        rw [e] at ih
        simp at ih ⊢; omega
end Go.Proofs.YtmmcamkmglpgiaaGreatDoor

namespace Go.Proofs.YtmmcamkmglpgiaaGreatDoor
open Go.RowKit Go.Shelf
set_option linter.all false
set_option maxRecDepth 100000
def hexD (n : Nat) : UInt8 := hexL.getD n 0
def writB (c : UInt8) : List UInt8 := if itselfB c = true then [c] else [92, hexD (c.toNat / 16), hexD (c.toNat % 16)]
/-- A text as it is written. -/
def writL (l : List UInt8) : List UInt8 := l.flatMap writB
/-- An operation as a line. -/
def lineL (o : OP9) : List UInt8 := match sortRows[o.k.toNat]? with
  | some r => r.1 ++ (if r.2.1 = 1 then 32 :: Lib.itoa o.a else if r.2.1 = 2 then 32 :: (Lib.itoa o.a ++ 32 :: Lib.itoa o.b) else if r.2.1 = 3 then 32 :: writL o.t.data.toList else [])
  | none => []
def opLn (l : List OP9) : List UInt8 := l.flatMap fun o => lineL o ++ [10]
def progL (m : PM) : List UInt8 := headL ++ m.1.data.toList ++ [10] ++ opLn m.2
/-- A text that says programs. -/
def printL (l : List PM) : List UInt8 := l.flatMap progL
theorem lineL_row {o : OP9} {r : SoR} (h : sortRows[o.k.toNat]? = some r) : lineL o = r.1 ++ (if r.2.1 = 1 then 32 :: Lib.itoa o.a else if r.2.1 = 2 then 32 :: (Lib.itoa o.a ++ 32 :: Lib.itoa o.b) else if r.2.1 = 3 then 32 :: writL o.t.data.toList else []) := by
  unfold lineL
  rw [h]
theorem printL_app (a b : List PM) : printL (a ++ b) = printL a ++ printL b := by simp [printL]
theorem opLn_app (a b : List OP9) : opLn (a ++ b) = opLn a ++ opLn b := by simp [opLn]
theorem opLn_one (o : OP9) : opLn [o] = lineL o ++ [10] := by simp [opLn]
theorem writL_app (a b : List UInt8) : writL (a ++ b) = writL a ++ writL b := by simp [writL]
theorem cutS_join : ∀ y : List UInt8, ∃ x r, cutS y = x :: r ∧ y = x ++ r.flatMap (fun z => 32 :: z)
  | [] => ⟨[], [], rfl, rfl⟩
  | c :: s => by
    obtain ⟨x, r, h1, h2⟩ := cutS_join s
    unfold cutS
    rw [h1]
    by_cases h : c = 32
    · rw [if_pos h]
      exact ⟨[], x :: r, rfl, by rw [h]; simp [← h2]⟩
    · rw [if_neg h]
      exact ⟨c :: x, r, rfl, by simp [← h2]⟩
theorem ixF_word (x : List UInt8) : ∀ (l : List SoR) (i : Nat), ixF x l i = -1 ∨ ∃ j r, l[j]? = some r ∧ ixF x l i = ((i + j : Nat) : Int) ∧ r.1 = x
  | [], i => .inl rfl
  | r :: l, i => by
    unfold ixF
    cases h : r.1 == x with
    | true => exact .inr ⟨0, r, rfl, rfl, by simpa using h⟩
    | false =>
      rcases ixF_word x l (i + 1) with h | ⟨j, q, h1, h2, h3⟩
      · exact .inl h
      · exact .inr ⟨j + 1, q, h1, by dsimp only; rw [h2]; congr 1; omega, h3⟩
theorem ix_word {x : List UInt8} (h : ¬ ixI x < 1) : ∃ (k : Nat) (r : SoR), ixI x = (k : Int) ∧ sortRows[k]? = some r ∧ shK (ixI x) = r.2.1 ∧ r.1 = x := by
  rcases ixF_word x sortRows 0 with h1 | ⟨j, r, h1, h2, h4⟩
  · exact absurd (show ixI x < 1 by show ixF x sortRows 0 < 1; rw [h1]; decide) h
  · rw [Nat.zero_add] at h2
    have h3 : ixI x = (j : Int) := h2
    refine ⟨j, r, h3, h1, ?_, h4⟩
    unfold shK
    rw [h3, Int.toNat_natCast, h1]
theorem hex_back : ∀ n : Fin 256, (0 ≤ digI (UInt8.ofNat n.val).toNat → hexD (digI (UInt8.ofNat n.val).toNat).toNat = UInt8.ofNat n.val) := by decide +kernel
theorem u8_all {p : UInt8 → Prop} (h : ∀ n : Fin 256, p (UInt8.ofNat n.val)) (c : UInt8) : p c := by
  have := h ⟨c.toNat, by have := c.toNat_lt; omega⟩
  rwa [show UInt8.ofNat (⟨c.toNat, by have := c.toNat_lt; omega⟩ : Fin 256).val = c from UInt8.ofNat_toNat] at this
theorem hex_dig (a : UInt8) (h : 0 ≤ digI a.toNat) : hexD (digI a.toNat).toNat = a := u8_all (p := fun a => 0 ≤ digI a.toNat → hexD (digI a.toNat).toNat = a) hex_back a h
theorem hexV_in {x y : Int} (hx : 0 ≤ x ∧ x ≤ 15) (hy : 0 ≤ y ∧ y ≤ 15) : hexV x y = 16 * x + y := by
  unfold hexV
  show (16 * x + y) % 256 = _
  omega
/-- What is read is written as it stood. -/
theorem read_writ : ∀ (k : Nat) (l out o : List UInt8), readB k l out = some o → ∃ s, o = out ++ s ∧ writL s = l
  | 0, l, out, o, h => by cases h
  | k + 1, [], out, o, h => by
    injection h with h
    exact ⟨[], by simp [h], rfl⟩
  | k + 1, c :: l, out, o, h => by
    cases hi : itselfB c with
    | true =>
      have h2 : readB k l (out ++ [c]) = some o := by
        have e : readB (k + 1) (c :: l) out = (match itselfB c with
          | true => readB k l (out ++ [c])
          | false => readB (k + 1) (c :: l) out) := by
          rw [hi]
          show (match itselfB c with | true => readB k l (out ++ [c]) | false => _) = _
          rw [hi]
        rw [e, hi] at h
        exact h
      obtain ⟨s, h3, h4⟩ := read_writ k l (out ++ [c]) o h2
      refine ⟨c :: s, by rw [h3]; simp, ?_⟩
      show writB c ++ writL s = _
      rw [h4]
      unfold writB
      rw [if_pos hi]
      rfl
    | false =>
      rw [readB_esc k c l out hi] at h
      cases hc : !decide ((c.toNat : Int) = 92) with
      | true => rw [hc] at h; cases h
      | false =>
        rw [hc] at h
        have hc2 : c = 92 := by
          have : (c.toNat : Int) = 92 := by simpa using hc
          have : c.toNat = 92 := by omega
          rw [← UInt8.ofNat_toNat (x := c), this]
          rfl
        match l, h with
        | a :: b :: r, h =>
          dsimp only at h
          cases hd : decide (digI a.toNat < 0) || decide (digI b.toNat < 0) with
          | true => rw [hd] at h; cases h
          | false =>
            rw [hd] at h
            simp only [Bool.or_eq_false_iff, decide_eq_false_iff_not] at hd
            cases hv : itselfI (hexV (digI a.toNat) (digI b.toNat)) with
            | true => rw [hv] at h; cases h
            | false =>
              rw [hv] at h
              have h : readB k r (out ++ [(hexV (digI a.toNat) (digI b.toNat)).toNat.toUInt8]) = some o := h
              obtain ⟨s, h3, h4⟩ := read_writ k r _ o h
              have ha := digI_hi a.toNat
              have hb := digI_hi b.toNat
              have hw := hexV_in (x := digI a.toNat) (y := digI b.toNat) (by omega) (by omega)
              have hn := hexV_u8 (digI a.toNat) (digI b.toNat)
              generalize hx : (hexV (digI a.toNat) (digI b.toNat)).toNat.toUInt8 = x at *
              refine ⟨x :: s, by rw [h3]; simp, ?_⟩
              show writB x ++ writL s = _
              rw [h4]
              have hi2 : ¬ itselfB x = true := by
                unfold itselfB
                rw [hn, hv]
                decide
              unfold writB
              rw [if_neg hi2, hc2]
              have e1 : x.toNat / 16 = (digI a.toNat).toNat := by omega
              have e2 : x.toNat % 16 = (digI b.toNat).toNat := by omega
              rw [e1, e2, hex_dig a (by omega), hex_dig b (by omega)]
              rfl
        | [], h => cases h
        | [a], h => cases h
theorem numOk_text {a : List UInt8} (h : numOk a = true) : Lib.itoa (atoiN a) = a := by
  unfold numOk at h
  simp only [Bool.and_eq_true] at h
  simpa using h.2.2
/-- What a line says is printed as the line. -/
theorem op_line {y : List UInt8} {o : OP9} (h : opB y = (o, true)) : lineL o = y := by
  obtain ⟨x, r, h1, h2⟩ := cutS_join y
  unfold opB at h
  rw [h1, opW_cons] at h
  cases hd : decide (ixI x < 1) with
  | true => rw [hd] at h; injection h with _ h; cases h
  | false =>
    rw [hd] at h
    obtain ⟨k, q, hk, hq, hs, hx⟩ := ix_word (of_decide_eq_false hd)
    dsimp only at h
    cases h3 : shK (ixI x) == 3 with
    | true =>
      rw [h3] at h
      have h : opT (ixI x) r = (o, true) := h
      match r, h, h2 with
      | [a], h, h2 =>
        unfold opT at h
        dsimp only at h
        cases hr : readB (a.length + 1) a [] with
        | none => rw [hr] at h; injection h with _ h; cases h
        | some s =>
          rw [hr] at h
          injection h with h _
          subst h
          obtain ⟨s2, e1, e2⟩ := read_writ _ _ _ _ hr
          have hsh : q.2.1 = 3 := by rw [← hs]; simpa using h3
          rw [lineL_row (r := q) (by show sortRows[(ixI x).toNat]? = _; rw [hk, Int.toNat_natCast]; exact hq), hsh, hx, h2]
          rw [List.nil_append] at e1
          subst e1
          simp [strL_data, e2]
      | [], h, h2 => unfold opT at h; injection h with _ h; cases h
      | a :: b :: t, h, h2 => unfold opT at h; injection h with _ h; cases h
    | false =>
      rw [h3] at h
      dsimp only at h
      cases h4 : decide (((r.length + 1 : Nat) : Int) = 1 + shK (ixI x)) with
      | false => rw [h4] at h; injection h with _ h; cases h
      | true =>
        rw [h4] at h
        have h5 := of_decide_eq_true h4
        have h3 : shK (ixI x) ≠ 3 := by simpa using h3
        rw [hs] at h5 h3
        dsimp only at h
        cases ho : opN (ixI x) r with
        | none => rw [ho] at h; injection h with _ h; cases h
        | some o2 =>
          rw [ho] at h
          injection h with h _
          subst h
          have hsc := sh_cases hq
          match r, ho, h2, h5 with
          | [], ho, h2, h5 =>
            unfold opN at ho
            injection ho with ho
            subst ho
            have hsh : q.2.1 = 0 := by simp at h5; omega
            rw [lineL_row (r := q) (by show sortRows[(ixI x).toNat]? = _; rw [hk, Int.toNat_natCast]; exact hq), hsh, hx, h2]
            simp
          | [a], ho, h2, h5 =>
            unfold opN at ho
            dsimp only at ho
            cases hn : numOk a with
            | false => rw [hn] at ho; cases ho
            | true =>
              rw [hn] at ho
              injection ho with ho
              subst ho
              have hsh : q.2.1 = 1 := by simp at h5; omega
              rw [lineL_row (r := q) (by show sortRows[(ixI x).toNat]? = _; rw [hk, Int.toNat_natCast]; exact hq), hsh, hx, h2]
              simp [numOk_text hn]
          | a :: b :: t, ho, h2, h5 =>
            unfold opN at ho
            dsimp only at ho
            cases hn : numOk a with
            | false => rw [hn] at ho; cases ho
            | true =>
              rw [hn] at ho
              dsimp only at ho
              cases hn2 : numOk b with
              | false => rw [hn2] at ho; cases ho
              | true =>
                rw [hn2] at ho
                injection ho with ho
                subst ho
                have hl : t = [] := by
                  cases t with
                  | nil => rfl
                  | cons z t => simp at h5; omega
                subst hl
                have hsh : q.2.1 = 2 := by simp at h5; omega
                rw [lineL_row (r := q) (by show sortRows[(ixI x).toNat]? = _; rw [hk, Int.toNat_natCast]; exact hq), hsh, hx, h2]
                simp [numOk_text hn, numOk_text hn2]
theorem suffix_ten {y : List UInt8} : trimN (y ++ [10]) = y := by
  unfold trimN Lib.trimSuffix Lib.hasSuffix
  rw [if_pos (by rw [List.isSuffixOf_iff_suffix]; exact ⟨y, rfl⟩)]
  simp
theorem addOp_print {o : OP9} : ∀ {l l' : List PM}, addOp o l = some l' → printL l' = printL l ++ (lineL o ++ [10])
  | [], l', h => by cases h
  | [m], l', h => by
    injection h with h
    subst h
    simp [printL, progL, opLn_app, opLn_one]
  | m :: a :: l, l', h => by
    have e : addOp o (m :: a :: l) = (match addOp o (a :: l) with
      | some l' => some (m :: l')
      | none => none) := rfl
    rw [e] at h
    cases h2 : addOp o (a :: l) with
    | none => rw [h2] at h; cases h
    | some l2 =>
      rw [h2] at h
      injection h with h
      subst h
      have := addOp_print h2
      show progL m ++ printL l2 = progL m ++ printL (a :: l) ++ _
      rw [this, List.append_assoc]
theorem head_behind {y : List UInt8} (h : isHead y = true) : headL ++ behind y = y := by
  unfold isHead Lib.hasPrefix at h
  unfold behind Lib.trimPrefix Lib.hasPrefix
  rw [if_pos h]
  obtain ⟨t, rfl⟩ := List.isPrefixOf_iff_prefix.1 h
  simp
theorem step_print {l l' : List PM} {y : List UInt8} (h : stepX l y = some l') : printL l' = printL l ++ (y ++ [10]) := by
  unfold stepX at h
  cases hh : isHead y with
  | true =>
    rw [hh] at h
    dsimp only at h
    cases hb : badName (behind y) with
    | true => rw [hb] at h; cases h
    | false =>
      rw [hb] at h
      injection h with h
      subst h
      have := head_behind hh
      rw [printL_app]
      congr 1
      show progL (strL (behind y), []) ++ [] = _
      simp only [progL, strL_data, opLn, List.flatMap_nil, List.append_nil]
      rw [this]
  | false =>
    rw [hh] at h
    dsimp only at h
    cases ho : opB y with
    | mk o b =>
      rw [ho] at h
      cases b with
      | false => cases h
      | true => rw [addOp_print h, op_line ho]
theorem fold_print : ∀ {ls : List (List UInt8)} {l l' : List PM}, (∀ x ∈ ls, ∃ y, x = y ++ [10]) → foldP l ls = some l' → printL l' = printL l ++ ls.flatten
  | [], l, l', _, h => by
    injection h with h
    subst h
    simp
  | x :: t, l, l', hx, h => by
    obtain ⟨y, rfl⟩ := hx x (by simp)
    have e : foldP l ((y ++ [10]) :: t) = (match stepX l (trimN (y ++ [10])) with
      | some l' => foldP l' t
      | none => none) := rfl
    rw [e, suffix_ten] at h
    cases hs : stepX l y with
    | none => rw [hs] at h; cases h
    | some l2 =>
      rw [hs] at h
      rw [fold_print (fun x hx' => hx x (by simp [hx'])) h, step_print hs]
      simp
theorem lines_flat : ∀ s : List UInt8, (linesB s).flatten = s
  | [] => rfl
  | c :: s => by
    have ih := lines_flat s
    unfold linesB
    split
    · rename_i h
      simp [ih, h]
    · split
      · rename_i h
        rw [h] at ih
        simp at ih
        simp [← ih]
      · rename_i h
        rw [h] at ih
        simp at ih
        simp [ih]
theorem lines_ends : ∀ {s : List UInt8}, endsN s = true → ∀ x ∈ linesB s, ∃ y, x = y ++ [10]
  | [], h, x, hx => by cases hx
  | c :: s, h, x, hx => by
    unfold endsN Lib.hasSuffix at h
    rw [List.isSuffixOf_iff_suffix] at h
    have ih : s ≠ [] → ∀ x ∈ linesB s, ∃ y, x = y ++ [10] := fun hs => by
      refine lines_ends ?_
      unfold endsN Lib.hasSuffix
      rw [List.isSuffixOf_iff_suffix]
      rcases List.suffix_cons_iff.1 h with h | h
      · exact absurd (by injection h with _ h; exact h.symm) hs
      · exact h
    unfold linesB at hx
    split at hx
    · rename_i hc
      rcases List.mem_cons.1 hx with rfl | hx
      · exact ⟨[], rfl⟩
      · by_cases hs : s = []
        · subst hs; cases hx
        · exact ih hs x hx
    · rename_i hc
      have hs : s ≠ [] := by
        rintro rfl
        rcases List.suffix_cons_iff.1 h with h | h
        · injection h with h _; exact hc h.symm
        · have := h.length_le; simp at this
      split at hx
      · rename_i he
        have := lines_flat s
        rw [he] at this
        exact absurd this.symm hs
      · rename_i h0 t he
        rcases List.mem_cons.1 hx with rfl | hx
        · obtain ⟨y, hy⟩ := ih hs h0 (by rw [he]; simp)
          exact ⟨c :: y, by rw [hy]; rfl⟩
        · exact ih hs x (by rw [he]; simp [hx])
/-- What is parsed is right, and printed as it came. -/
theorem parse_print {s : List UInt8} {l : List PM} {i : Int} (h : parseM s = (some l, i)) : i = 0 ∧ checkM l = 0 ∧ printL l = s := by
  unfold parseM at h
  cases h1 : decide (262144 < s.length) with
  | true => rw [h1] at h; injection h with h; cases h
  | false =>
    rw [h1] at h
    dsimp only at h
    cases h2 : !s.isEmpty && !endsN s with
    | true => rw [h2] at h; injection h with h; cases h
    | false =>
      rw [h2] at h
      dsimp only at h
      cases h3 : foldP [] (linesB s) with
      | none => rw [h3] at h; injection h with h; cases h
      | some l2 =>
        rw [h3] at h
        dsimp only at h
        split at h
        · rename_i hc
          injection h with e1 e2
          injection e1 with e1
          subst e1
          refine ⟨e2.symm, hc, ?_⟩
          have hx : ∀ x ∈ linesB s, ∃ y, x = y ++ [10] := by
            cases s with
            | nil => intro x hx; cases hx
            | cons c s => exact lines_ends (by simpa using h2)
          rw [fold_print hx h3, lines_flat]
          rfl
        · injection h with h; cases h
theorem parse_none {s : List UInt8} {i : Int} (h : parseM s = (none, i)) : i ≠ 0 := by
  unfold parseM at h
  cases h1 : decide (262144 < s.length) with
  | true => rw [h1] at h; injection h with _ h; omega
  | false =>
    rw [h1] at h
    dsimp only at h
    cases h2 : !s.isEmpty && !endsN s with
    | true => rw [h2] at h; injection h with _ h; omega
    | false =>
      rw [h2] at h
      dsimp only at h
      cases h3 : foldP [] (linesB s) with
      | none => rw [h3] at h; injection h with _ h; omega
      | some l2 =>
        rw [h3] at h
        dsimp only at h
        split at h
        · injection h with h; cases h
        · rename_i hc
          injection h with _ h; omega
end Go.Proofs.YtmmcamkmglpgiaaGreatDoor

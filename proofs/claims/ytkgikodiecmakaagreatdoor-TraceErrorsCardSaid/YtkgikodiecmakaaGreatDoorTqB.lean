/- append(s, x...) for slices of texts: s of the call's own, x whatever reads as a list; no condition · append(s, x...) for slices of integers: s of the call's own, x whatever reads as a list; no condition · The document's answer for layer 1: Copy; no condition but the sizes that can be · Layer 4: words, lengths, the first error, texts and flags as fields; no condition · Layer 4: the getters; no condition but the sizes that can be · Layer 4: the getters; no condition but the sizes that can be · A text of bytes that are read; no condition · Layer 4: the putters; no condition but that the fields are there. -/
import Derived.Test.YtkgikodiecmakaaGreatDoorTqA
import Derived.Test.YtkgikodiecmakaaGreatDoorReqP
import Derived.Test.YtkgikodiecmakaaGreatDoorOctQ
import Derived.Test.YtkgikodiecmakaaGreatDoorHeldB
import Derived.Test.YtkgikodiecmakaaGreatDoorApX
namespace Go.Proofs.YtkgikodiecmakaaGreatDoor
set_option linter.all false
open Go.RowKit

theorem strInfos : (Tryz.prog.info? 9).map (fun i => (i.zero, i.size, i.bytes)) = some (some (.string ByteArray.empty), 1, 16) := by kernel_rfl
def strs' (l : List ByteArray) : List Value := l.map Value.string
/-- A slice of texts of the call's own, in a block from base on. -/
def OwnS (w : World) (base : Nat) (v : Value) (l : List ByteArray) : Prop := w.ownsRow base 9 1 v l.length (strs' l)
theorem ownS_nil (w : World) (base : Nat) : OwnS w base (.slice none 0 0) [] := World.ownsRow_nil w base _ _
theorem OwnS.far {w w' : World} {base : Nat} {v : Value} {l : List ByteArray} {L : List Nat} (h : OwnS w base v l) (hb : Only L w w') (hL : ∀ x ∈ L, some x ≠ v.ownBlock) : OwnS w' base v l := by
  refine ⟨h.1, ?_⟩
  rcases h.2 with h | ⟨g, cap, cur, e, hg, hh, r⟩
  · exact .inl h
  · exact .inr ⟨g, cap, cur, e, hg, (hb.block g (Array.getElem?_eq_some_iff.1 hh).1 (fun hm => hL g hm (by rw [e]; rfl))).trans hh, r⟩
theorem OwnS.block {w : World} {base : Nat} {v : Value} {l : List ByteArray} (h : OwnS w base v l) : ∀ k, v.ownBlock = some k → base ≤ k ∧ k < w.heap.size := World.ownsRow.lt h
theorem OwnS.rd {w : World} {base : Nat} {v : Value} {l : List ByteArray} (h : OwnS w base v l) : ∃ A cap, v = .slice A l.length cap ∧ RdS w A l ∧ l.length ≤ cap ∧ cap ≤ maxLen ∧ (∀ a, A = some a → base ≤ a.block) := by
  rcases h.2 with ⟨e, hn⟩ | ⟨g, cap, cur, e, hg, hh, hc, hm, hs, ht⟩
  · refine ⟨none, 0, by rw [e, hn], ?_, by omega, by simp [maxLen], by simp⟩
    obtain rfl := List.eq_nil_of_length_eq_zero hn
    exact RdG.nil
  · refine ⟨some ⟨g, 0, none⟩, cap, e, fun _ => ⟨g, 0, rfl, (Array.getElem?_eq_some_iff.1 hh).1, fun i v hi => ?_⟩, hc, hm, fun a ha => by simp at ha; subst ha; exact hg⟩
    subst e
    have := World.ownsRow.cells h (g := g) rfl i (.string v) (by simp [strs', hi])
    simpa [Addr.add_lit] using this
theorem ownS_new (w : World) : OwnS (w.alloc (.cells #[] 9)) w.heap.size (.slice (some ⟨w.heap.size, 0, none⟩) 0 0) [] := by
  refine ⟨by simp [strs'], .inr ⟨w.heap.size, 0, #[], rfl, Nat.le_refl _, heap_alloc_new w (.cells #[] 9), by simp, by simp [maxLen], by simp, by simp [strs']⟩⟩

theorem run_appS {w : World} (ty : TypeId) (base : Nat) (v : Value) (l : List ByteArray) (hown : OwnS w base v l) (A : Option Addr) (c : Nat) (m : List ByteArray) (hr : RdS w A m)
    (hlen : l.length + m.length ≤ 8796093022208) (hbase : base ≤ w.heap.size) :
    ∃ v' w', (Builtin.append_ #[84, 84] ty #[v, .slice A m.length c]).run Tryz.prog w = .ok v' w' ∧ OwnS w' base v' (l ++ m) ∧ Only v.ownBlock.toList w w' := by
  obtain ⟨i0, hi, hz0, hz1, hz2⟩ := info_parts strInfos
  have hu := Tryz.underlying84
  by_cases h0 : 0 < m.length
  · obtain ⟨b, off, rfl, hb, hc⟩ := hr h0
    have hn : ∀ j u, (strs' m)[j]? = some u → w.cell? ((⟨b, off, none⟩ : Addr).add j) = some u := by
      intro j u hj
      unfold strs' at hj
      rw [List.getElem?_map] at hj
      obtain ⟨s, hs, rfl⟩ := Option.map_eq_some_iff.1 hj
      rw [Addr.add_lit]
      exact hc j s hs
    have h1c : ∀ u ∈ strs' m, u.oneCell' = true := by
      intro u hu
      unfold strs' at hu
      obtain ⟨s, _, rfl⟩ := List.mem_map.1 hu
      rfl
    obtain ⟨v', w', e, h1, h2, h3⟩ := run_append_own (P := Tryz.prog) w base 84 ty 9 i0 _ 1 16 hu hi hz0 hz1 hz2 rfl (by decide) v l.length (strs' l) hown ⟨b, off, none⟩ m.length c (strs' m) (by simp [strs']) hn h1c (by simp only [maxLen]; omega) (by omega) hbase
    exact ⟨v', w', e, by show World.ownsRow _ _ _ _ _ _ _; simpa [strs'] using h1, only_of_grown h2⟩
  · have e0 : m = [] := List.eq_nil_of_length_eq_zero (by omega)
    subst e0
    refine ⟨v, w, ?_, by rw [List.append_nil]; exact hown, Only.refl _ _⟩
    have hf : ∀ w' : World, (Builtin.firstCells 1 0 (.slice A 0 c)).run Tryz.prog w' = .ok #[] w' := by
      intro w'
      cases A <;> simp [Builtin.firstCells, loadCells, loadCellsFrom]
    rcases hown.2 with ⟨rfl, hn⟩ | ⟨g, cap, cur, rfl, _, _, hnc, _⟩
    · cases A <;> simp [Builtin.append_, run_underlying hu, sizeOf, typeInfo, hi, hz1, Builtin.lenOf, hf]
    · cases A <;> simp [Builtin.append_, run_underlying hu, sizeOf, typeInfo, hi, hz1, Builtin.lenOf, hf, hnc, storeCells]

theorem wpList_appS {w : World} {ops : Array Oper} {rest : List Oper} {o : Oper} {a : Act} {Q : Exit → Act → World → Prop} (hgd : o.guard = none) (s x : Operand)
    (ho : o.op = .call { callee := .builtin .append, args := #[s, x], argTypes := #[84, 84] })
    (base : Nat) (v : Value) (l : List ByteArray) (hs : a.eval s = v) (hown : OwnS w base v l) (A : Option Addr) (c : Nat) (m : List ByteArray) (k : Nat) (hk : m.length = k) (hx : a.eval x = .slice A k c) (hr : RdS w A m)
    (hlen : l.length + m.length ≤ 8796093022208) (hbase : base ≤ w.heap.size)
    (h : ∀ v' w', Hid (OwnS w' base v' (l ++ m)) → Only v.ownBlock.toList w w' → wpList Tryz.prog ops Q rest (a.put o.dst v') w') : wpList Tryz.prog ops Q (o :: rest) a w := by
  subst hk
  refine wpList_plain hgd fun K hK => ?_
  obtain ⟨v', w', hrun, h1, h2⟩ := run_appS o.type base v l hown A c m hr hlen hbase
  unfold Oper.wp execOp
  simp only [ho, resolve, invoke, builtin, Sem.run_bind, Sem.run_pure, Result.andThen_ok, List.map_toArray, List.map_cons, List.map_nil, hs, hx, hrun]
  exact hK _ _ (h v' w' h1 h2)
end Go.Proofs.YtkgikodiecmakaaGreatDoor

namespace Go.Proofs.YtkgikodiecmakaaGreatDoor
set_option linter.all false
open Go.RowKit

theorem intInfos2 : (Tryz.prog.info? 3).map (fun i => (i.zero, i.size, i.bytes)) = some (some (.int .i64 0), 1, 8) := by kernel_rfl
/-- A slice of integers of the call's own, in a block from base on. -/
def OwnI (w : World) (base : Nat) (v : Value) (l : List Int) : Prop := w.ownsRow base 3 1 v l.length (ints l)
theorem ownI_nil (w : World) (base : Nat) : OwnI w base (.slice none 0 0) [] := World.ownsRow_nil w base _ _
theorem OwnI.far {w w' : World} {base : Nat} {v : Value} {l : List Int} {L : List Nat} (h : OwnI w base v l) (hb : Only L w w') (hL : ∀ x ∈ L, some x ≠ v.ownBlock) : OwnI w' base v l := by
  refine ⟨h.1, ?_⟩
  rcases h.2 with h | ⟨g, cap, cur, e, hg, hh, r⟩
  · exact .inl h
  · exact .inr ⟨g, cap, cur, e, hg, (hb.block g (Array.getElem?_eq_some_iff.1 hh).1 (fun hm => hL g hm (by rw [e]; rfl))).trans hh, r⟩
theorem OwnI.block {w : World} {base : Nat} {v : Value} {l : List Int} (h : OwnI w base v l) : ∀ k, v.ownBlock = some k → base ≤ k ∧ k < w.heap.size := World.ownsRow.lt h
theorem OwnI.rd {w : World} {base : Nat} {v : Value} {l : List Int} (h : OwnI w base v l) : ∃ A cap, v = .slice A l.length cap ∧ RdI w A l ∧ l.length ≤ cap ∧ cap ≤ maxLen ∧ (∀ a, A = some a → base ≤ a.block) := by
  rcases h.2 with ⟨e, hn⟩ | ⟨g, cap, cur, e, hg, hh, hc, hm, hs, ht⟩
  · refine ⟨none, 0, by rw [e, hn], ?_, by omega, by simp [maxLen], by simp⟩
    obtain rfl := List.eq_nil_of_length_eq_zero hn
    exact RdG.nil
  · refine ⟨some ⟨g, 0, none⟩, cap, e, fun _ => ⟨g, 0, rfl, (Array.getElem?_eq_some_iff.1 hh).1, fun i v hi => ?_⟩, hc, hm, fun a ha => by simp at ha; subst ha; exact hg⟩
    subst e
    have := World.ownsRow.cells h (g := g) rfl i (.int .i64 v) (by simp [ints, hi])
    simpa [Addr.add_lit] using this
theorem ownI_new (w : World) : OwnI (w.alloc (.cells #[] 3)) w.heap.size (.slice (some ⟨w.heap.size, 0, none⟩) 0 0) [] := by
  refine ⟨by simp [ints], .inr ⟨w.heap.size, 0, #[], rfl, Nat.le_refl _, heap_alloc_new w (.cells #[] 3), by simp, by simp [maxLen], by simp, by simp [ints]⟩⟩

theorem run_appI {w : World} (ty : TypeId) (base : Nat) (v : Value) (l : List Int) (hown : OwnI w base v l) (A : Option Addr) (c : Nat) (m : List Int) (hr : RdI w A m)
    (hlen : l.length + m.length ≤ 8796093022208) (hbase : base ≤ w.heap.size) :
    ∃ v' w', (Builtin.append_ #[81, 81] ty #[v, .slice A m.length c]).run Tryz.prog w = .ok v' w' ∧ OwnI w' base v' (l ++ m) ∧ Only v.ownBlock.toList w w' := by
  obtain ⟨i0, hi, hz0, hz1, hz2⟩ := info_parts intInfos2
  have hu := Tryz.underlying81
  by_cases h0 : 0 < m.length
  · obtain ⟨b, off, rfl, hb, hc⟩ := hr h0
    have hn : ∀ j u, (ints m)[j]? = some u → w.cell? ((⟨b, off, none⟩ : Addr).add j) = some u := by
      intro j u hj
      unfold ints at hj
      rw [List.getElem?_map] at hj
      obtain ⟨s, hs, rfl⟩ := Option.map_eq_some_iff.1 hj
      rw [Addr.add_lit]
      exact hc j s hs
    have h1c : ∀ u ∈ ints m, u.oneCell' = true := by
      intro u hu
      unfold ints at hu
      obtain ⟨s, _, rfl⟩ := List.mem_map.1 hu
      rfl
    obtain ⟨v', w', e, h1, h2, h3⟩ := run_append_own (P := Tryz.prog) w base 81 ty 3 i0 _ 1 8 hu hi hz0 hz1 hz2 rfl (by decide) v l.length (ints l) hown ⟨b, off, none⟩ m.length c (ints m) (by simp [ints]) hn h1c (by simp only [maxLen]; omega) (by omega) hbase
    exact ⟨v', w', e, by show World.ownsRow _ _ _ _ _ _ _; simpa [ints] using h1, only_of_grown h2⟩
  · have e0 : m = [] := List.eq_nil_of_length_eq_zero (by omega)
    subst e0
    refine ⟨v, w, ?_, by rw [List.append_nil]; exact hown, Only.refl _ _⟩
    have hf : ∀ w' : World, (Builtin.firstCells 1 0 (.slice A 0 c)).run Tryz.prog w' = .ok #[] w' := by
      intro w'
      cases A <;> simp [Builtin.firstCells, loadCells, loadCellsFrom]
    rcases hown.2 with ⟨rfl, hn⟩ | ⟨g, cap, cur, rfl, _, _, hnc, _⟩
    · cases A <;> simp [Builtin.append_, run_underlying hu, sizeOf, typeInfo, hi, hz1, Builtin.lenOf, hf]
    · cases A <;> simp [Builtin.append_, run_underlying hu, sizeOf, typeInfo, hi, hz1, Builtin.lenOf, hf, hnc, storeCells]

theorem wpList_appI {w : World} {ops : Array Oper} {rest : List Oper} {o : Oper} {a : Act} {Q : Exit → Act → World → Prop} (hgd : o.guard = none) (s x : Operand)
    (ho : o.op = .call { callee := .builtin .append, args := #[s, x], argTypes := #[81, 81] })
    (base : Nat) (v : Value) (l : List Int) (hs : a.eval s = v) (hown : OwnI w base v l) (A : Option Addr) (c : Nat) (m : List Int) (k : Nat) (hk : m.length = k) (hx : a.eval x = .slice A k c) (hr : RdI w A m)
    (hlen : l.length + m.length ≤ 8796093022208) (hbase : base ≤ w.heap.size)
    (h : ∀ v' w', Hid (OwnI w' base v' (l ++ m)) → Only v.ownBlock.toList w w' → wpList Tryz.prog ops Q rest (a.put o.dst v') w') : wpList Tryz.prog ops Q (o :: rest) a w := by
  subst hk
  refine wpList_plain hgd fun K hK => ?_
  obtain ⟨v', w', hrun, h1, h2⟩ := run_appI o.type base v l hown A c m hr hlen hbase
  unfold Oper.wp execOp
  simp only [ho, resolve, invoke, builtin, Sem.run_bind, Sem.run_pure, Result.andThen_ok, List.map_toArray, List.map_cons, List.map_nil, hs, hx, hrun]
  exact hK _ _ (h v' w' h1 h2)
end Go.Proofs.YtkgikodiecmakaaGreatDoor

namespace Go.Proofs.YtkgikodiecmakaaGreatDoor
set_option linter.all false
open Go.RowKit

/-- The field's memory is not the row's. -/
def FD.off (f : FD) (v : Value) : Prop := (∀ a, f.tA = some a → 0 < f.text.length → v.ownBlock ≠ some a.block) ∧ (∀ a, f.lA = some a → 0 < f.list.length → v.ownBlock ≠ some a.block)
theorem mine_snoc {wo w13 w14 : World} {base k' : Nat} {A' : Option Addr} {v : Value} {gs : List FD} {g : FD} (X : Only [] wo w13) (P : Only v.ownBlock.toList w13 w14) (G : Where2 v (.slice A' (gs.length + 1) k') w13.heap.size)
    (hv : ∀ x, v.ownBlock = some x → base ≤ x ∧ x < wo.heap.size) (hm : ∀ f ∈ gs, FD.mine wo f base ∧ f.off v) (mg : FD.mine w13 g wo.heap.size) (hb : base ≤ wo.heap.size) :
    ∀ f ∈ gs ++ [g], FD.mine w14 f base ∧ f.off (.slice A' (gs.length + 1) k') := by
  have z := X.size
  have hnw : ∀ x, some x = (Value.slice A' (gs.length + 1) k').ownBlock → some x = v.ownBlock ∨ w13.heap.size ≤ x := by
    intro x hx
    rcases G with e | e
    · left; rw [e] at hx; exact hx
    · right; rw [e] at hx; injection hx with hx; omega
  intro f hf
  rw [List.mem_append] at hf
  rcases hf with hf | hf
  · obtain ⟨m1, fr⟩ := hm f hf
    have t1 := m1.ok.tlt
    have t2 := m1.ok.llt
    refine ⟨(m1.only X).off P (fun a ha h0 hx => fr.1 a ha h0 (by simpa using hx)) (fun a ha h0 hx => fr.2 a ha h0 (by simpa using hx)), fun a ha h0 hx => ?_, fun a ha h0 hx => ?_⟩
    · rcases hnw _ hx.symm with h | h
      · exact fr.1 a ha h0 h.symm
      · have := t1 a ha h0; omega
    · rcases hnw _ hx.symm with h | h
      · exact fr.2 a ha h0 h.symm
      · have := t2 a ha h0; omega
  · simp at hf
    subst hf
    have t1 := mg.ok.tlt
    have t2 := mg.ok.llt
    refine ⟨(mg.off P (fun a ha h0 hx => ?_) (fun a ha h0 hx => ?_)).mono hb, fun a ha h0 hx => ?_, fun a ha h0 hx => ?_⟩
    · have h1 := mg.new.1 a ha
      have h2 := hv _ (by simpa using hx)
      omega
    · have h1 := mg.new.2 a ha
      have h2 := hv _ (by simpa using hx)
      omega
    · have h1 := mg.new.1 a ha
      rcases hnw _ hx.symm with h | h
      · have h2 := hv _ h.symm; omega
      · have := t1 a ha h0; omega
    · have h1 := mg.new.2 a ha
      rcases hnw _ hx.symm with h | h
      · have h2 := hv _ h.symm; omega
      · have := t2 a ha h0; omega

/-- A field whose text and names are new. -/
theorem mine_new {w8 w11 w13 : World} {q B k8 k11 : Nat} {A8 A11 : Option Addr} {kd nn : Int} {tx : List Int} {ls : List ByteArray} (V8 : OwnB w8 (q + 1) (.slice A8 tx.length k8) tx) (V11 : OwnS w11 w8.heap.size (.slice A11 ls.length k11) ls)
    (Y8 : Only [q] w8 w13) (Y11 : Only [q] w11 w13) (hq : q < w8.heap.size) (hB : B ≤ q) (hs : ∀ s ∈ ls, s.size ≤ maxLen) : FD.mine w13 ⟨kd, nn, A8, k8, tx, A11, k11, ls⟩ B := by
  obtain ⟨A, k, e, R8, q8, m8, a8⟩ := V8.rd
  injection e with e1 _ e3
  subst e1; subst e3
  obtain ⟨A', k', e', R11, q11, m11, a11⟩ := V11.rd
  injection e' with e1 _ e3
  subst e1; subst e3
  have S8 := OwnB.soft V8
  refine ⟨⟨RdG.onlyL (mk := .int .u8) R8 Y8 (fun a ha _ => by have := a8 a ha; simp; omega), RdG.onlyL (mk := .string) R11 Y11 (fun a ha _ => by have := a11 a ha; simp; omega), q8, m8, q11, m11, hs⟩, ⟨fun a ha => by have := a8 a ha; omega, fun a ha => by have := a11 a ha; omega⟩, fun a ha i hi => ?_⟩
  have hlt := RdG.lt (mk := .int .u8) R8 (show 0 < tx.length by have : i < tx.length := hi; omega) a ha
  refine (World.frozen?_of_block (w := w8) ?_).trans (S8 a ha i hi)
  rw [block_add]
  exact Y8.block _ hlt (by have := a8 a ha; simp; omega)

/-- Sizes that can be. -/
def Fits (f : FD) : Prop := f.text.length ≤ 140737488355328 ∧ f.list.length ≤ 8796093022208

end Go.Proofs.YtkgikodiecmakaaGreatDoor

namespace Go.Proofs.YtkgikodiecmakaaGreatDoor
set_option linter.all false
open Go.RowKit

set_option maxRecDepth 100000 in
set_option maxHeartbeats 1600000 in
theorem rword_any (s : ByteArray) (least : Nat) (w : World) (hs : s.size ≤ maxLen) : Calls Tryz.prog 102 #[.string s, .int .i64 (least : Int)] w fun e w' => e = .returned (.int .i64 (wordE s least)) ∧ w = w' := by
  unfold maxLen at hs
  obtain ⟨R, hR⟩ : ∃ R, R = wordE s least := ⟨_, rfl⟩
  rw [← hR]
  unfold wordE at hR
  by_cases h1 : s.size < least
  · have hR0 : R = 4 := by rw [hR]; unfold wordOk; rw [decide_eq_false (show ¬ least ≤ s.size by omega)]; rfl
    have i1 : (s.size : Int) < (least : Int) := by omega
    clear hR
    replace hR0 := hide hR0
    go_enter Tryz.func102, Tryz.ntmps102
    go_wp2
    go_ret
    exact ⟨ret_int hR0.out.symm, rfl⟩
  have i1 : ¬ (s.size : Int) < (least : Int) := by omega
  by_cases h2 : 64 < s.size
  · have hR0 : R = 4 := by rw [hR]; unfold wordOk; rw [decide_eq_false (show ¬ s.size ≤ 64 by omega)]; simp
    have i2 : (64 : Int) < (s.size : Int) := by omega
    clear hR
    replace hR0 := hide hR0
    go_enter Tryz.func102, Tryz.ntmps102
    go_wp2
    go_ret
    exact ⟨ret_int hR0.out.symm, rfl⟩
  have i2 : ¬ (64 : Int) < (s.size : Int) := by omega
  have hR1 : R = if s.data.toList.all wSign then 0 else 4 := by rw [hR]; unfold wordOk; rw [decide_eq_true (show least ≤ s.size by omega), decide_eq_true (show s.size ≤ 64 by omega)]; rfl
  clear hR
  obtain ⟨n, hn⟩ : ∃ n, s.size = n := ⟨_, rfl⟩
  replace hR1 := hide hR1
  replace hn := hide hn
  go_enter Tryz.func102, Tryz.ntmps102
  go_wp2
  go_loop [17] (fun i => ∃ k : Nat, k ≤ s.size ∧ i = .int .i64 k ∧ Hid ((s.data.toList.take k).all wSign = true)) (fun i => s.size - (intOf i).toNat)
  case atStart => exact ⟨0, by omega, rfl, hide rfl⟩
  case round =>
    obtain ⟨k, hk, rfl, hg⟩ := hrel
    by_cases hlt : k < s.size
    · have hts := hide (take_snocS s k hlt)
      by_cases hc : wSign s[k] = true
      · have hcc := hide hc
        unfold wSign at hc
        simp only [Bool.and_eq_true, decide_eq_true_eq] at hc
        obtain ⟨q1, q2⟩ := hc
        go_wp2
        go_round
        case rel => exact ⟨k + 1, by omega, by go_num, hide (by rw [hts.out, List.all_append, hg.out]; simp [hcc.out])⟩
        case measure => simp [intOf]; omega
      · have hf : R = 4 := by
          rw [hR1.out, if_neg]
          intro h
          have := List.all_eq_true.1 h s[k] (by
            have : s[k] = s.data.toList[k]'(by simpa using hlt) := rfl
            rw [this]; exact List.getElem_mem _)
          exact hc this
        have hq : s[k].toNat < 33 ∨ 126 < s[k].toNat := by
          unfold wSign at hc
          simp at hc
          omega
        clear hR1 hc
        replace hf := hide hf
        by_cases q1 : s[k].toNat < 33
        · clear hq
          go_wp2
          go_ret
          exact ⟨ret_int hf.out.symm, rfl⟩
        · have q2 : 126 < s[k].toNat := by omega
          clear hq
          go_wp2
          go_ret
          exact ⟨ret_int hf.out.symm, rfl⟩
    · obtain rfl : k = s.size := by omega
      have hf : R = 0 := by
        rw [hR1.out, if_pos]
        have := hg.out
        rw [List.take_of_length_le (by simp)] at this
        exact this
      replace hf := hide hf
      go_wp2
      go_ret
      exact ⟨ret_int hf.out.symm, rfl⟩
theorem rlong_any (n : Nat) (w : World) : Calls Tryz.prog 103 #[.int .i64 (n : Int)] w fun e w' => e = .returned (.int .i64 (longE n)) ∧ w = w' := by
  by_cases h : 1024 < n
  · have h1 : longE n = 6 := if_pos h
    rw [h1]
    have i1 : (1024 : Int) < (n : Int) := by omega
    clear h1
    go_enter Tryz.func103, Tryz.ntmps103
    go_wp2
    go_ret
    exact ⟨rfl, rfl⟩
  · have h1 : longE n = 0 := if_neg h
    rw [h1]
    have i1 : ¬ (1024 : Int) < (n : Int) := by omega
    clear h1
    go_enter Tryz.func103, Tryz.ntmps103
    go_wp2
    go_ret
    exact ⟨rfl, rfl⟩
set_option maxRecDepth 100000 in
set_option maxHeartbeats 1600000 in
theorem firstE_take (l : List Int) (k : Nat) (h : ∀ x ∈ l.take k, x = 0) : firstE l = firstE (l.drop k) := by
  induction k generalizing l with
  | zero => rfl
  | succ k ih =>
    cases l with
    | nil => rfl
    | cons a l =>
      have ha : a = 0 := h a (by simp)
      show (if a ≠ 0 then a else firstE l) = firstE (l.drop k)
      rw [if_neg (by simpa using ha)]
      exact ih l (fun x hx => h x (by simp [hx]))
theorem rfirst_any (A : Option Addr) (l : List Int) (c : Nat) (w : World) (h : RdI w A l) (hl : l.length ≤ maxLen) : Calls Tryz.prog 101 #[.slice A l.length c] w fun e w' => e = .returned (.int .i64 (firstE l)) ∧ w = w' := by
  unfold maxLen at hl
  obtain ⟨R, hR⟩ : ∃ R, R = firstE l := ⟨_, rfl⟩
  rw [← hR]
  obtain ⟨n, hn⟩ : ∃ n, l.length = n := ⟨_, rfl⟩
  rw [hn] at hl ⊢
  replace hn := hide hn
  replace hR := hide hR
  go_enter Tryz.func101, Tryz.ntmps101
  go_wp2
  go_loop [7] (fun i => ∃ k : Nat, k ≤ n ∧ i = .int .i64 k ∧ Hid (∀ x ∈ l.take k, x = 0)) (fun i => n - (intOf i).toNat)
  case atStart => exact ⟨0, by omega, rfl, hide (fun x hx => by simp at hx)⟩
  case round =>
    obtain ⟨k, hk, rfl, hg⟩ := hrel
    by_cases hlt : k < n
    · obtain ⟨b, off, x, rfl, hb, hx, cx⟩ := RdG.at h k (by have := hn.out; omega)
      by_cases hz : x = 0
      · subst hz
        have hg2 : ∀ y ∈ l.take (k + 1), y = 0 := by
          intro y hy
          rw [List.take_succ, hx] at hy
          rcases List.mem_append.1 hy with hy | hy
          · exact hg.out y hy
          · simpa using hy
        replace hg2 := hide hg2
        replace hx := hide hx
        go_wp2
        go_round
        case rel => exact ⟨k + 1, by omega, by go_num, hg2⟩
        case measure => simp [intOf]; omega
      · have hzb : (x != 0) = true := by simpa using hz
        have hf : R = x := by
          rw [hR.out, firstE_take l k hg.out]
          have hd : l.drop k = x :: l.drop (k + 1) := by
            rw [List.drop_eq_getElem_cons (by have := hn.out; omega)]
            congr 1
            rw [List.getElem?_eq_getElem (by have := hn.out; omega)] at hx
            exact Option.some.inj hx
          rw [hd]
          exact if_pos hz
        replace hf := hide hf
        replace hx := hide hx
        clear hz
        go_wp2
        go_ret
        exact ⟨ret_int hf.out.symm, rfl⟩
    · obtain rfl : k = n := by omega
      have hf : R = 0 := by
        rw [hR.out, firstE_take l k hg.out, List.drop_of_length_le (by have := hn.out; omega)]
        rfl
      replace hf := hide hf
      go_wp2
      go_ret
      exact ⟨ret_int hf.out.symm, rfl⟩
/-- A field in new memory. -/
def FldPost (w : World) (p : PF) : Ending → World → Prop := fun e w' => Only [] w w' ∧ ∃ f : FD, e = .returned f.val ∧ f.pf = p ∧ f.new w.heap.size ∧ f.ok w' ∧ U32 f.n
set_option maxRecDepth 100000 in
set_option maxHeartbeats 1600000 in
theorem rtext_any (s : ByteArray) (w : World) (hs : s.size ≤ 140737488355328) : Calls Tryz.prog 104 #[.string s] w (FldPost w { pT s with kind := 0 }) := by
  obtain ⟨w1, hw1⟩ : ∃ w1, w1 = w.alloc (.cells #[.int .i64 0, .int .u32 0, .slice none 0 0, .slice none 0 0] 86) := ⟨_, rfl⟩
  have P1 : Only [] w w1 := by rw [hw1]; exact (Only.refl _ _).alloc _
  have K1 : Blk w1 w.heap.size 86 [.int .i64 0, .int .u32 0, .slice none 0 0, .slice none 0 0] := by rw [hw1]; exact Blk.new w _ _
  have hs1 : w1.heap.size = w.heap.size + 1 := by rw [hw1]; simp
  obtain ⟨cc, w3, hcv, hcc, hcm, P3, RS, hs3⟩ := run_conv_bytes w1 s.data.toList
  have hul : s.data.toList.length = s.size := by simp
  rw [hul] at hcv hcc hcm
  have heta : (⟨s.data.toList.toArray⟩ : ByteArray) = s := Go.Joins.bytes_eta s
  rw [heta] at hcv
  have K3 := K1.only P3 (by simp)
  have g0 : w3.cell? ⟨w.heap.size, 0, none⟩ = some (.int .i64 0) := K3.cell 0
  have g1 : w3.cell? ⟨w.heap.size, 1, none⟩ = some (.int .u32 0) := K3.cell 1
  have g2 : w3.cell? ⟨w.heap.size, 2, none⟩ = some (.slice none 0 0) := K3.cell 2
  have g3 : w3.cell? ⟨w.heap.size, 3, none⟩ = some (.slice none 0 0) := K3.cell 3
  have f0 := K3.frozen 0
  have f1 := K3.frozen 1
  have f2 := K3.frozen 2
  have f3 := K3.frozen 3
  rw [hw1] at hcv
  have hcc2 : (sOf s).length ≤ cc := by rw [sOf_len]; exact hcc
  have hcm2 : cc ≤ maxLen := hcm (by unfold maxLen; omega)
  rw [hs1] at RS
  rw [show (w.alloc (.cells #[.int .i64 0, .int .u32 0, .slice none 0 0, .slice none 0 0] 86)).heap.size = w.heap.size + 1 by simp] at hcv
  obtain ⟨n, hn⟩ : ∃ n, s.size = n := ⟨_, rfl⟩
  rw [hn] at hcv
  replace hcc := hide hcc
  replace hul := hide hul
  replace hn := hide hn
  replace hs1 := hide hs1
  replace hw1 := hide hw1
  replace heta := hide heta
  clear K1 hcm
  go_enter Tryz.func104, Tryz.ntmps104
  go_wp2
  (try simp only [Exit.inBlock, Exit.then])
  have Y4 := W4.only w3 w.heap.size (.int .i64 0) (.int .u32 0) (.slice (some ⟨w.heap.size + 1, 0, none⟩) n cc) (.slice none 0 0)
  refine ret_field (g := w.heap.size) rfl (by rfl) (by rfl) (W4.blk K3 (.int .i64 0) (.int .u32 0) (.slice (some ⟨w.heap.size + 1, 0, none⟩) n cc) (.slice none 0 0)) ?_
  refine ⟨(P1.trans P3 (by simp)).trans Y4 (fun x hx => .inr (by simp at hx; omega)), ⟨0, 0, some ⟨w.heap.size + 1, 0, none⟩, cc, sOf s, none, 0, []⟩, ?_, rfl, ⟨fun a ha => by injection ha with ha; subst ha; exact Nat.le_succ _, fun a ha => by simp at ha⟩, ⟨?_, RdG.nil, hcc2, hcm2, by simp, by simp, by simp⟩, Int.le_refl 0, show (0 : Int) ≤ 4294967295 by decide⟩
  · unfold FD.val
    dsimp only
    rw [sOf_len, hn.out]
    rfl
  · exact RdG.onlyL (mk := .int .u8) RS Y4 (fun a ha _ => by injection ha with ha; subst ha; simp)
set_option maxRecDepth 100000 in
set_option maxHeartbeats 1600000 in
theorem rflag_any (b : Bool) (w : World) : Calls Tryz.prog 106 #[.bool b] w (FldPost w { pB b with kind := 0 }) := by
  cases b with
  | true =>
    go_enter Tryz.func106, Tryz.ntmps106
    go_wp2
    (try simp only [Exit.inBlock, Exit.then])
    refine ret_field (g := w.heap.size) rfl (by rfl) (by rfl) (Blk.new w 86 [.int .i64 0, .int .u32 1, .slice none 0 0, .slice none 0 0]) ?_
    exact ⟨(Only.refl _ _).alloc _, ⟨0, 1, none, 0, [], none, 0, []⟩, rfl, rfl, FD.new.plain _ _ _, FD.ok.plain _ _ _, by decide, by decide⟩
  | false =>
    go_enter Tryz.func106, Tryz.ntmps106
    go_wp2
    (try simp only [Exit.inBlock, Exit.then])
    refine ret_field (g := w.heap.size) rfl (by rfl) (by rfl) (Blk.new w 86 [.int .i64 0, .int .u32 0, .slice none 0 0, .slice none 0 0]) ?_
    exact ⟨(Only.refl _ _).alloc _, ⟨0, 0, none, 0, [], none, 0, []⟩, rfl, rfl, FD.new.plain _ _ _, FD.ok.plain _ _ _, by decide, by decide⟩
/-- Fields in a new slice. -/
theorem ownF_lit (w : World) (fs : List FD) (n : Nat) (hn : fs.length = n) (h1 : n ≤ 1000) (cs : Array Value) (h : cs = (fcells fs).toArray) : OwnF (w.alloc (.cells cs 86)) w.heap.size (.slice (some ⟨w.heap.size, 0, none⟩) n n) fs := by
  subst h
  subst hn
  exact ⟨by rw [fcells_length], .inr ⟨w.heap.size, fs.length, (fcells fs).toArray, rfl, Nat.le_refl _, heap_alloc_new w (.cells (fcells fs).toArray 86), Nat.le_refl _, by unfold maxLen; omega, by simp [fcells_length], by rw [← fcells_length]; simp⟩⟩
/-- What a getter hands on: fields in a slice of their own, their kinds not yet set. -/
def GetsPost (w : World) (ps : List PF) : Ending → World → Prop := fun e w' => Only [] w w' ∧ ∃ (v : Value) (fs : List FD), e = .returned v ∧ OwnF w' w.heap.size v fs ∧ fs.map FD.pf = ps.map (fun p => { p with kind := 0 }) ∧ (∀ f ∈ fs, FD.ok w' f ∧ f.off v) ∧ ∀ f ∈ fs, U32 f.n
theorem off_new {w : World} {f : FD} (h : f.ok w) (n c : Nat) : f.off (.slice (some ⟨w.heap.size, 0, none⟩) n c) :=
  ⟨fun a ha h0 hx => by have := h.tlt a ha h0; have hx2 : w.heap.size = a.block := Option.some.inj hx; omega, fun a ha h0 hx => by have := h.llt a ha h0; have hx2 : w.heap.size = a.block := Option.some.inj hx; omega⟩
theorem plain_off (k n : Int) (v : Value) : FD.off ⟨k, n, none, 0, [], none, 0, []⟩ v := ⟨fun a ha => by simp at ha, fun a ha => by simp at ha⟩
end Go.Proofs.YtkgikodiecmakaaGreatDoor

namespace Go.Proofs.YtkgikodiecmakaaGreatDoor
set_option linter.all false
open Go.RowKit

section
variable (m : RQ) (g : Nat) (w : World)
set_option maxRecDepth 100000 in
set_option maxHeartbeats 1600000 in
theorem getNoneR_any (hg : Blk w g 120 m.cells) : Calls Tryz.prog 76 #[.pointer (some ⟨g, 0, none⟩)] w (GetsPost w (partsR m 3)) := by
  go_enter Tryz.func76, Tryz.ntmps76
  go_wp2
  go_ret
  exact ⟨Only.refl _ _, _, [], rfl, ownF_nil _ _, rfl, fun f hf => by simp at hf, fun f hf => by simp at hf⟩
set_option maxRecDepth 100000 in
set_option maxHeartbeats 1600000 in
theorem getTextR_any (hg : Blk w g 120 m.cells) (hs : m.text.size ≤ 140737488355328) : Calls Tryz.prog 79 #[.pointer (some ⟨g, 0, none⟩)] w (GetsPost w (partsR m 4)) := by
  have c1 : w.cell? ⟨g, 1, none⟩ = some (.string m.text) := hg.cell 1
  have hlt := hg.lt
  have TX := rtext_any m.text w hs
  go_enter Tryz.func79, Tryz.ntmps79
  go_wp2_with fail
  go_call TX as e w1 ⟨P1, f, rfl, hp, hnew, okf, hn⟩
  have V := ownF_lit w1 [f] 1 rfl (by decide) f.cells.toArray (by simp [fcells])
  have P2 : Only [] w1 (w1.alloc (.cells f.cells.toArray 86)) := (Only.refl _ _).alloc _
  have z1 := P1.size
  unfold FD.val
  go_wp2_with fail
  go_ret
  refine ⟨P1.trans P2 (by simp), _, [f], rfl, V.mono z1, ?_, fun x hx => ?_, fun x hx => ?_⟩
  · rw [List.map_cons, hp]; rfl
  · rw [List.mem_singleton] at hx; subst hx; exact ⟨okf.only P2, off_new okf 1 1⟩
  · rw [List.mem_singleton] at hx; subst hx; exact hn
set_option maxRecDepth 100000 in
set_option maxHeartbeats 1600000 in
theorem getOnR_any (hg : Blk w g 120 m.cells)  : Calls Tryz.prog 85 #[.pointer (some ⟨g, 0, none⟩)] w (GetsPost w (partsR m 7)) := by
  have c9 : w.cell? ⟨g, 9, none⟩ = some (.bool m.on) := hg.cell 9
  have hlt := hg.lt
  have TX := rflag_any m.on w
  go_enter Tryz.func85, Tryz.ntmps85
  go_wp2_with fail
  go_call TX as e w1 ⟨P1, f, rfl, hp, hnew, okf, hn⟩
  have V := ownF_lit w1 [f] 1 rfl (by decide) f.cells.toArray (by simp [fcells])
  have P2 : Only [] w1 (w1.alloc (.cells f.cells.toArray 86)) := (Only.refl _ _).alloc _
  have z1 := P1.size
  unfold FD.val
  go_wp2_with fail
  go_ret
  refine ⟨P1.trans P2 (by simp), _, [f], rfl, V.mono z1, ?_, fun x hx => ?_, fun x hx => ?_⟩
  · rw [List.map_cons, hp]; rfl
  · rw [List.mem_singleton] at hx; subst hx; exact ⟨okf.only P2, off_new okf 1 1⟩
  · rw [List.mem_singleton] at hx; subst hx; exact hn
set_option maxRecDepth 100000 in
set_option maxHeartbeats 1600000 in
theorem getCodeR_any (hg : Blk w g 120 m.cells) (hn : U32 m.code) : Calls Tryz.prog 87 #[.pointer (some ⟨g, 0, none⟩)] w (GetsPost w (partsR m 9)) := by
  have c10 : w.cell? ⟨g, 10, none⟩ = some (.int .u32 m.code) := hg.cell 10
  have hlt := hg.lt
  have V := ownF_lit w [⟨0, m.code, none, 0, [], none, 0, []⟩] 1 rfl (by decide) #[.int .i64 0, .int .u32 m.code, .slice none 0 0, .slice none 0 0] (by simp [fcells, FD.cells])
  go_enter Tryz.func87, Tryz.ntmps87
  go_wp2
  go_ret
  refine ⟨(Only.refl _ _).alloc _, _, _, rfl, V, rfl, fun x hx => ?_, fun x hx => ?_⟩
  · rw [List.mem_singleton] at hx; subst hx; exact ⟨FD.ok.plain _ _ _, plain_off _ _ _⟩
  · rw [List.mem_singleton] at hx; subst hx; exact hn
set_option maxRecDepth 100000 in
set_option maxHeartbeats 1600000 in
theorem getSizeR_any (hg : Blk w g 120 m.cells) (hn : RNums m) : Calls Tryz.prog 83 #[.pointer (some ⟨g, 0, none⟩)] w (GetsPost w (partsR m 6)) := by
  have hlt := hg.lt
  have V := ownF_lit w.drew [⟨0, m.cols, none, 0, [], none, 0, []⟩, ⟨0, m.rows, none, 0, [], none, 0, []⟩, ⟨0, m.width, none, 0, [], none, 0, []⟩, ⟨0, m.height, none, 0, [], none, 0, []⟩] 4 rfl (by decide) #[.int .i64 0, .int .u32 m.cols, .slice none 0 0, .slice none 0 0, .int .i64 0, .int .u32 m.rows, .slice none 0 0, .slice none 0 0, .int .i64 0, .int .u32 m.width, .slice none 0 0, .slice none 0 0, .int .i64 0, .int .u32 m.height, .slice none 0 0, .slice none 0 0] (by simp [fcells, FD.cells])
  go_enter Tryz.func83, Tryz.ntmps83
  go_wp2_with fail
  have hI : (fun w' : World => Blk w' g 120 m.cells) { w with drawn := w.drawn + 1 } := hg
  refine wp_region_E (fun w' : World => Blk w' g 120 m.cells) [] (by kernel_rfl) ?_
  refine wpAnyE_take 0 (v := (.pointer (some ⟨g, 0, none⟩))) rfl (by kernel_rfl) (fun _ _ _ h => h) hI (fun w' hw' => Or.inl ⟨by kernel_rfl, Or.inl (by go_simp)⟩) ?_
  refine wpAnyE_take 1 (v := (.pointer (some ⟨g, 0, none⟩))) rfl (by kernel_rfl) (fun _ _ _ h => h) hI (fun w' hw' => Or.inl ⟨by kernel_rfl, Or.inl (by go_simp)⟩) ?_
  refine wpAnyE_take 2 (v := (.pointer (some ⟨g, 0, none⟩))) rfl (by kernel_rfl) (fun _ _ _ h => h) hI (fun w' hw' => Or.inl ⟨by kernel_rfl, Or.inl (by go_simp)⟩) ?_
  refine wpAnyE_take 3 (v := (.pointer (some ⟨g, 4, none⟩))) rfl (by kernel_rfl) (fun _ _ _ h => h) hI (fun w' hw' => Or.inl ⟨by kernel_rfl, Or.inl (by go_simp)⟩) ?_
  refine wpAnyE_take 4 (v := (.pointer (some ⟨g, 4, none⟩))) rfl (by kernel_rfl) (fun _ _ _ h => h) hI (fun w' hw' => Or.inl ⟨by kernel_rfl, Or.inl (by go_simp)⟩) ?_
  refine wpAnyE_take 5 (v := (.int .u32 m.cols)) rfl (by kernel_rfl) (fun _ _ _ h => h) hI (fun w' hw' => Or.inl ⟨by kernel_rfl, Or.inl (by have y0 : w'.cell? ⟨g, 4, none⟩ = some (.int .u32 m.cols) := hw'.cell 4; go_simp)⟩) ?_
  refine wpAnyE_take 6 (v := (.agg #[.int .i64 0, .int .u32 m.cols, .slice none 0 0, .slice none 0 0])) rfl (by kernel_rfl) (fun _ _ _ h => h) hI (fun w' hw' => Or.inl ⟨by kernel_rfl, Or.inl (by go_simp)⟩) ?_
  refine wpAnyE_take 7 (v := (.pointer (some ⟨g, 0, none⟩))) rfl (by kernel_rfl) (fun _ _ _ h => h) hI (fun w' hw' => Or.inl ⟨by kernel_rfl, Or.inl (by go_simp)⟩) ?_
  refine wpAnyE_take 8 (v := (.pointer (some ⟨g, 0, none⟩))) rfl (by kernel_rfl) (fun _ _ _ h => h) hI (fun w' hw' => Or.inl ⟨by kernel_rfl, Or.inl (by go_simp)⟩) ?_
  refine wpAnyE_take 9 (v := (.pointer (some ⟨g, 0, none⟩))) rfl (by kernel_rfl) (fun _ _ _ h => h) hI (fun w' hw' => Or.inl ⟨by kernel_rfl, Or.inl (by go_simp)⟩) ?_
  refine wpAnyE_take 10 (v := (.pointer (some ⟨g, 4, none⟩))) rfl (by kernel_rfl) (fun _ _ _ h => h) hI (fun w' hw' => Or.inl ⟨by kernel_rfl, Or.inl (by go_simp)⟩) ?_
  refine wpAnyE_take 11 (v := (.pointer (some ⟨g, 5, none⟩))) rfl (by kernel_rfl) (fun _ _ _ h => h) hI (fun w' hw' => Or.inl ⟨by kernel_rfl, Or.inl (by go_simp)⟩) ?_
  refine wpAnyE_take 12 (v := (.int .u32 m.rows)) rfl (by kernel_rfl) (fun _ _ _ h => h) hI (fun w' hw' => Or.inl ⟨by kernel_rfl, Or.inl (by have y0 : w'.cell? ⟨g, 5, none⟩ = some (.int .u32 m.rows) := hw'.cell 5; go_simp)⟩) ?_
  refine wpAnyE_take 13 (v := (.agg #[.int .i64 0, .int .u32 m.rows, .slice none 0 0, .slice none 0 0])) rfl (by kernel_rfl) (fun _ _ _ h => h) hI (fun w' hw' => Or.inl ⟨by kernel_rfl, Or.inl (by go_simp)⟩) ?_
  refine wpAnyE_take 14 (v := (.pointer (some ⟨g, 0, none⟩))) rfl (by kernel_rfl) (fun _ _ _ h => h) hI (fun w' hw' => Or.inl ⟨by kernel_rfl, Or.inl (by go_simp)⟩) ?_
  refine wpAnyE_take 15 (v := (.pointer (some ⟨g, 0, none⟩))) rfl (by kernel_rfl) (fun _ _ _ h => h) hI (fun w' hw' => Or.inl ⟨by kernel_rfl, Or.inl (by go_simp)⟩) ?_
  refine wpAnyE_take 16 (v := (.pointer (some ⟨g, 0, none⟩))) rfl (by kernel_rfl) (fun _ _ _ h => h) hI (fun w' hw' => Or.inl ⟨by kernel_rfl, Or.inl (by go_simp)⟩) ?_
  refine wpAnyE_take 17 (v := (.pointer (some ⟨g, 4, none⟩))) rfl (by kernel_rfl) (fun _ _ _ h => h) hI (fun w' hw' => Or.inl ⟨by kernel_rfl, Or.inl (by go_simp)⟩) ?_
  refine wpAnyE_take 18 (v := (.pointer (some ⟨g, 6, none⟩))) rfl (by kernel_rfl) (fun _ _ _ h => h) hI (fun w' hw' => Or.inl ⟨by kernel_rfl, Or.inl (by go_simp)⟩) ?_
  refine wpAnyE_take 19 (v := (.int .u32 m.width)) rfl (by kernel_rfl) (fun _ _ _ h => h) hI (fun w' hw' => Or.inl ⟨by kernel_rfl, Or.inl (by have y0 : w'.cell? ⟨g, 6, none⟩ = some (.int .u32 m.width) := hw'.cell 6; go_simp)⟩) ?_
  refine wpAnyE_take 20 (v := (.agg #[.int .i64 0, .int .u32 m.width, .slice none 0 0, .slice none 0 0])) rfl (by kernel_rfl) (fun _ _ _ h => h) hI (fun w' hw' => Or.inl ⟨by kernel_rfl, Or.inl (by go_simp)⟩) ?_
  refine wpAnyE_take 21 (v := (.pointer (some ⟨g, 0, none⟩))) rfl (by kernel_rfl) (fun _ _ _ h => h) hI (fun w' hw' => Or.inl ⟨by kernel_rfl, Or.inl (by go_simp)⟩) ?_
  refine wpAnyE_take 22 (v := (.pointer (some ⟨g, 0, none⟩))) rfl (by kernel_rfl) (fun _ _ _ h => h) hI (fun w' hw' => Or.inl ⟨by kernel_rfl, Or.inl (by go_simp)⟩) ?_
  refine wpAnyE_take 23 (v := (.pointer (some ⟨g, 0, none⟩))) rfl (by kernel_rfl) (fun _ _ _ h => h) hI (fun w' hw' => Or.inl ⟨by kernel_rfl, Or.inl (by go_simp)⟩) ?_
  refine wpAnyE_take 24 (v := (.pointer (some ⟨g, 4, none⟩))) rfl (by kernel_rfl) (fun _ _ _ h => h) hI (fun w' hw' => Or.inl ⟨by kernel_rfl, Or.inl (by go_simp)⟩) ?_
  refine wpAnyE_take 25 (v := (.pointer (some ⟨g, 7, none⟩))) rfl (by kernel_rfl) (fun _ _ _ h => h) hI (fun w' hw' => Or.inl ⟨by kernel_rfl, Or.inl (by go_simp)⟩) ?_
  refine wpAnyE_take 26 (v := (.int .u32 m.height)) rfl (by kernel_rfl) (fun _ _ _ h => h) hI (fun w' hw' => Or.inl ⟨by kernel_rfl, Or.inl (by have y0 : w'.cell? ⟨g, 7, none⟩ = some (.int .u32 m.height) := hw'.cell 7; go_simp)⟩) ?_
  refine wpAnyE_take 27 (v := (.agg #[.int .i64 0, .int .u32 m.height, .slice none 0 0, .slice none 0 0])) rfl (by kernel_rfl) (fun _ _ _ h => h) hI (fun w' hw' => Or.inl ⟨by kernel_rfl, Or.inl (by go_simp)⟩) ?_
  refine wpAnyE_one 28 rfl (by kernel_rfl) hI (fun K hK => ?_)
  rw [if_pos (by kernel_rfl)]
  go_simp
  refine hK _ _ ?_
  clear hK K
  have hI2 : (fun w' : World => Blk w' g 120 m.cells) (w.drew.alloc (.cells #[.int .i64 0, .int .u32 m.cols, .slice none 0 0, .slice none 0 0, .int .i64 0, .int .u32 m.rows, .slice none 0 0, .slice none 0 0, .int .i64 0, .int .u32 m.width, .slice none 0 0, .slice none 0 0, .int .i64 0, .int .u32 m.height, .slice none 0 0, .slice none 0 0] 86)) := hg.alloc _
  refine wpAnyE_take 29 (v := (.slice (some ⟨w.heap.size, 0, none⟩) 4 4)) rfl (by kernel_rfl) (fun _ _ _ h => h) hI2 (fun w' hw' => Or.inl ⟨by kernel_rfl, Or.inl (by go_simp)⟩) ?_
  refine wpAnyE_end (by kernel_rfl) hI2 ?_
  clear hI hI2
  simp only [Exit.then]
  go_wp2_with fail
  go_ret
  refine ⟨((Only.refl _ _).drew).alloc _, _, _, rfl, V, rfl, fun x hx => ?_, fun x hx => ?_⟩
  · simp only [List.mem_cons, List.not_mem_nil, or_false] at hx
    rcases hx with rfl | rfl | rfl | rfl <;> exact ⟨FD.ok.plain _ _ _, plain_off _ _ _⟩
  · obtain ⟨n1, n2, n3, n4, _⟩ := hn
    simp only [List.mem_cons, List.not_mem_nil, or_false] at hx
    rcases hx with rfl | rfl | rfl | rfl
    · exact n1
    · exact n2
    · exact n3
    · exact n4
set_option maxRecDepth 100000 in
set_option maxHeartbeats 1600000 in
theorem getEnvR_any (hg : Blk w g 120 m.cells) (hs : m.text.size ≤ 140737488355328) (hv : m.value.size ≤ 140737488355328) : Calls Tryz.prog 73 #[.pointer (some ⟨g, 0, none⟩)] w (GetsPost w (partsR m 2)) := by
  have hlt := hg.lt
  go_enter Tryz.func73, Tryz.ntmps73
  go_wp2_with fail
  have hI : (fun w' : World => Blk w' g 120 m.cells) { w with drawn := w.drawn + 1 } := hg
  refine wp_region_E (fun w' : World => Blk w' g 120 m.cells) [] (by kernel_rfl) ?_
  refine wpAnyE_take 0 (v := (.pointer (some ⟨g, 0, none⟩))) rfl (by kernel_rfl) (fun _ _ _ h => h) hI (fun w' hw' => Or.inl ⟨by kernel_rfl, Or.inl (by go_simp)⟩) ?_
  refine wpAnyE_take 1 (v := (.pointer (some ⟨g, 0, none⟩))) rfl (by kernel_rfl) (fun _ _ _ h => h) hI (fun w' hw' => Or.inl ⟨by kernel_rfl, Or.inl (by go_simp)⟩) ?_
  refine wpAnyE_take 2 (v := (.pointer (some ⟨g, 0, none⟩))) rfl (by kernel_rfl) (fun _ _ _ h => h) hI (fun w' hw' => Or.inl ⟨by kernel_rfl, Or.inl (by go_simp)⟩) ?_
  refine wpAnyE_take 3 (v := (.pointer (some ⟨g, 1, none⟩))) rfl (by kernel_rfl) (fun _ _ _ h => h) hI (fun w' hw' => Or.inl ⟨by kernel_rfl, Or.inl (by go_simp)⟩) ?_
  refine wpAnyE_take 4 (v := (.string m.text)) rfl (by kernel_rfl) (fun _ _ _ h => h) hI (fun w' hw' => Or.inl ⟨by kernel_rfl, Or.inl (by have y0 : w'.cell? ⟨g, 1, none⟩ = some (.string m.text) := hw'.cell 1; go_simp)⟩) ?_
  refine wpAnyE_take 6 (v := (.pointer (some ⟨g, 0, none⟩))) rfl (by kernel_rfl) (fun _ _ _ h => h) hI (fun w' hw' => Or.inl ⟨by kernel_rfl, Or.inl (by go_simp)⟩) ?_
  refine wpAnyE_take 7 (v := (.pointer (some ⟨g, 0, none⟩))) rfl (by kernel_rfl) (fun _ _ _ h => h) hI (fun w' hw' => Or.inl ⟨by kernel_rfl, Or.inl (by go_simp)⟩) ?_
  refine wpAnyE_take 8 (v := (.pointer (some ⟨g, 0, none⟩))) rfl (by kernel_rfl) (fun _ _ _ h => h) hI (fun w' hw' => Or.inl ⟨by kernel_rfl, Or.inl (by go_simp)⟩) ?_
  refine wpAnyE_take 9 (v := (.pointer (some ⟨g, 2, none⟩))) rfl (by kernel_rfl) (fun _ _ _ h => h) hI (fun w' hw' => Or.inl ⟨by kernel_rfl, Or.inl (by go_simp)⟩) ?_
  refine wpAnyE_take 10 (v := (.string m.value)) rfl (by kernel_rfl) (fun _ _ _ h => h) hI (fun w' hw' => Or.inl ⟨by kernel_rfl, Or.inl (by have y0 : w'.cell? ⟨g, 2, none⟩ = some (.string m.value) := hw'.cell 2; go_simp)⟩) ?_
  have P0 : Only [] w w.drew := (Only.refl _ _).drew
  have T0 := rtext_any m.text w.drew hs
  refine wpAnyE_one 5 rfl (by kernel_rfl) hI (fun K hK => ?_)
  rw [if_pos (by kernel_rfl)]
  go_simp
  go_call T0 as e w1 ⟨Q1, f1, rfl, hp1, hnew1, ok1, hn1⟩
  clear T0
  have P1 : Only [] w w1 := P0.trans Q1 (by simp)
  have hI1 : (fun w' : World => Blk w' g 120 m.cells) w1 := hg.only P1 (by simp)
  refine hK _ _ ?_
  clear hK K
  unfold FD.val
  have T1 := rtext_any m.value w1 hv
  refine wpAnyE_one 11 rfl (by kernel_rfl) hI1 (fun K hK => ?_)
  rw [if_pos (by kernel_rfl)]
  go_simp
  go_call T1 as e w2 ⟨Q2, f2, rfl, hp2, hnew2, ok2, hn2⟩
  clear T1
  have P2 : Only [] w w2 := P1.trans Q2 (by simp)
  have hI2 : (fun w' : World => Blk w' g 120 m.cells) w2 := hg.only P2 (by simp)
  have ok1 := ok1.only Q2
  refine hK _ _ ?_
  clear hK K
  unfold FD.val
  have V := ownF_lit w2 [f1, f2] 2 rfl (by decide) #[.int .i64 f1.kind, .int .u32 f1.n, .slice f1.tA f1.text.length f1.tc, .slice f1.lA f1.list.length f1.lc, .int .i64 f2.kind, .int .u32 f2.n, .slice f2.tA f2.text.length f2.tc, .slice f2.lA f2.list.length f2.lc] (by simp [fcells, FD.cells])
  refine wpAnyE_one 12 rfl (by kernel_rfl) hI2 (fun K hK => ?_)
  rw [if_pos (by kernel_rfl)]
  go_simp
  refine hK _ _ ?_
  clear hK K
  have PL : Only [] w2 (w2.alloc (.cells #[.int .i64 f1.kind, .int .u32 f1.n, .slice f1.tA f1.text.length f1.tc, .slice f1.lA f1.list.length f1.lc, .int .i64 f2.kind, .int .u32 f2.n, .slice f2.tA f2.text.length f2.tc, .slice f2.lA f2.list.length f2.lc] 86)) := (Only.refl _ _).alloc _
  have hIL : (fun w' : World => Blk w' g 120 m.cells) (w2.alloc (.cells #[.int .i64 f1.kind, .int .u32 f1.n, .slice f1.tA f1.text.length f1.tc, .slice f1.lA f1.list.length f1.lc, .int .i64 f2.kind, .int .u32 f2.n, .slice f2.tA f2.text.length f2.tc, .slice f2.lA f2.list.length f2.lc] 86)) := hI2.alloc _
  refine wpAnyE_take 13 (v := (.slice (some ⟨w2.heap.size, 0, none⟩) 2 2)) rfl (by kernel_rfl) (fun _ _ _ h => h) hIL (fun w' hw' => Or.inl ⟨by kernel_rfl, Or.inl (by go_simp)⟩) ?_
  refine wpAnyE_end (by kernel_rfl) hIL ?_
  simp only [Exit.then]
  go_wp2_with fail
  go_ret
  refine ⟨P2.trans PL (by simp), _, _, rfl, V.mono P2.size, ?_, fun x hx => ?_, fun x hx => ?_⟩
  · simp only [List.map_cons, List.map_nil, hp1, hp2]; rfl
  · simp only [List.mem_cons, List.not_mem_nil, or_false] at hx
    rcases hx with rfl | rfl
    · exact ⟨ok1.only PL, off_new ok1 _ _⟩
    · exact ⟨ok2.only PL, off_new ok2 _ _⟩
  · simp only [List.mem_cons, List.not_mem_nil, or_false] at hx
    rcases hx with rfl | rfl
    · exact hn1
    · exact hn2
set_option maxRecDepth 100000 in
set_option maxHeartbeats 1600000 in
theorem getDeathR_any (hg : Blk w g 120 m.cells) (hs : m.text.size ≤ 140737488355328) (hv : m.value.size ≤ 140737488355328) (hl : m.lang.size ≤ 140737488355328) : Calls Tryz.prog 89 #[.pointer (some ⟨g, 0, none⟩)] w (GetsPost w (partsR m 10)) := by
  have hlt := hg.lt
  go_enter Tryz.func89, Tryz.ntmps89
  go_wp2_with fail
  have hI : (fun w' : World => Blk w' g 120 m.cells) { w with drawn := w.drawn + 1 } := hg
  refine wp_region_E (fun w' : World => Blk w' g 120 m.cells) [] (by kernel_rfl) ?_
  refine wpAnyE_take 0 (v := (.pointer (some ⟨g, 0, none⟩))) rfl (by kernel_rfl) (fun _ _ _ h => h) hI (fun w' hw' => Or.inl ⟨by kernel_rfl, Or.inl (by go_simp)⟩) ?_
  refine wpAnyE_take 1 (v := (.pointer (some ⟨g, 0, none⟩))) rfl (by kernel_rfl) (fun _ _ _ h => h) hI (fun w' hw' => Or.inl ⟨by kernel_rfl, Or.inl (by go_simp)⟩) ?_
  refine wpAnyE_take 2 (v := (.pointer (some ⟨g, 0, none⟩))) rfl (by kernel_rfl) (fun _ _ _ h => h) hI (fun w' hw' => Or.inl ⟨by kernel_rfl, Or.inl (by go_simp)⟩) ?_
  refine wpAnyE_take 3 (v := (.pointer (some ⟨g, 1, none⟩))) rfl (by kernel_rfl) (fun _ _ _ h => h) hI (fun w' hw' => Or.inl ⟨by kernel_rfl, Or.inl (by go_simp)⟩) ?_
  refine wpAnyE_take 4 (v := (.string m.text)) rfl (by kernel_rfl) (fun _ _ _ h => h) hI (fun w' hw' => Or.inl ⟨by kernel_rfl, Or.inl (by have y0 : w'.cell? ⟨g, 1, none⟩ = some (.string m.text) := hw'.cell 1; go_simp)⟩) ?_
  refine wpAnyE_take 6 (v := (.pointer (some ⟨g, 0, none⟩))) rfl (by kernel_rfl) (fun _ _ _ h => h) hI (fun w' hw' => Or.inl ⟨by kernel_rfl, Or.inl (by go_simp)⟩) ?_
  refine wpAnyE_take 7 (v := (.pointer (some ⟨g, 0, none⟩))) rfl (by kernel_rfl) (fun _ _ _ h => h) hI (fun w' hw' => Or.inl ⟨by kernel_rfl, Or.inl (by go_simp)⟩) ?_
  refine wpAnyE_take 8 (v := (.pointer (some ⟨g, 0, none⟩))) rfl (by kernel_rfl) (fun _ _ _ h => h) hI (fun w' hw' => Or.inl ⟨by kernel_rfl, Or.inl (by go_simp)⟩) ?_
  refine wpAnyE_take 9 (v := (.pointer (some ⟨g, 9, none⟩))) rfl (by kernel_rfl) (fun _ _ _ h => h) hI (fun w' hw' => Or.inl ⟨by kernel_rfl, Or.inl (by go_simp)⟩) ?_
  refine wpAnyE_take 10 (v := (.bool m.on)) rfl (by kernel_rfl) (fun _ _ _ h => h) hI (fun w' hw' => Or.inl ⟨by kernel_rfl, Or.inl (by have y0 : w'.cell? ⟨g, 9, none⟩ = some (.bool m.on) := hw'.cell 9; go_simp)⟩) ?_
  refine wpAnyE_take 12 (v := (.pointer (some ⟨g, 0, none⟩))) rfl (by kernel_rfl) (fun _ _ _ h => h) hI (fun w' hw' => Or.inl ⟨by kernel_rfl, Or.inl (by go_simp)⟩) ?_
  refine wpAnyE_take 13 (v := (.pointer (some ⟨g, 0, none⟩))) rfl (by kernel_rfl) (fun _ _ _ h => h) hI (fun w' hw' => Or.inl ⟨by kernel_rfl, Or.inl (by go_simp)⟩) ?_
  refine wpAnyE_take 14 (v := (.pointer (some ⟨g, 0, none⟩))) rfl (by kernel_rfl) (fun _ _ _ h => h) hI (fun w' hw' => Or.inl ⟨by kernel_rfl, Or.inl (by go_simp)⟩) ?_
  refine wpAnyE_take 15 (v := (.pointer (some ⟨g, 2, none⟩))) rfl (by kernel_rfl) (fun _ _ _ h => h) hI (fun w' hw' => Or.inl ⟨by kernel_rfl, Or.inl (by go_simp)⟩) ?_
  refine wpAnyE_take 16 (v := (.string m.value)) rfl (by kernel_rfl) (fun _ _ _ h => h) hI (fun w' hw' => Or.inl ⟨by kernel_rfl, Or.inl (by have y0 : w'.cell? ⟨g, 2, none⟩ = some (.string m.value) := hw'.cell 2; go_simp)⟩) ?_
  refine wpAnyE_take 18 (v := (.pointer (some ⟨g, 0, none⟩))) rfl (by kernel_rfl) (fun _ _ _ h => h) hI (fun w' hw' => Or.inl ⟨by kernel_rfl, Or.inl (by go_simp)⟩) ?_
  refine wpAnyE_take 19 (v := (.pointer (some ⟨g, 0, none⟩))) rfl (by kernel_rfl) (fun _ _ _ h => h) hI (fun w' hw' => Or.inl ⟨by kernel_rfl, Or.inl (by go_simp)⟩) ?_
  refine wpAnyE_take 20 (v := (.pointer (some ⟨g, 0, none⟩))) rfl (by kernel_rfl) (fun _ _ _ h => h) hI (fun w' hw' => Or.inl ⟨by kernel_rfl, Or.inl (by go_simp)⟩) ?_
  refine wpAnyE_take 21 (v := (.pointer (some ⟨g, 3, none⟩))) rfl (by kernel_rfl) (fun _ _ _ h => h) hI (fun w' hw' => Or.inl ⟨by kernel_rfl, Or.inl (by go_simp)⟩) ?_
  refine wpAnyE_take 22 (v := (.string m.lang)) rfl (by kernel_rfl) (fun _ _ _ h => h) hI (fun w' hw' => Or.inl ⟨by kernel_rfl, Or.inl (by have y0 : w'.cell? ⟨g, 3, none⟩ = some (.string m.lang) := hw'.cell 3; go_simp)⟩) ?_
  have P0 : Only [] w w.drew := (Only.refl _ _).drew
  have T0 := rtext_any m.text w.drew hs
  refine wpAnyE_one 5 rfl (by kernel_rfl) hI (fun K hK => ?_)
  rw [if_pos (by kernel_rfl)]
  go_simp
  go_call T0 as e w1 ⟨Q1, f1, rfl, hp1, hnew1, ok1, hn1⟩
  clear T0
  have P1 : Only [] w w1 := P0.trans Q1 (by simp)
  have hI1 : (fun w' : World => Blk w' g 120 m.cells) w1 := hg.only P1 (by simp)
  refine hK _ _ ?_
  clear hK K
  unfold FD.val
  have T1 := rflag_any m.on w1
  refine wpAnyE_one 11 rfl (by kernel_rfl) hI1 (fun K hK => ?_)
  rw [if_pos (by kernel_rfl)]
  go_simp
  go_call T1 as e w2 ⟨Q2, f2, rfl, hp2, hnew2, ok2, hn2⟩
  clear T1
  have P2 : Only [] w w2 := P1.trans Q2 (by simp)
  have hI2 : (fun w' : World => Blk w' g 120 m.cells) w2 := hg.only P2 (by simp)
  have ok1 := ok1.only Q2
  refine hK _ _ ?_
  clear hK K
  unfold FD.val
  have T2 := rtext_any m.value w2 hv
  refine wpAnyE_one 17 rfl (by kernel_rfl) hI2 (fun K hK => ?_)
  rw [if_pos (by kernel_rfl)]
  go_simp
  go_call T2 as e w3 ⟨Q3, f3, rfl, hp3, hnew3, ok3, hn3⟩
  clear T2
  have P3 : Only [] w w3 := P2.trans Q3 (by simp)
  have hI3 : (fun w' : World => Blk w' g 120 m.cells) w3 := hg.only P3 (by simp)
  have ok1 := ok1.only Q3
  have ok2 := ok2.only Q3
  refine hK _ _ ?_
  clear hK K
  unfold FD.val
  have T3 := rtext_any m.lang w3 hl
  refine wpAnyE_one 23 rfl (by kernel_rfl) hI3 (fun K hK => ?_)
  rw [if_pos (by kernel_rfl)]
  go_simp
  go_call T3 as e w4 ⟨Q4, f4, rfl, hp4, hnew4, ok4, hn4⟩
  clear T3
  have P4 : Only [] w w4 := P3.trans Q4 (by simp)
  have hI4 : (fun w' : World => Blk w' g 120 m.cells) w4 := hg.only P4 (by simp)
  have ok1 := ok1.only Q4
  have ok2 := ok2.only Q4
  have ok3 := ok3.only Q4
  refine hK _ _ ?_
  clear hK K
  unfold FD.val
  have V := ownF_lit w4 [f1, f2, f3, f4] 4 rfl (by decide) #[.int .i64 f1.kind, .int .u32 f1.n, .slice f1.tA f1.text.length f1.tc, .slice f1.lA f1.list.length f1.lc, .int .i64 f2.kind, .int .u32 f2.n, .slice f2.tA f2.text.length f2.tc, .slice f2.lA f2.list.length f2.lc, .int .i64 f3.kind, .int .u32 f3.n, .slice f3.tA f3.text.length f3.tc, .slice f3.lA f3.list.length f3.lc, .int .i64 f4.kind, .int .u32 f4.n, .slice f4.tA f4.text.length f4.tc, .slice f4.lA f4.list.length f4.lc] (by simp [fcells, FD.cells])
  refine wpAnyE_one 24 rfl (by kernel_rfl) hI4 (fun K hK => ?_)
  rw [if_pos (by kernel_rfl)]
  go_simp
  refine hK _ _ ?_
  clear hK K
  have PL : Only [] w4 (w4.alloc (.cells #[.int .i64 f1.kind, .int .u32 f1.n, .slice f1.tA f1.text.length f1.tc, .slice f1.lA f1.list.length f1.lc, .int .i64 f2.kind, .int .u32 f2.n, .slice f2.tA f2.text.length f2.tc, .slice f2.lA f2.list.length f2.lc, .int .i64 f3.kind, .int .u32 f3.n, .slice f3.tA f3.text.length f3.tc, .slice f3.lA f3.list.length f3.lc, .int .i64 f4.kind, .int .u32 f4.n, .slice f4.tA f4.text.length f4.tc, .slice f4.lA f4.list.length f4.lc] 86)) := (Only.refl _ _).alloc _
  have hIL : (fun w' : World => Blk w' g 120 m.cells) (w4.alloc (.cells #[.int .i64 f1.kind, .int .u32 f1.n, .slice f1.tA f1.text.length f1.tc, .slice f1.lA f1.list.length f1.lc, .int .i64 f2.kind, .int .u32 f2.n, .slice f2.tA f2.text.length f2.tc, .slice f2.lA f2.list.length f2.lc, .int .i64 f3.kind, .int .u32 f3.n, .slice f3.tA f3.text.length f3.tc, .slice f3.lA f3.list.length f3.lc, .int .i64 f4.kind, .int .u32 f4.n, .slice f4.tA f4.text.length f4.tc, .slice f4.lA f4.list.length f4.lc] 86)) := hI4.alloc _
  refine wpAnyE_take 25 (v := (.slice (some ⟨w4.heap.size, 0, none⟩) 4 4)) rfl (by kernel_rfl) (fun _ _ _ h => h) hIL (fun w' hw' => Or.inl ⟨by kernel_rfl, Or.inl (by go_simp)⟩) ?_
  refine wpAnyE_end (by kernel_rfl) hIL ?_
  simp only [Exit.then]
  go_wp2_with fail
  go_ret
  refine ⟨P4.trans PL (by simp), _, _, rfl, V.mono P4.size, ?_, fun x hx => ?_, fun x hx => ?_⟩
  · simp only [List.map_cons, List.map_nil, hp1, hp2, hp3, hp4]; rfl
  · simp only [List.mem_cons, List.not_mem_nil, or_false] at hx
    rcases hx with rfl | rfl | rfl | rfl
    · exact ⟨ok1.only PL, off_new ok1 _ _⟩
    · exact ⟨ok2.only PL, off_new ok2 _ _⟩
    · exact ⟨ok3.only PL, off_new ok3 _ _⟩
    · exact ⟨ok4.only PL, off_new ok4 _ _⟩
  · simp only [List.mem_cons, List.not_mem_nil, or_false] at hx
    rcases hx with rfl | rfl | rfl | rfl
    · exact hn1
    · exact hn2
    · exact hn3
    · exact hn4
end
end Go.Proofs.YtkgikodiecmakaaGreatDoor

namespace Go.Proofs.YtkgikodiecmakaaGreatDoor
set_option linter.all false
open Go.RowKit

theorem elemF : ElemT Tryz.prog 82 86 4 64 := elemT_of Tryz.underlying82 fieldInfos rfl (by decide)
theorem oneF : ∀ f : FD, ∀ u ∈ f.cells, u.oneCell' = true := by intro f u hu; simp [FD.cells] at hu; rcases hu with rfl | rfl | rfl | rfl <;> rfl
theorem lenF : ∀ f : FD, f.cells.length = 4 := fun _ => rfl
theorem okOff_app {w w' : World} {v v' : Value} {fs : List FD} (P : Only v.ownBlock.toList w w') (G : Where2 v v' w.heap.size) (h : ∀ f ∈ fs, FD.ok w f ∧ f.off v) : ∀ f ∈ fs, FD.ok w' f ∧ f.off v' := by
  intro f hf
  obtain ⟨ok, off⟩ := h f hf
  have t1 := ok.tlt
  have t2 := ok.llt
  refine ⟨{ ok with text := ok.text.onlyL P (fun a ha h0 hx => off.1 a ha h0 (by simpa using hx)), list := ok.list.onlyL P (fun a ha h0 hx => off.2 a ha h0 (by simpa using hx)) }, fun a ha h0 hx => ?_, fun a ha h0 hx => ?_⟩
  · rcases G with e | e
    · rw [e] at hx; exact off.1 a ha h0 hx
    · rw [e] at hx; injection hx with hx; have := t1 a ha h0; omega
  · rcases G with e | e
    · rw [e] at hx; exact off.2 a ha h0 hx
    · rw [e] at hx; injection hx with hx; have := t2 a ha h0; omega
theorem off_plain {f : FD} {v : Value} (h1 : f.text = []) (h2 : f.list = []) : f.off v := ⟨fun a ha h0 => by rw [h1] at h0; simp at h0, fun a ha h0 => by rw [h2] at h0; simp at h0⟩
theorem sizes_plain {m : RQ} {fs : List FD} (h : fs.map FD.pf = (partsR m 6).map (fun p => { p with kind := 0 })) : ∀ f ∈ fs, f.text = [] ∧ f.list = [] := by
  intro f hf
  have : f.pf ∈ fs.map FD.pf := List.mem_map_of_mem hf
  rw [h] at this
  simp only [partsR, List.map_cons, List.map_nil, List.mem_cons, List.not_mem_nil, or_false] at this
  have e1 : f.text = f.pf.text := rfl
  have e2 : f.list = f.pf.list := rfl
  rw [e1, e2]
  rcases this with e | e | e | e <;> rw [e] <;> exact ⟨rfl, rfl⟩
theorem rdX_one {w : World} {q : Nat} {f : FD} (h : Blk w q 86 f.cells) : RdX FD.cells w (some ⟨q, 0, none⟩) [f] := fun _ => ⟨q, 0, rfl, h.lt, fun j u hj => by
  rw [Nat.zero_add, h.cell]
  simpa using hj⟩
section
variable (m : RQ) (g : Nat) (w : World)
theorem pty_end {m : RQ} {w x : World} {v : Value} {fs1 fs2 : List FD} (hm : m.ok w) (PE : Only [] w x) (V : OwnX FD.cells 86 4 x w.heap.size v ((fs1 ++ fs2) ++ [⟨0, 0, m.mA, m.mc, m.modes, none, 0, []⟩])) (M : ∀ f ∈ fs1 ++ fs2, FD.ok x f ∧ f.off v)
    (hp1 : fs1.map FD.pf = (partsR m 4).map (fun p => { p with kind := 0 })) (hp2 : fs2.map FD.pf = (partsR m 6).map (fun p => { p with kind := 0 })) (hn1 : ∀ f ∈ fs1, U32 f.n) (hn2 : ∀ f ∈ fs2, U32 f.n) : GetsPost w (partsR m 1) (.returned v) x := by
  refine ⟨PE, v, _, rfl, V, ?_, fun f hf => ?_, fun f hf => ?_⟩
  · rw [List.map_append, List.map_append, hp1, hp2]; rfl
  · rcases List.mem_append.1 hf with hf | hf
    · exact M f hf
    · rw [List.mem_singleton] at hf
      subst hf
      refine ⟨⟨hm.modes.only PE, RdG.nil, hm.mle, hm.mmax, by simp, by simp, by simp⟩, fun a ha h0 hx => ?_, fun a ha => by simp at ha⟩
      have h1 := (V.block _ hx).1
      have h2 := RdG.lt (mk := .int .u8) hm.modes h0 a ha
      omega
  · rcases List.mem_append.1 hf with hf | hf
    · rcases List.mem_append.1 hf with hf | hf
      · exact hn1 f hf
      · exact hn2 f hf
    · rw [List.mem_singleton] at hf
      subst hf
      exact ⟨Int.le_refl 0, show (0 : Int) ≤ 4294967295 by decide⟩
set_option maxRecDepth 100000 in
set_option maxHeartbeats 1600000 in
theorem getPtyR_any (hg : Blk w g 120 m.cells) (hm : m.ok w) (hs : m.text.size ≤ 140737488355328) : Calls Tryz.prog 70 #[.pointer (some ⟨g, 0, none⟩)] w (GetsPost w (partsR m 1)) := by
  have hlt := hg.lt
  go_enter Tryz.func70, Tryz.ntmps70
  go_wp2_with fail
  have hI : (fun w' : World => Blk w' g 120 m.cells) { w with drawn := w.drawn + 1 } := hg
  refine wp_region_E (fun w' : World => Blk w' g 120 m.cells) [] (by kernel_rfl) ?_
  refine wpAnyE_take 0 (v := (.pointer (some ⟨g, 0, none⟩))) rfl (by kernel_rfl) (fun _ _ _ h => h) hI (fun w' hw' => Or.inl ⟨by kernel_rfl, Or.inl (by go_simp)⟩) ?_
  refine wpAnyE_take 2 (v := (.pointer (some ⟨g, 0, none⟩))) rfl (by kernel_rfl) (fun _ _ _ h => h) hI (fun w' hw' => Or.inl ⟨by kernel_rfl, Or.inl (by go_simp)⟩) ?_
  refine wpAnyE_take 5 (v := (.pointer (some ⟨g, 0, none⟩))) rfl (by kernel_rfl) (fun _ _ _ h => h) hI (fun w' hw' => Or.inl ⟨by kernel_rfl, Or.inl (by go_simp)⟩) ?_
  refine wpAnyE_take 6 (v := (.pointer (some ⟨g, 0, none⟩))) rfl (by kernel_rfl) (fun _ _ _ h => h) hI (fun w' hw' => Or.inl ⟨by kernel_rfl, Or.inl (by go_simp)⟩) ?_
  refine wpAnyE_take 7 (v := (.pointer (some ⟨g, 0, none⟩))) rfl (by kernel_rfl) (fun _ _ _ h => h) hI (fun w' hw' => Or.inl ⟨by kernel_rfl, Or.inl (by go_simp)⟩) ?_
  refine wpAnyE_take 8 (v := (.pointer (some ⟨g, 8, none⟩))) rfl (by kernel_rfl) (fun _ _ _ h => h) hI (fun w' hw' => Or.inl ⟨by kernel_rfl, Or.inl (by go_simp)⟩) ?_
  refine wpAnyE_take 9 (v := (.slice m.mA m.modes.length m.mc)) rfl (by kernel_rfl) (fun _ _ _ h => h) hI (fun w' hw' => Or.inl ⟨by kernel_rfl, Or.inl (by have y0 : w'.cell? ⟨g, 8, none⟩ = some (.slice m.mA m.modes.length m.mc) := hw'.cell 8; go_simp)⟩) ?_
  refine wpAnyE_take 10 (v := (.agg #[.int .i64 0, .int .u32 0, .slice m.mA m.modes.length m.mc, .slice none 0 0])) rfl (by kernel_rfl) (fun _ _ _ h => h) hI (fun w' hw' => Or.inl ⟨by kernel_rfl, Or.inl (by go_simp)⟩) ?_
  have P0 : Only [] w w.drew := (Only.refl _ _).drew
  refine wpAnyE_two 1 11 rfl rfl (by kernel_rfl) hI (fun K hK => ?_) (fun K hK => ?_)
  · rw [if_pos (by kernel_rfl)]
    have T := getTextR_any m g w.drew hI hs
    go_simp
    go_call T as e x1 ⟨Q1, v1, fs1, rfl, V1, hp1, M1, hn1⟩
    clear T
    have o1 := OwnF.block V1
    replace V1 : OwnX FD.cells 86 4 x1 w.heap.size v1 fs1 := OwnX.mono (cf := FD.cells) V1 P0.size
    have P1 : Only [] w x1 := P0.trans Q1 (by simp)
    have hI1 : (fun w' : World => Blk w' g 120 m.cells) x1 := hg.only P1 (by simp)
    have z1 := Q1.size
    refine hK _ _ ?_
    clear hK K
    refine wpAnyE_two 3 11 rfl rfl (by kernel_rfl) hI1 (fun K hK => ?_) (fun K hK => ?_)
    · rw [if_pos (by kernel_rfl)]
      have T := getSizeR_any m g x1 hI1 hm.nums
      go_simp
      go_call T as e x2 ⟨Q2, v2, fs2, rfl, V2, hp2, M2x, hn2⟩
      clear T
      replace V2 : OwnX FD.cells 86 4 x2 w.heap.size v2 fs2 := OwnX.mono (cf := FD.cells) V2 P1.size
      have M2 := fun f hf => (M2x f hf).1
      clear M2x
      have P2 : Only [] w x2 := P1.trans Q2 (by simp)
      have hI2 : (fun w' : World => Blk w' g 120 m.cells) x2 := hg.only P2 (by simp)
      have z2 := Q2.size
      have V1 := V1.only Q2
      have M1 := fun f hf => (⟨(M1 f hf).1.only Q2, (M1 f hf).2⟩ : FD.ok x2 f ∧ f.off v1)
      obtain ⟨A2, c2, rfl, hc2, hm2, R2, _⟩ := V2.form
      refine hK _ _ ?_
      clear hK K
      refine wpAnyE_two 4 11 rfl rfl (by kernel_rfl) hI2 (fun K hK => ?_) (fun K hK => ?_)
      · rw [if_pos (by kernel_rfl)]
        have R2' : RdX FD.cells x2 A2 fs2 := by obtain ⟨A2', c2', e2, _, _, R2', _⟩ := V2.form; rw [(Value.slice.inj e2).1]; exact R2'
        have l1 : fs1.length = 1 := by have := congrArg List.length hp1; simpa [partsR] using this
        have l2 : fs2.length = 4 := by have := congrArg List.length hp2; simpa [partsR] using this
        refine wp_appX (.tmp 4) (.tmp 6) elemF rfl oneF lenF (by kernel_rfl) V1 A2 c2 fs2 _ rfl (by kernel_rfl) R2' (by simp only [maxLen]; omega) (by omega) P2.size ?_
        intro v7 x3 V7 Q3 G3
        have V7 := V7.out
        have M12 : ∀ f ∈ fs1 ++ fs2, FD.ok x2 f ∧ f.off v1 := fun f hf => by
          rcases List.mem_append.1 hf with hf | hf
          · exact M1 f hf
          · exact ⟨M2 f hf, off_plain (sizes_plain hp2 f hf).1 (sizes_plain hp2 f hf).2⟩
        have M7 := okOff_app Q3 G3.out M12
        have P3 : Only [] w x3 := P2.trans Q3 (fun x hx => .inr (V1.block x (by simpa using hx)).1)
        have hI3 : (fun w' : World => Blk w' g 120 m.cells) x3 := hg.only P3 (by simp)
        refine hK _ _ ?_
        clear hK K
        refine wpAnyE_one 11 rfl (by kernel_rfl) hI3 (fun K hK => ?_)
        rw [if_pos (by kernel_rfl)]
        have Q4 : Only [] x3 (x3.alloc (.cells #[.int .i64 0, .int .u32 0, .slice m.mA m.modes.length m.mc, .slice none 0 0] 86)) := (Only.refl [] x3).alloc _
        have B3 : Blk (x3.alloc (.cells #[.int .i64 0, .int .u32 0, .slice m.mA m.modes.length m.mc, .slice none 0 0] 86)) x3.heap.size 86 [.int .i64 0, .int .u32 0, .slice m.mA m.modes.length m.mc, .slice none 0 0] := Blk.new x3 _ _
        obtain ⟨q3, hq3⟩ : ∃ q, q = x3.heap.size := ⟨_, rfl⟩
        have hq3w : w.heap.size ≤ q3 := by have := P3.size; omega
        have hq3' : q3 ≤ x3.heap.size ∧ x3.heap.size ≤ q3 := by omega
        go_simp
        obtain ⟨x4, hx4⟩ : ∃ x, x = x3.alloc (.cells #[.int .i64 0, .int .u32 0, .slice m.mA m.modes.length m.mc, .slice none 0 0] 86) := ⟨_, rfl⟩
        rw [← hx4] at Q4 B3 ⊢
        rw [← hq3] at B3 ⊢
        have P4 : Only [] w x4 := P3.trans Q4 (by simp)
        have hI4 : (fun w' : World => Blk w' g 120 m.cells) x4 := hg.only P4 (by simp)
        have z4 := Q4.size
        have V7 := V7.only Q4
        have M7 := fun f hf => (⟨(M7 f hf).1.only Q4, (M7 f hf).2⟩ : FD.ok x4 f ∧ f.off v7)
        replace hx4 := hide hx4
        replace hq3 := hide hq3
        refine hK _ _ ?_
        clear hK K
        refine wpAnyE_one 12 rfl (by kernel_rfl) hI4 (fun K hK => ?_)
        rw [if_pos (by kernel_rfl)]
        refine wp_appX (.tmp 7) (.tmp 14) elemF rfl oneF lenF (by kernel_rfl) V7 (some ⟨q3, 0, none⟩) 1 [⟨0, 0, m.mA, m.mc, m.modes, none, 0, []⟩] 1 rfl (by kernel_rfl) (rdX_one B3) (by simp only [maxLen, List.length_append, List.length_singleton]; omega) (by simp only [List.length_append, List.length_singleton]; omega) P4.size ?_
        intro v12 x5 V12 Q5 G5
        have V12 := V12.out
        have M12' := okOff_app Q5 G5.out M7
        have PE : Only [] w x5 := P4.trans Q5 (fun x hx => .inr (V7.block x (by simpa using hx)).1)
        have hIE : (fun w' : World => Blk w' g 120 m.cells) x5 := hg.only PE (by simp)
        refine hK _ _ ?_
        clear hK K
        refine wpAnyE_take 13 (v := v12) rfl (by kernel_rfl) (fun _ _ _ h => h) hIE (fun w' hw' => Or.inl ⟨by kernel_rfl, Or.inl (by go_simp)⟩) ?_
        refine wpAnyE_end (by kernel_rfl) hIE ?_
        simp only [Exit.then]
        go_wp2_with fail
        go_ret
        exact pty_end hm PE V12 M12' hp1 hp2 hn1 hn2
      · rw [if_pos (by kernel_rfl)]
        have Q3 : Only [] x2 (x2.alloc (.cells #[.int .i64 0, .int .u32 0, .slice m.mA m.modes.length m.mc, .slice none 0 0] 86)) := (Only.refl [] x2).alloc _
        have B3 : Blk (x2.alloc (.cells #[.int .i64 0, .int .u32 0, .slice m.mA m.modes.length m.mc, .slice none 0 0] 86)) x2.heap.size 86 [.int .i64 0, .int .u32 0, .slice m.mA m.modes.length m.mc, .slice none 0 0] := Blk.new x2 _ _
        obtain ⟨q3, hq3⟩ : ∃ q, q = x2.heap.size := ⟨_, rfl⟩
        have hq3w : w.heap.size ≤ q3 := by have := P2.size; omega
        have hq3' : q3 ≤ x2.heap.size ∧ x2.heap.size ≤ q3 := by omega
        go_simp
        obtain ⟨x3, hx3⟩ : ∃ x, x = x2.alloc (.cells #[.int .i64 0, .int .u32 0, .slice m.mA m.modes.length m.mc, .slice none 0 0] 86) := ⟨_, rfl⟩
        rw [← hx3] at Q3 B3 ⊢
        rw [← hq3] at B3 ⊢
        have P3 : Only [] w x3 := P2.trans Q3 (by simp)
        have hI3 : (fun w' : World => Blk w' g 120 m.cells) x3 := hg.only P3 (by simp)
        have z3 := Q3.size
        have V1 := V1.only Q3
        have M1 := fun f hf => (⟨(M1 f hf).1.only Q3, (M1 f hf).2⟩ : FD.ok x3 f ∧ f.off v1)
        have V2 := V2.only Q3
        have M2 := fun f hf => (M2 f hf).only Q3
        replace hx3 := hide hx3
        replace hq3 := hide hq3
        refine hK _ _ ?_
        clear hK K
        refine wpAnyE_one 4 rfl (by kernel_rfl) hI3 (fun K hK => ?_)
        rw [if_pos (by kernel_rfl)]
        have R2' : RdX FD.cells x3 A2 fs2 := by obtain ⟨A2', c2', e2, _, _, R2', _⟩ := V2.form; rw [(Value.slice.inj e2).1]; exact R2'
        have l1 : fs1.length = 1 := by have := congrArg List.length hp1; simpa [partsR] using this
        have l2 : fs2.length = 4 := by have := congrArg List.length hp2; simpa [partsR] using this
        refine wp_appX (.tmp 4) (.tmp 6) elemF rfl oneF lenF (by kernel_rfl) V1 A2 c2 fs2 _ rfl (by kernel_rfl) R2' (by simp only [maxLen]; omega) (by omega) P3.size ?_
        intro v7 x4 V7 Q4 G4
        have V7 := V7.out
        have M12 : ∀ f ∈ fs1 ++ fs2, FD.ok x3 f ∧ f.off v1 := fun f hf => by
          rcases List.mem_append.1 hf with hf | hf
          · exact M1 f hf
          · exact ⟨M2 f hf, off_plain (sizes_plain hp2 f hf).1 (sizes_plain hp2 f hf).2⟩
        have M7 := okOff_app Q4 G4.out M12
        have P4 : Only [] w x4 := P3.trans Q4 (fun x hx => .inr (V1.block x (by simpa using hx)).1)
        have hI4 : (fun w' : World => Blk w' g 120 m.cells) x4 := hg.only P4 (by simp)
        have B3 := B3.only Q4 (fun hx => by have := o1 q3 (by simpa using hx); omega)
        refine hK _ _ ?_
        clear hK K
        refine wpAnyE_one 12 rfl (by kernel_rfl) hI4 (fun K hK => ?_)
        rw [if_pos (by kernel_rfl)]
        refine wp_appX (.tmp 7) (.tmp 14) elemF rfl oneF lenF (by kernel_rfl) V7 (some ⟨q3, 0, none⟩) 1 [⟨0, 0, m.mA, m.mc, m.modes, none, 0, []⟩] 1 rfl (by kernel_rfl) (rdX_one B3) (by simp only [maxLen, List.length_append, List.length_singleton]; omega) (by simp only [List.length_append, List.length_singleton]; omega) P4.size ?_
        intro v12 x5 V12 Q5 G5
        have V12 := V12.out
        have M12' := okOff_app Q5 G5.out M7
        have PE : Only [] w x5 := P4.trans Q5 (fun x hx => .inr (V7.block x (by simpa using hx)).1)
        have hIE : (fun w' : World => Blk w' g 120 m.cells) x5 := hg.only PE (by simp)
        refine hK _ _ ?_
        clear hK K
        refine wpAnyE_take 13 (v := v12) rfl (by kernel_rfl) (fun _ _ _ h => h) hIE (fun w' hw' => Or.inl ⟨by kernel_rfl, Or.inl (by go_simp)⟩) ?_
        refine wpAnyE_end (by kernel_rfl) hIE ?_
        simp only [Exit.then]
        go_wp2_with fail
        go_ret
        exact pty_end hm PE V12 M12' hp1 hp2 hn1 hn2
    · rw [if_pos (by kernel_rfl)]
      have Q2 : Only [] x1 (x1.alloc (.cells #[.int .i64 0, .int .u32 0, .slice m.mA m.modes.length m.mc, .slice none 0 0] 86)) := (Only.refl [] x1).alloc _
      have B3 : Blk (x1.alloc (.cells #[.int .i64 0, .int .u32 0, .slice m.mA m.modes.length m.mc, .slice none 0 0] 86)) x1.heap.size 86 [.int .i64 0, .int .u32 0, .slice m.mA m.modes.length m.mc, .slice none 0 0] := Blk.new x1 _ _
      obtain ⟨q3, hq3⟩ : ∃ q, q = x1.heap.size := ⟨_, rfl⟩
      have hq3w : w.heap.size ≤ q3 := by have := P1.size; omega
      have hq3' : q3 ≤ x1.heap.size ∧ x1.heap.size ≤ q3 := by omega
      go_simp
      obtain ⟨x2, hx2⟩ : ∃ x, x = x1.alloc (.cells #[.int .i64 0, .int .u32 0, .slice m.mA m.modes.length m.mc, .slice none 0 0] 86) := ⟨_, rfl⟩
      rw [← hx2] at Q2 B3 ⊢
      rw [← hq3] at B3 ⊢
      have P2 : Only [] w x2 := P1.trans Q2 (by simp)
      have hI2 : (fun w' : World => Blk w' g 120 m.cells) x2 := hg.only P2 (by simp)
      have z2 := Q2.size
      have V1 := V1.only Q2
      have M1 := fun f hf => (⟨(M1 f hf).1.only Q2, (M1 f hf).2⟩ : FD.ok x2 f ∧ f.off v1)
      replace hx2 := hide hx2
      replace hq3 := hide hq3
      refine hK _ _ ?_
      clear hK K
      refine wpAnyE_one 3 rfl (by kernel_rfl) hI2 (fun K hK => ?_)
      rw [if_pos (by kernel_rfl)]
      have T := getSizeR_any m g x2 hI2 hm.nums
      go_simp
      go_call T as e x3 ⟨Q3, v2, fs2, rfl, V2, hp2, M2x, hn2⟩
      clear T
      replace V2 : OwnX FD.cells 86 4 x3 w.heap.size v2 fs2 := OwnX.mono (cf := FD.cells) V2 P2.size
      have M2 := fun f hf => (M2x f hf).1
      clear M2x
      have P3 : Only [] w x3 := P2.trans Q3 (by simp)
      have hI3 : (fun w' : World => Blk w' g 120 m.cells) x3 := hg.only P3 (by simp)
      have z3 := Q3.size
      have V1 := V1.only Q3
      have M1 := fun f hf => (⟨(M1 f hf).1.only Q3, (M1 f hf).2⟩ : FD.ok x3 f ∧ f.off v1)
      have B3 := B3.only Q3 (by simp)
      obtain ⟨A2, c2, rfl, hc2, hm2, R2, _⟩ := V2.form
      refine hK _ _ ?_
      clear hK K
      refine wpAnyE_one 4 rfl (by kernel_rfl) hI3 (fun K hK => ?_)
      rw [if_pos (by kernel_rfl)]
      have R2' : RdX FD.cells x3 A2 fs2 := by obtain ⟨A2', c2', e2, _, _, R2', _⟩ := V2.form; rw [(Value.slice.inj e2).1]; exact R2'
      have l1 : fs1.length = 1 := by have := congrArg List.length hp1; simpa [partsR] using this
      have l2 : fs2.length = 4 := by have := congrArg List.length hp2; simpa [partsR] using this
      refine wp_appX (.tmp 4) (.tmp 6) elemF rfl oneF lenF (by kernel_rfl) V1 A2 c2 fs2 _ rfl (by kernel_rfl) R2' (by simp only [maxLen]; omega) (by omega) P3.size ?_
      intro v7 x4 V7 Q4 G4
      have V7 := V7.out
      have M12 : ∀ f ∈ fs1 ++ fs2, FD.ok x3 f ∧ f.off v1 := fun f hf => by
        rcases List.mem_append.1 hf with hf | hf
        · exact M1 f hf
        · exact ⟨M2 f hf, off_plain (sizes_plain hp2 f hf).1 (sizes_plain hp2 f hf).2⟩
      have M7 := okOff_app Q4 G4.out M12
      have P4 : Only [] w x4 := P3.trans Q4 (fun x hx => .inr (V1.block x (by simpa using hx)).1)
      have hI4 : (fun w' : World => Blk w' g 120 m.cells) x4 := hg.only P4 (by simp)
      have B3 := B3.only Q4 (fun hx => by have := o1 q3 (by simpa using hx); omega)
      refine hK _ _ ?_
      clear hK K
      refine wpAnyE_one 12 rfl (by kernel_rfl) hI4 (fun K hK => ?_)
      rw [if_pos (by kernel_rfl)]
      refine wp_appX (.tmp 7) (.tmp 14) elemF rfl oneF lenF (by kernel_rfl) V7 (some ⟨q3, 0, none⟩) 1 [⟨0, 0, m.mA, m.mc, m.modes, none, 0, []⟩] 1 rfl (by kernel_rfl) (rdX_one B3) (by simp only [maxLen, List.length_append, List.length_singleton]; omega) (by simp only [List.length_append, List.length_singleton]; omega) P4.size ?_
      intro v12 x5 V12 Q5 G5
      have V12 := V12.out
      have M12' := okOff_app Q5 G5.out M7
      have PE : Only [] w x5 := P4.trans Q5 (fun x hx => .inr (V7.block x (by simpa using hx)).1)
      have hIE : (fun w' : World => Blk w' g 120 m.cells) x5 := hg.only PE (by simp)
      refine hK _ _ ?_
      clear hK K
      refine wpAnyE_take 13 (v := v12) rfl (by kernel_rfl) (fun _ _ _ h => h) hIE (fun w' hw' => Or.inl ⟨by kernel_rfl, Or.inl (by go_simp)⟩) ?_
      refine wpAnyE_end (by kernel_rfl) hIE ?_
      simp only [Exit.then]
      go_wp2_with fail
      go_ret
      exact pty_end hm PE V12 M12' hp1 hp2 hn1 hn2
  · rw [if_pos (by kernel_rfl)]
    have Q1 : Only [] w.drew ((w.alloc (.cells #[.int .i64 0, .int .u32 0, .slice m.mA m.modes.length m.mc, .slice none 0 0] 86)).drew) := (Only.refl [] w.drew).alloc _
    have B3 : Blk ((w.alloc (.cells #[.int .i64 0, .int .u32 0, .slice m.mA m.modes.length m.mc, .slice none 0 0] 86)).drew) w.heap.size 86 [.int .i64 0, .int .u32 0, .slice m.mA m.modes.length m.mc, .slice none 0 0] := Blk.new w.drew _ _
    obtain ⟨q3, hq3⟩ : ∃ q, q = w.heap.size := ⟨_, rfl⟩
    have hq3w : w.heap.size ≤ q3 := by have := P0.size; omega
    have hq3' : q3 < ((w.alloc (.cells #[.int .i64 0, .int .u32 0, .slice m.mA m.modes.length m.mc, .slice none 0 0] 86)).drew).heap.size := by rw [hq3]; simp
    go_simp
    obtain ⟨x1, hx1⟩ : ∃ x, x = (w.alloc (.cells #[.int .i64 0, .int .u32 0, .slice m.mA m.modes.length m.mc, .slice none 0 0] 86)).drew := ⟨_, rfl⟩
    rw [← hx1] at Q1 B3 ⊢
    rw [← hx1] at hq3'
    rw [← hq3] at B3
    rw [show (Value.slice (some ⟨w.heap.size, 0, none⟩) 1 1) = Value.slice (some ⟨q3, 0, none⟩) 1 1 by rw [hq3]]
    have P1 : Only [] w x1 := P0.trans Q1 (by simp)
    have hI1 : (fun w' : World => Blk w' g 120 m.cells) x1 := hg.only P1 (by simp)
    have z1 := Q1.size
    replace hx1 := hide hx1
    replace hq3 := hide hq3
    refine hK _ _ ?_
    clear hK K
    refine wpAnyE_one 1 rfl (by kernel_rfl) hI1 (fun K hK => ?_)
    rw [if_pos (by kernel_rfl)]
    have T := getTextR_any m g x1 hI1 hs
    go_simp
    go_call T as e x2 ⟨Q2, v1, fs1, rfl, V1, hp1, M1, hn1⟩
    clear T
    have o1 := OwnF.block V1
    replace V1 : OwnX FD.cells 86 4 x2 w.heap.size v1 fs1 := OwnX.mono (cf := FD.cells) V1 P1.size
    have P2 : Only [] w x2 := P1.trans Q2 (by simp)
    have hI2 : (fun w' : World => Blk w' g 120 m.cells) x2 := hg.only P2 (by simp)
    have z2 := Q2.size
    have B3 := B3.only Q2 (by simp)
    refine hK _ _ ?_
    clear hK K
    refine wpAnyE_one 3 rfl (by kernel_rfl) hI2 (fun K hK => ?_)
    rw [if_pos (by kernel_rfl)]
    have T := getSizeR_any m g x2 hI2 hm.nums
    go_simp
    go_call T as e x3 ⟨Q3, v2, fs2, rfl, V2, hp2, M2x, hn2⟩
    clear T
    replace V2 : OwnX FD.cells 86 4 x3 w.heap.size v2 fs2 := OwnX.mono (cf := FD.cells) V2 P2.size
    have M2 := fun f hf => (M2x f hf).1
    clear M2x
    have P3 : Only [] w x3 := P2.trans Q3 (by simp)
    have hI3 : (fun w' : World => Blk w' g 120 m.cells) x3 := hg.only P3 (by simp)
    have z3 := Q3.size
    have V1 := V1.only Q3
    have M1 := fun f hf => (⟨(M1 f hf).1.only Q3, (M1 f hf).2⟩ : FD.ok x3 f ∧ f.off v1)
    have B3 := B3.only Q3 (by simp)
    obtain ⟨A2, c2, rfl, hc2, hm2, R2, _⟩ := V2.form
    refine hK _ _ ?_
    clear hK K
    refine wpAnyE_one 4 rfl (by kernel_rfl) hI3 (fun K hK => ?_)
    rw [if_pos (by kernel_rfl)]
    have R2' : RdX FD.cells x3 A2 fs2 := by obtain ⟨A2', c2', e2, _, _, R2', _⟩ := V2.form; rw [(Value.slice.inj e2).1]; exact R2'
    have l1 : fs1.length = 1 := by have := congrArg List.length hp1; simpa [partsR] using this
    have l2 : fs2.length = 4 := by have := congrArg List.length hp2; simpa [partsR] using this
    refine wp_appX (.tmp 4) (.tmp 6) elemF rfl oneF lenF (by kernel_rfl) V1 A2 c2 fs2 _ rfl (by kernel_rfl) R2' (by simp only [maxLen]; omega) (by omega) P3.size ?_
    intro v7 x4 V7 Q4 G4
    have V7 := V7.out
    have M12 : ∀ f ∈ fs1 ++ fs2, FD.ok x3 f ∧ f.off v1 := fun f hf => by
      rcases List.mem_append.1 hf with hf | hf
      · exact M1 f hf
      · exact ⟨M2 f hf, off_plain (sizes_plain hp2 f hf).1 (sizes_plain hp2 f hf).2⟩
    have M7 := okOff_app Q4 G4.out M12
    have P4 : Only [] w x4 := P3.trans Q4 (fun x hx => .inr (V1.block x (by simpa using hx)).1)
    have hI4 : (fun w' : World => Blk w' g 120 m.cells) x4 := hg.only P4 (by simp)
    have B3 := B3.only Q4 (fun hx => by have := o1 q3 (by simpa using hx); omega)
    refine hK _ _ ?_
    clear hK K
    refine wpAnyE_one 12 rfl (by kernel_rfl) hI4 (fun K hK => ?_)
    rw [if_pos (by kernel_rfl)]
    refine wp_appX (.tmp 7) (.tmp 14) elemF rfl oneF lenF (by kernel_rfl) V7 (some ⟨q3, 0, none⟩) 1 [⟨0, 0, m.mA, m.mc, m.modes, none, 0, []⟩] 1 rfl (by kernel_rfl) (rdX_one B3) (by simp only [maxLen, List.length_append, List.length_singleton]; omega) (by simp only [List.length_append, List.length_singleton]; omega) P4.size ?_
    intro v12 x5 V12 Q5 G5
    have V12 := V12.out
    have M12' := okOff_app Q5 G5.out M7
    have PE : Only [] w x5 := P4.trans Q5 (fun x hx => .inr (V7.block x (by simpa using hx)).1)
    have hIE : (fun w' : World => Blk w' g 120 m.cells) x5 := hg.only PE (by simp)
    refine hK _ _ ?_
    clear hK K
    refine wpAnyE_take 13 (v := v12) rfl (by kernel_rfl) (fun _ _ _ h => h) hIE (fun w' hw' => Or.inl ⟨by kernel_rfl, Or.inl (by go_simp)⟩) ?_
    refine wpAnyE_end (by kernel_rfl) hIE ?_
    simp only [Exit.then]
    go_wp2_with fail
    go_ret
    exact pty_end hm PE V12 M12' hp1 hp2 hn1 hn2
end
end Go.Proofs.YtkgikodiecmakaaGreatDoor

namespace Go.Proofs.YtkgikodiecmakaaGreatDoor
set_option linter.all false
open Go.RowKit

theorem conv_rd {w : World} {A : Option Addr} {l : List Int} {c : Nat} (h : RdG (.int .u8) w A l) : (convert 34 9 (.slice A l.length c)).run Tryz.prog w = .ok (.string (strOfNums l)) w := by
  by_cases h0 : 0 < l.length
  · obtain ⟨b, off, rfl, _, hc⟩ := h h0
    exact run_convert_bytes_arg (P := Tryz.prog) (w := w) 34 5 (by kernel_rfl) (by kernel_rfl) b off l.length c l rfl (fun i hi => by
      have hx : l[i]? = some (l[i]'hi) := List.getElem?_eq_getElem hi
      rw [hc i _ hx]
      simp [List.getD, hx]) 9 (by kernel_rfl)
  · obtain rfl : l = [] := List.eq_nil_of_length_eq_zero (by omega)
    cases A with
    | none =>
      have e : (convert 34 9 (.slice none 0 c)).run Tryz.prog w = (Conv.bytesToString (.slice none 0 c)).run Tryz.prog w := by simp [convert, run_underlying Tryz.underlying34, run_underlying Tryz.underlying9, run_underlying Tryz.underlying5]
      rw [show ([] : List Int).length = 0 from rfl, e]
      first | rfl | (simp [Conv.bytesToString, loadCells, loadCellsFrom, strOfNums]; try rfl)
    | some a =>
      have e : (convert 34 9 (.slice (some a) 0 c)).run Tryz.prog w = (Conv.bytesToString (.slice (some a) 0 c)).run Tryz.prog w := by simp [convert, run_underlying Tryz.underlying34, run_underlying Tryz.underlying9, run_underlying Tryz.underlying5]
      rw [show ([] : List Int).length = 0 from rfl, e]
      first | rfl | (simp [Conv.bytesToString, loadCells, loadCellsFrom, strOfNums]; try rfl)
end Go.Proofs.YtkgikodiecmakaaGreatDoor

namespace Go.Proofs.YtkgikodiecmakaaGreatDoor
set_option linter.all false
open Go.RowKit

set_option maxRecDepth 100000 in
set_option maxHeartbeats 1600000 in
theorem putTextR_any (m : RQ) (g : Nat) (w0 w : World) (A : Option Addr) (a : FD) (r : List FD) (c : Nat) (hF : RdF w0 A (a :: r)) (hO : Only [] w0 w) (hlt : w0.heap.size ≤ g) (hg : Blk w g 120 m.cells) : Calls Tryz.prog 80 #[.pointer (some ⟨g, 0, none⟩), .slice A (r.length + 1) c] w fun e w' => e = .returned (.tuple #[]) ∧ Only [g] w w' ∧ Blk w' g 120 (RQ.cells { m with text := strOfNums a.text }) := by
  obtain ⟨b, off, rfl, hb, hc⟩ := hF.cells (by simp)
  have hbg : ¬ b = g := by omega
  have hgl := hg.lt
  obtain ⟨_, n0, t0, _⟩ := hc 0 a rfl
  simp only [Nat.zero_mul, Nat.one_mul, Nat.reduceMul, Nat.add_zero] at n0 t0
  have n0 := cellL hO hb (by simp) n0
  have t0 := cellL hO hb (by simp) t0
  have g1 : w.cell? ⟨g, 1, none⟩ = some (.string m.text) := hg.cell 1
  have z1 := hg.frozen 1
  have kc0 : (convert 34 9 (.slice a.tA a.text.length a.tc)).run Tryz.prog w = .ok (.string (strOfNums a.text)) w := conv_rd ((hF.ok a (by simp)).1.text.only hO)
  have hsl : (0 : Int) ≤ (r.length : Int) := Int.natCast_nonneg _
  clear hc
  have hb2 := hg.set_ 1 (.string (strOfNums a.text))
  have hO2 : Only [g] w (w.setCell ⟨g, 1, none⟩ (.string (strOfNums a.text))) := (Only.refl [g] w).setCell (p := ⟨g, 1, none⟩) (.inl (by simp)) _
  go_enter Tryz.func80, Tryz.ntmps80
  go_wp2
  go_end0
  exact ⟨rfl, hO2, hb2⟩
set_option maxRecDepth 100000 in
set_option maxHeartbeats 1600000 in
theorem putCodeR_any (m : RQ) (g : Nat) (w0 w : World) (A : Option Addr) (a : FD) (r : List FD) (c : Nat) (hF : RdF w0 A (a :: r)) (hO : Only [] w0 w) (hlt : w0.heap.size ≤ g) (hg : Blk w g 120 m.cells) : Calls Tryz.prog 88 #[.pointer (some ⟨g, 0, none⟩), .slice A (r.length + 1) c] w fun e w' => e = .returned (.tuple #[]) ∧ Only [g] w w' ∧ Blk w' g 120 (RQ.cells { m with code := a.n }) := by
  obtain ⟨b, off, rfl, hb, hc⟩ := hF.cells (by simp)
  have hbg : ¬ b = g := by omega
  have hgl := hg.lt
  obtain ⟨_, n0, t0, _⟩ := hc 0 a rfl
  simp only [Nat.zero_mul, Nat.one_mul, Nat.reduceMul, Nat.add_zero] at n0 t0
  have n0 := cellL hO hb (by simp) n0
  have t0 := cellL hO hb (by simp) t0
  have g10 : w.cell? ⟨g, 10, none⟩ = some (.int .u32 m.code) := hg.cell 10
  have z10 := hg.frozen 10
  have hsl : (0 : Int) ≤ (r.length : Int) := Int.natCast_nonneg _
  clear hc
  have hb2 := hg.set_ 10 (.int .u32 a.n)
  have hO2 : Only [g] w (w.setCell ⟨g, 10, none⟩ (.int .u32 a.n)) := (Only.refl [g] w).setCell (p := ⟨g, 10, none⟩) (.inl (by simp)) _
  go_enter Tryz.func88, Tryz.ntmps88
  go_wp2
  go_end0
  exact ⟨rfl, hO2, hb2⟩
set_option maxRecDepth 100000 in
set_option maxHeartbeats 1600000 in
theorem putOnR_any (m : RQ) (g : Nat) (w0 w : World) (A : Option Addr) (a : FD) (r : List FD) (c : Nat) (hF : RdF w0 A (a :: r)) (hO : Only [] w0 w) (hlt : w0.heap.size ≤ g) (hg : Blk w g 120 m.cells) : Calls Tryz.prog 86 #[.pointer (some ⟨g, 0, none⟩), .slice A (r.length + 1) c] w fun e w' => e = .returned (.tuple #[]) ∧ Only [g] w w' ∧ Blk w' g 120 (RQ.cells { m with on := decide (a.n = 1) }) := by
  obtain ⟨on, hon⟩ : ∃ on, decide (a.n = 1) = on := ⟨_, rfl⟩
  rw [hon]
  have hon2 : (a.n == 1) = on := hon
  clear hon
  obtain ⟨b, off, rfl, hb, hc⟩ := hF.cells (by simp)
  have hbg : ¬ b = g := by omega
  have hgl := hg.lt
  obtain ⟨_, n0, t0, _⟩ := hc 0 a rfl
  simp only [Nat.zero_mul, Nat.one_mul, Nat.reduceMul, Nat.add_zero] at n0 t0
  have n0 := cellL hO hb (by simp) n0
  have t0 := cellL hO hb (by simp) t0
  have g9 : w.cell? ⟨g, 9, none⟩ = some (.bool m.on) := hg.cell 9
  have z9 := hg.frozen 9
  have hsl : (0 : Int) ≤ (r.length : Int) := Int.natCast_nonneg _
  clear hc
  have hb2 := hg.set_ 9 (.bool on)
  have hO2 : Only [g] w (w.setCell ⟨g, 9, none⟩ (.bool on)) := (Only.refl [g] w).setCell (p := ⟨g, 9, none⟩) (.inl (by simp)) _
  go_enter Tryz.func86, Tryz.ntmps86
  go_wp2
  go_end0
  exact ⟨rfl, hO2, hb2⟩
theorem putNoneR_any (m : RQ) (g : Nat) (w : World) (v : Value) (hg : Blk w g 120 m.cells) : Calls Tryz.prog 77 #[.pointer (some ⟨g, 0, none⟩), v] w fun e w' => e = .returned (.tuple #[]) ∧ Only [g] w w' ∧ Blk w' g 120 m.cells := by
  go_enter Tryz.func77, Tryz.ntmps77
  go_wp2
  go_end0
  exact ⟨rfl, Only.refl _ _, hg⟩
set_option maxRecDepth 100000 in
set_option maxHeartbeats 1600000 in
theorem putEnvR_any (m : RQ) (g : Nat) (w0 w : World) (A : Option Addr) (a d : FD) (r : List FD) (c : Nat) (hF : RdF w0 A (a :: d :: r)) (hO : Only [] w0 w) (hlt : w0.heap.size ≤ g) (hg : Blk w g 120 m.cells) : Calls Tryz.prog 74 #[.pointer (some ⟨g, 0, none⟩), .slice A (r.length + 2) c] w fun e w' => e = .returned (.tuple #[]) ∧ Only [g] w w' ∧ Blk w' g 120 (RQ.cells { m with text := strOfNums a.text, value := strOfNums d.text }) := by
  obtain ⟨b, off, rfl, hb, hc⟩ := hF.cells (by simp)
  have hbg : ¬ b = g := by omega
  have hgl := hg.lt
  obtain ⟨_, n0, t0, _⟩ := hc 0 a rfl
  simp only [Nat.zero_mul, Nat.one_mul, Nat.reduceMul, Nat.add_zero] at n0 t0
  obtain ⟨_, n1, t1, _⟩ := hc 1 d rfl
  simp only [Nat.zero_mul, Nat.one_mul, Nat.reduceMul, Nat.add_zero] at n1 t1
  have hI0 : Only [] w0 { w with drawn := w.drawn + 1 } := hO.drew
  have g1 : w.cell? ⟨g, 1, none⟩ = some (.string m.text) := hg.cell 1
  have z1 := hg.frozen 1
  have g2 : w.cell? ⟨g, 2, none⟩ = some (.string m.value) := hg.cell 2
  have z2 := hg.frozen 2
  have hsl : (0 : Int) ≤ (r.length : Int) := Int.natCast_nonneg _
  clear hc
  go_enter Tryz.func74, Tryz.ntmps74
  go_wp2_with fail
  have hI : (fun w' : World => Only [] w0 w') { w with drawn := w.drawn + 1 } := hI0
  refine wp_region_E (fun w' : World => Only [] w0 w') [] (by kernel_rfl) ?_
  refine wpAnyE_take 0 (v := (.pointer (some ⟨g, 0, none⟩))) rfl (by kernel_rfl) (fun _ _ _ h => h) hI (fun w' hw' => Or.inl ⟨by kernel_rfl, Or.inl (by go_simp)⟩) ?_
  refine wpAnyE_take 1 (v := (.pointer (some ⟨g, 0, none⟩))) rfl (by kernel_rfl) (fun _ _ _ h => h) hI (fun w' hw' => Or.inl ⟨by kernel_rfl, Or.inl (by go_simp)⟩) ?_
  refine wpAnyE_take 2 (v := (.slice (some ⟨b, off, none⟩) (r.length + 2) c)) rfl (by kernel_rfl) (fun _ _ _ h => h) hI (fun w' hw' => Or.inl ⟨by kernel_rfl, Or.inl (by go_simp)⟩) ?_
  refine wpAnyE_take 3 (v := (.pointer (some ⟨b, off, none⟩))) rfl (by kernel_rfl) (fun _ _ _ h => h) hI (fun w' hw' => Or.inl ⟨by kernel_rfl, Or.inl (by go_simp; intro h7; exact absurd h7 (by omega))⟩) ?_
  refine wpAnyE_take 4 (v := (.pointer (some ⟨b, off + 2, none⟩))) rfl (by kernel_rfl) (fun _ _ _ h => h) hI (fun w' hw' => Or.inl ⟨by kernel_rfl, Or.inl (by go_simp)⟩) ?_
  refine wpAnyE_take 5 (v := (.slice a.tA a.text.length a.tc)) rfl (by kernel_rfl) (fun _ _ _ h => h) hI (fun w' hw' => Or.inl ⟨by kernel_rfl, Or.inl (by have y0 := cellL hw' hb (by simp) t0; go_simp)⟩) ?_
  refine wpAnyE_take 6 (v := (.string (strOfNums a.text))) rfl (by kernel_rfl) (fun _ _ _ h => h) hI (fun w' hw' => Or.inl ⟨by kernel_rfl, Or.inl (by have kc := conv_rd (c := a.tc) ((hF.ok a (by simp)).1.text.only hw'); go_simp)⟩) ?_
  refine wpAnyE_take 7 (v := (.slice (some ⟨b, off, none⟩) (r.length + 2) c)) rfl (by kernel_rfl) (fun _ _ _ h => h) hI (fun w' hw' => Or.inl ⟨by kernel_rfl, Or.inl (by go_simp)⟩) ?_
  refine wpAnyE_take 8 (v := (.pointer (some ⟨b, off + 4, none⟩))) rfl (by kernel_rfl) (fun _ _ _ h => h) hI (fun w' hw' => Or.inl ⟨by kernel_rfl, Or.inl (by go_simp; intro h7; exact absurd h7 (by omega))⟩) ?_
  refine wpAnyE_take 9 (v := (.pointer (some ⟨b, off + 4 + 2, none⟩))) rfl (by kernel_rfl) (fun _ _ _ h => h) hI (fun w' hw' => Or.inl ⟨by kernel_rfl, Or.inl (by go_simp)⟩) ?_
  refine wpAnyE_take 10 (v := (.slice d.tA d.text.length d.tc)) rfl (by kernel_rfl) (fun _ _ _ h => h) hI (fun w' hw' => Or.inl ⟨by kernel_rfl, Or.inl (by have y0 := cellL hw' hb (by simp) t1; go_simp)⟩) ?_
  refine wpAnyE_take 11 (v := (.string (strOfNums d.text))) rfl (by kernel_rfl) (fun _ _ _ h => h) hI (fun w' hw' => Or.inl ⟨by kernel_rfl, Or.inl (by have kc := conv_rd (c := d.tc) ((hF.ok d (by simp)).1.text.only hw'); go_simp)⟩) ?_
  refine wpAnyE_take 12 (v := (.pointer (some ⟨g, 0, none⟩))) rfl (by kernel_rfl) (fun _ _ _ h => h) hI (fun w' hw' => Or.inl ⟨by kernel_rfl, Or.inl (by go_simp)⟩) ?_
  refine wpAnyE_take 13 (v := (.pointer (some ⟨g, 0, none⟩))) rfl (by kernel_rfl) (fun _ _ _ h => h) hI (fun w' hw' => Or.inl ⟨by kernel_rfl, Or.inl (by go_simp)⟩) ?_
  refine wpAnyE_take 14 (v := (.pointer (some ⟨g, 1, none⟩))) rfl (by kernel_rfl) (fun _ _ _ h => h) hI (fun w' hw' => Or.inl ⟨by kernel_rfl, Or.inl (by go_simp)⟩) ?_
  refine wpAnyE_one 15 rfl (by kernel_rfl) hI (fun K hK => ?_)
  rw [if_pos (by kernel_rfl)]
  go_simp
  refine hK _ _ ?_
  clear hK K
  have hI := Only.setCell (p := ⟨g, 1, none⟩) hI (.inr hlt) (.string (strOfNums a.text))
  refine wpAnyE_take 16 (v := (.pointer (some ⟨g, 0, none⟩))) rfl (by kernel_rfl) (fun _ _ _ h => h) hI (fun w' hw' => Or.inl ⟨by kernel_rfl, Or.inl (by go_simp)⟩) ?_
  refine wpAnyE_take 17 (v := (.pointer (some ⟨g, 0, none⟩))) rfl (by kernel_rfl) (fun _ _ _ h => h) hI (fun w' hw' => Or.inl ⟨by kernel_rfl, Or.inl (by go_simp)⟩) ?_
  refine wpAnyE_take 18 (v := (.pointer (some ⟨g, 2, none⟩))) rfl (by kernel_rfl) (fun _ _ _ h => h) hI (fun w' hw' => Or.inl ⟨by kernel_rfl, Or.inl (by go_simp)⟩) ?_
  refine wpAnyE_one 19 rfl (by kernel_rfl) hI (fun K hK => ?_)
  rw [if_pos (by kernel_rfl)]
  go_simp
  refine hK _ _ ?_
  clear hK K
  have hI := Only.setCell (p := ⟨g, 2, none⟩) hI (.inr hlt) (.string (strOfNums d.text))
  refine wpAnyE_end (by kernel_rfl) hI ?_
  (try simp only [Exit.inBlock, Exit.then])
  (try go_wp2_with fail)
  go_end0
  exact ⟨rfl, ((((((Only.refl [g] w).drew)).setCell (p := ⟨g, 1, none⟩) (.inl (by simp)) (.string (strOfNums a.text)))).setCell (p := ⟨g, 2, none⟩) (.inl (by simp)) (.string (strOfNums d.text))), ((hg.drew).set_ 1 (.string (strOfNums a.text))).set_ 2 (.string (strOfNums d.text))⟩
set_option maxRecDepth 100000 in
set_option maxHeartbeats 1600000 in
theorem putSizeR_any (m : RQ) (g : Nat) (w0 w : World) (A : Option Addr) (a d u v : FD) (r : List FD) (c : Nat) (hF : RdF w0 A (a :: d :: u :: v :: r)) (hO : Only [] w0 w) (hlt : w0.heap.size ≤ g) (hg : Blk w g 120 m.cells) : Calls Tryz.prog 84 #[.pointer (some ⟨g, 0, none⟩), .slice A (r.length + 4) c] w fun e w' => e = .returned (.tuple #[]) ∧ Only [g] w w' ∧ Blk w' g 120 (RQ.cells { m with cols := a.n, rows := d.n, width := u.n, height := v.n }) := by
  obtain ⟨b, off, rfl, hb, hc⟩ := hF.cells (by simp)
  have hbg : ¬ b = g := by omega
  have hgl := hg.lt
  obtain ⟨_, n0, t0, _⟩ := hc 0 a rfl
  simp only [Nat.zero_mul, Nat.one_mul, Nat.reduceMul, Nat.add_zero] at n0 t0
  obtain ⟨_, n1, t1, _⟩ := hc 1 d rfl
  simp only [Nat.zero_mul, Nat.one_mul, Nat.reduceMul, Nat.add_zero] at n1 t1
  obtain ⟨_, n2, t2, _⟩ := hc 2 u rfl
  simp only [Nat.zero_mul, Nat.one_mul, Nat.reduceMul, Nat.add_zero] at n2 t2
  obtain ⟨_, n3, t3, _⟩ := hc 3 v rfl
  simp only [Nat.zero_mul, Nat.one_mul, Nat.reduceMul, Nat.add_zero] at n3 t3
  have hI0 : Only [] w0 { w with drawn := w.drawn + 1 } := hO.drew
  have g4 : w.cell? ⟨g, 4, none⟩ = some (.int .u32 m.cols) := hg.cell 4
  have z4 := hg.frozen 4
  have g5 : w.cell? ⟨g, 5, none⟩ = some (.int .u32 m.rows) := hg.cell 5
  have z5 := hg.frozen 5
  have g6 : w.cell? ⟨g, 6, none⟩ = some (.int .u32 m.width) := hg.cell 6
  have z6 := hg.frozen 6
  have g7 : w.cell? ⟨g, 7, none⟩ = some (.int .u32 m.height) := hg.cell 7
  have z7 := hg.frozen 7
  have hsl : (0 : Int) ≤ (r.length : Int) := Int.natCast_nonneg _
  clear hc
  go_enter Tryz.func84, Tryz.ntmps84
  go_wp2_with fail
  have hI : (fun w' : World => Only [] w0 w') { w with drawn := w.drawn + 1 } := hI0
  refine wp_region_E (fun w' : World => Only [] w0 w') [] (by kernel_rfl) ?_
  refine wpAnyE_take 0 (v := (.pointer (some ⟨g, 0, none⟩))) rfl (by kernel_rfl) (fun _ _ _ h => h) hI (fun w' hw' => Or.inl ⟨by kernel_rfl, Or.inl (by go_simp)⟩) ?_
  refine wpAnyE_take 1 (v := (.slice (some ⟨b, off, none⟩) (r.length + 4) c)) rfl (by kernel_rfl) (fun _ _ _ h => h) hI (fun w' hw' => Or.inl ⟨by kernel_rfl, Or.inl (by go_simp)⟩) ?_
  refine wpAnyE_take 2 (v := (.pointer (some ⟨b, off, none⟩))) rfl (by kernel_rfl) (fun _ _ _ h => h) hI (fun w' hw' => Or.inl ⟨by kernel_rfl, Or.inl (by go_simp; intro h7; exact absurd h7 (by omega))⟩) ?_
  refine wpAnyE_take 3 (v := (.pointer (some ⟨b, off + 1, none⟩))) rfl (by kernel_rfl) (fun _ _ _ h => h) hI (fun w' hw' => Or.inl ⟨by kernel_rfl, Or.inl (by go_simp)⟩) ?_
  refine wpAnyE_take 4 (v := (.int .u32 a.n)) rfl (by kernel_rfl) (fun _ _ _ h => h) hI (fun w' hw' => Or.inl ⟨by kernel_rfl, Or.inl (by have y0 := cellL hw' hb (by simp) n0; go_simp)⟩) ?_
  refine wpAnyE_take 5 (v := (.slice (some ⟨b, off, none⟩) (r.length + 4) c)) rfl (by kernel_rfl) (fun _ _ _ h => h) hI (fun w' hw' => Or.inl ⟨by kernel_rfl, Or.inl (by go_simp)⟩) ?_
  refine wpAnyE_take 6 (v := (.pointer (some ⟨b, off + 4, none⟩))) rfl (by kernel_rfl) (fun _ _ _ h => h) hI (fun w' hw' => Or.inl ⟨by kernel_rfl, Or.inl (by go_simp; intro h7; exact absurd h7 (by omega))⟩) ?_
  refine wpAnyE_take 7 (v := (.pointer (some ⟨b, off + 4 + 1, none⟩))) rfl (by kernel_rfl) (fun _ _ _ h => h) hI (fun w' hw' => Or.inl ⟨by kernel_rfl, Or.inl (by go_simp)⟩) ?_
  refine wpAnyE_take 8 (v := (.int .u32 d.n)) rfl (by kernel_rfl) (fun _ _ _ h => h) hI (fun w' hw' => Or.inl ⟨by kernel_rfl, Or.inl (by have y0 := cellL hw' hb (by simp) n1; go_simp)⟩) ?_
  refine wpAnyE_take 9 (v := (.slice (some ⟨b, off, none⟩) (r.length + 4) c)) rfl (by kernel_rfl) (fun _ _ _ h => h) hI (fun w' hw' => Or.inl ⟨by kernel_rfl, Or.inl (by go_simp)⟩) ?_
  refine wpAnyE_take 10 (v := (.pointer (some ⟨b, off + 8, none⟩))) rfl (by kernel_rfl) (fun _ _ _ h => h) hI (fun w' hw' => Or.inl ⟨by kernel_rfl, Or.inl (by go_simp; intro h7; exact absurd h7 (by omega))⟩) ?_
  refine wpAnyE_take 11 (v := (.pointer (some ⟨b, off + 8 + 1, none⟩))) rfl (by kernel_rfl) (fun _ _ _ h => h) hI (fun w' hw' => Or.inl ⟨by kernel_rfl, Or.inl (by go_simp)⟩) ?_
  refine wpAnyE_take 12 (v := (.int .u32 u.n)) rfl (by kernel_rfl) (fun _ _ _ h => h) hI (fun w' hw' => Or.inl ⟨by kernel_rfl, Or.inl (by have y0 := cellL hw' hb (by simp) n2; go_simp)⟩) ?_
  refine wpAnyE_take 13 (v := (.slice (some ⟨b, off, none⟩) (r.length + 4) c)) rfl (by kernel_rfl) (fun _ _ _ h => h) hI (fun w' hw' => Or.inl ⟨by kernel_rfl, Or.inl (by go_simp)⟩) ?_
  refine wpAnyE_take 14 (v := (.pointer (some ⟨b, off + 12, none⟩))) rfl (by kernel_rfl) (fun _ _ _ h => h) hI (fun w' hw' => Or.inl ⟨by kernel_rfl, Or.inl (by go_simp; intro h7; exact absurd h7 (by omega))⟩) ?_
  refine wpAnyE_take 15 (v := (.pointer (some ⟨b, off + 12 + 1, none⟩))) rfl (by kernel_rfl) (fun _ _ _ h => h) hI (fun w' hw' => Or.inl ⟨by kernel_rfl, Or.inl (by go_simp)⟩) ?_
  refine wpAnyE_take 16 (v := (.int .u32 v.n)) rfl (by kernel_rfl) (fun _ _ _ h => h) hI (fun w' hw' => Or.inl ⟨by kernel_rfl, Or.inl (by have y0 := cellL hw' hb (by simp) n3; go_simp)⟩) ?_
  refine wpAnyE_take 17 (v := (.agg #[.int .u32 a.n, .int .u32 d.n, .int .u32 u.n, .int .u32 v.n])) rfl (by kernel_rfl) (fun _ _ _ h => h) hI (fun w' hw' => Or.inl ⟨by kernel_rfl, Or.inl (by go_simp)⟩) ?_
  refine wpAnyE_take 18 (v := (.pointer (some ⟨g, 0, none⟩))) rfl (by kernel_rfl) (fun _ _ _ h => h) hI (fun w' hw' => Or.inl ⟨by kernel_rfl, Or.inl (by go_simp)⟩) ?_
  refine wpAnyE_take 19 (v := (.pointer (some ⟨g, 0, none⟩))) rfl (by kernel_rfl) (fun _ _ _ h => h) hI (fun w' hw' => Or.inl ⟨by kernel_rfl, Or.inl (by go_simp)⟩) ?_
  refine wpAnyE_take 20 (v := (.pointer (some ⟨g, 4, none⟩))) rfl (by kernel_rfl) (fun _ _ _ h => h) hI (fun w' hw' => Or.inl ⟨by kernel_rfl, Or.inl (by go_simp)⟩) ?_
  refine wpAnyE_one 21 rfl (by kernel_rfl) hI (fun K hK => ?_)
  rw [if_pos (by kernel_rfl)]
  go_simp
  refine hK _ _ ?_
  clear hK K
  have hI := Only.setCell (p := ⟨g, 4, none⟩) hI (.inr hlt) (.int .u32 a.n)
  have hI := Only.setCell (p := ⟨g, 5, none⟩) hI (.inr hlt) (.int .u32 d.n)
  have hI := Only.setCell (p := ⟨g, 6, none⟩) hI (.inr hlt) (.int .u32 u.n)
  have hI := Only.setCell (p := ⟨g, 7, none⟩) hI (.inr hlt) (.int .u32 v.n)
  refine wpAnyE_end (by kernel_rfl) hI ?_
  (try simp only [Exit.inBlock, Exit.then])
  (try go_wp2_with fail)
  go_end0
  exact ⟨rfl, ((((((((((Only.refl [g] w).drew)).setCell (p := ⟨g, 4, none⟩) (.inl (by simp)) (.int .u32 a.n))).setCell (p := ⟨g, 5, none⟩) (.inl (by simp)) (.int .u32 d.n))).setCell (p := ⟨g, 6, none⟩) (.inl (by simp)) (.int .u32 u.n))).setCell (p := ⟨g, 7, none⟩) (.inl (by simp)) (.int .u32 v.n)), ((((hg.drew).set_ 4 (.int .u32 a.n)).set_ 5 (.int .u32 d.n)).set_ 6 (.int .u32 u.n)).set_ 7 (.int .u32 v.n)⟩
set_option maxRecDepth 100000 in
set_option maxHeartbeats 1600000 in
theorem putDeathR_any (m : RQ) (g : Nat) (w0 w : World) (A : Option Addr) (a d u v : FD) (r : List FD) (c : Nat) (hF : RdF w0 A (a :: d :: u :: v :: r)) (hO : Only [] w0 w) (hlt : w0.heap.size ≤ g) (hg : Blk w g 120 m.cells) : Calls Tryz.prog 90 #[.pointer (some ⟨g, 0, none⟩), .slice A (r.length + 4) c] w fun e w' => e = .returned (.tuple #[]) ∧ Only [g] w w' ∧ Blk w' g 120 (RQ.cells { m with text := strOfNums a.text, on := decide (d.n = 1), value := strOfNums u.text, lang := strOfNums v.text }) := by
  obtain ⟨on, hon⟩ : ∃ on, decide (d.n = 1) = on := ⟨_, rfl⟩
  rw [hon]
  have hon2 : (d.n == 1) = on := hon
  clear hon
  obtain ⟨b, off, rfl, hb, hc⟩ := hF.cells (by simp)
  have hbg : ¬ b = g := by omega
  have hgl := hg.lt
  obtain ⟨_, n0, t0, _⟩ := hc 0 a rfl
  simp only [Nat.zero_mul, Nat.one_mul, Nat.reduceMul, Nat.add_zero] at n0 t0
  obtain ⟨_, n1, t1, _⟩ := hc 1 d rfl
  simp only [Nat.zero_mul, Nat.one_mul, Nat.reduceMul, Nat.add_zero] at n1 t1
  obtain ⟨_, n2, t2, _⟩ := hc 2 u rfl
  simp only [Nat.zero_mul, Nat.one_mul, Nat.reduceMul, Nat.add_zero] at n2 t2
  obtain ⟨_, n3, t3, _⟩ := hc 3 v rfl
  simp only [Nat.zero_mul, Nat.one_mul, Nat.reduceMul, Nat.add_zero] at n3 t3
  have hI0 : Only [] w0 { w with drawn := w.drawn + 1 } := hO.drew
  have g1 : w.cell? ⟨g, 1, none⟩ = some (.string m.text) := hg.cell 1
  have z1 := hg.frozen 1
  have g9 : w.cell? ⟨g, 9, none⟩ = some (.bool m.on) := hg.cell 9
  have z9 := hg.frozen 9
  have g2 : w.cell? ⟨g, 2, none⟩ = some (.string m.value) := hg.cell 2
  have z2 := hg.frozen 2
  have g3 : w.cell? ⟨g, 3, none⟩ = some (.string m.lang) := hg.cell 3
  have z3 := hg.frozen 3
  have hsl : (0 : Int) ≤ (r.length : Int) := Int.natCast_nonneg _
  clear hc
  go_enter Tryz.func90, Tryz.ntmps90
  go_wp2_with fail
  have hI : (fun w' : World => Only [] w0 w') { w with drawn := w.drawn + 1 } := hI0
  refine wp_region_E (fun w' : World => Only [] w0 w') [] (by kernel_rfl) ?_
  refine wpAnyE_take 0 (v := (.pointer (some ⟨g, 0, none⟩))) rfl (by kernel_rfl) (fun _ _ _ h => h) hI (fun w' hw' => Or.inl ⟨by kernel_rfl, Or.inl (by go_simp)⟩) ?_
  refine wpAnyE_take 1 (v := (.pointer (some ⟨g, 0, none⟩))) rfl (by kernel_rfl) (fun _ _ _ h => h) hI (fun w' hw' => Or.inl ⟨by kernel_rfl, Or.inl (by go_simp)⟩) ?_
  refine wpAnyE_take 2 (v := (.pointer (some ⟨g, 0, none⟩))) rfl (by kernel_rfl) (fun _ _ _ h => h) hI (fun w' hw' => Or.inl ⟨by kernel_rfl, Or.inl (by go_simp)⟩) ?_
  refine wpAnyE_take 3 (v := (.pointer (some ⟨g, 0, none⟩))) rfl (by kernel_rfl) (fun _ _ _ h => h) hI (fun w' hw' => Or.inl ⟨by kernel_rfl, Or.inl (by go_simp)⟩) ?_
  refine wpAnyE_take 4 (v := (.slice (some ⟨b, off, none⟩) (r.length + 4) c)) rfl (by kernel_rfl) (fun _ _ _ h => h) hI (fun w' hw' => Or.inl ⟨by kernel_rfl, Or.inl (by go_simp)⟩) ?_
  refine wpAnyE_take 5 (v := (.pointer (some ⟨b, off, none⟩))) rfl (by kernel_rfl) (fun _ _ _ h => h) hI (fun w' hw' => Or.inl ⟨by kernel_rfl, Or.inl (by go_simp; intro h7; exact absurd h7 (by omega))⟩) ?_
  refine wpAnyE_take 6 (v := (.pointer (some ⟨b, off + 2, none⟩))) rfl (by kernel_rfl) (fun _ _ _ h => h) hI (fun w' hw' => Or.inl ⟨by kernel_rfl, Or.inl (by go_simp)⟩) ?_
  refine wpAnyE_take 7 (v := (.slice a.tA a.text.length a.tc)) rfl (by kernel_rfl) (fun _ _ _ h => h) hI (fun w' hw' => Or.inl ⟨by kernel_rfl, Or.inl (by have y0 := cellL hw' hb (by simp) t0; go_simp)⟩) ?_
  refine wpAnyE_take 8 (v := (.string (strOfNums a.text))) rfl (by kernel_rfl) (fun _ _ _ h => h) hI (fun w' hw' => Or.inl ⟨by kernel_rfl, Or.inl (by have kc := conv_rd (c := a.tc) ((hF.ok a (by simp)).1.text.only hw'); go_simp)⟩) ?_
  refine wpAnyE_take 9 (v := (.slice (some ⟨b, off, none⟩) (r.length + 4) c)) rfl (by kernel_rfl) (fun _ _ _ h => h) hI (fun w' hw' => Or.inl ⟨by kernel_rfl, Or.inl (by go_simp)⟩) ?_
  refine wpAnyE_take 10 (v := (.pointer (some ⟨b, off + 4, none⟩))) rfl (by kernel_rfl) (fun _ _ _ h => h) hI (fun w' hw' => Or.inl ⟨by kernel_rfl, Or.inl (by go_simp; intro h7; exact absurd h7 (by omega))⟩) ?_
  refine wpAnyE_take 11 (v := (.pointer (some ⟨b, off + 4 + 1, none⟩))) rfl (by kernel_rfl) (fun _ _ _ h => h) hI (fun w' hw' => Or.inl ⟨by kernel_rfl, Or.inl (by go_simp)⟩) ?_
  refine wpAnyE_take 12 (v := (.int .u32 d.n)) rfl (by kernel_rfl) (fun _ _ _ h => h) hI (fun w' hw' => Or.inl ⟨by kernel_rfl, Or.inl (by have y0 := cellL hw' hb (by simp) n1; go_simp)⟩) ?_
  refine wpAnyE_take 13 (v := (.bool on)) rfl (by kernel_rfl) (fun _ _ _ h => h) hI (fun w' hw' => Or.inl ⟨by kernel_rfl, Or.inl (by go_simp)⟩) ?_
  refine wpAnyE_take 14 (v := (.slice (some ⟨b, off, none⟩) (r.length + 4) c)) rfl (by kernel_rfl) (fun _ _ _ h => h) hI (fun w' hw' => Or.inl ⟨by kernel_rfl, Or.inl (by go_simp)⟩) ?_
  refine wpAnyE_take 15 (v := (.pointer (some ⟨b, off + 8, none⟩))) rfl (by kernel_rfl) (fun _ _ _ h => h) hI (fun w' hw' => Or.inl ⟨by kernel_rfl, Or.inl (by go_simp; intro h7; exact absurd h7 (by omega))⟩) ?_
  refine wpAnyE_take 16 (v := (.pointer (some ⟨b, off + 8 + 2, none⟩))) rfl (by kernel_rfl) (fun _ _ _ h => h) hI (fun w' hw' => Or.inl ⟨by kernel_rfl, Or.inl (by go_simp)⟩) ?_
  refine wpAnyE_take 17 (v := (.slice u.tA u.text.length u.tc)) rfl (by kernel_rfl) (fun _ _ _ h => h) hI (fun w' hw' => Or.inl ⟨by kernel_rfl, Or.inl (by have y0 := cellL hw' hb (by simp) t2; go_simp)⟩) ?_
  refine wpAnyE_take 18 (v := (.string (strOfNums u.text))) rfl (by kernel_rfl) (fun _ _ _ h => h) hI (fun w' hw' => Or.inl ⟨by kernel_rfl, Or.inl (by have kc := conv_rd (c := u.tc) ((hF.ok u (by simp)).1.text.only hw'); go_simp)⟩) ?_
  refine wpAnyE_take 19 (v := (.slice (some ⟨b, off, none⟩) (r.length + 4) c)) rfl (by kernel_rfl) (fun _ _ _ h => h) hI (fun w' hw' => Or.inl ⟨by kernel_rfl, Or.inl (by go_simp)⟩) ?_
  refine wpAnyE_take 20 (v := (.pointer (some ⟨b, off + 12, none⟩))) rfl (by kernel_rfl) (fun _ _ _ h => h) hI (fun w' hw' => Or.inl ⟨by kernel_rfl, Or.inl (by go_simp; intro h7; exact absurd h7 (by omega))⟩) ?_
  refine wpAnyE_take 21 (v := (.pointer (some ⟨b, off + 12 + 2, none⟩))) rfl (by kernel_rfl) (fun _ _ _ h => h) hI (fun w' hw' => Or.inl ⟨by kernel_rfl, Or.inl (by go_simp)⟩) ?_
  refine wpAnyE_take 22 (v := (.slice v.tA v.text.length v.tc)) rfl (by kernel_rfl) (fun _ _ _ h => h) hI (fun w' hw' => Or.inl ⟨by kernel_rfl, Or.inl (by have y0 := cellL hw' hb (by simp) t3; go_simp)⟩) ?_
  refine wpAnyE_take 23 (v := (.string (strOfNums v.text))) rfl (by kernel_rfl) (fun _ _ _ h => h) hI (fun w' hw' => Or.inl ⟨by kernel_rfl, Or.inl (by have kc := conv_rd (c := v.tc) ((hF.ok v (by simp)).1.text.only hw'); go_simp)⟩) ?_
  refine wpAnyE_take 24 (v := (.pointer (some ⟨g, 0, none⟩))) rfl (by kernel_rfl) (fun _ _ _ h => h) hI (fun w' hw' => Or.inl ⟨by kernel_rfl, Or.inl (by go_simp)⟩) ?_
  refine wpAnyE_take 25 (v := (.pointer (some ⟨g, 0, none⟩))) rfl (by kernel_rfl) (fun _ _ _ h => h) hI (fun w' hw' => Or.inl ⟨by kernel_rfl, Or.inl (by go_simp)⟩) ?_
  refine wpAnyE_take 26 (v := (.pointer (some ⟨g, 1, none⟩))) rfl (by kernel_rfl) (fun _ _ _ h => h) hI (fun w' hw' => Or.inl ⟨by kernel_rfl, Or.inl (by go_simp)⟩) ?_
  refine wpAnyE_one 27 rfl (by kernel_rfl) hI (fun K hK => ?_)
  rw [if_pos (by kernel_rfl)]
  go_simp
  refine hK _ _ ?_
  clear hK K
  have hI := Only.setCell (p := ⟨g, 1, none⟩) hI (.inr hlt) (.string (strOfNums a.text))
  refine wpAnyE_take 28 (v := (.pointer (some ⟨g, 0, none⟩))) rfl (by kernel_rfl) (fun _ _ _ h => h) hI (fun w' hw' => Or.inl ⟨by kernel_rfl, Or.inl (by go_simp)⟩) ?_
  refine wpAnyE_take 29 (v := (.pointer (some ⟨g, 0, none⟩))) rfl (by kernel_rfl) (fun _ _ _ h => h) hI (fun w' hw' => Or.inl ⟨by kernel_rfl, Or.inl (by go_simp)⟩) ?_
  refine wpAnyE_take 30 (v := (.pointer (some ⟨g, 9, none⟩))) rfl (by kernel_rfl) (fun _ _ _ h => h) hI (fun w' hw' => Or.inl ⟨by kernel_rfl, Or.inl (by go_simp)⟩) ?_
  refine wpAnyE_one 31 rfl (by kernel_rfl) hI (fun K hK => ?_)
  rw [if_pos (by kernel_rfl)]
  go_simp
  refine hK _ _ ?_
  clear hK K
  have hI := Only.setCell (p := ⟨g, 9, none⟩) hI (.inr hlt) (.bool on)
  refine wpAnyE_take 32 (v := (.pointer (some ⟨g, 0, none⟩))) rfl (by kernel_rfl) (fun _ _ _ h => h) hI (fun w' hw' => Or.inl ⟨by kernel_rfl, Or.inl (by go_simp)⟩) ?_
  refine wpAnyE_take 33 (v := (.pointer (some ⟨g, 0, none⟩))) rfl (by kernel_rfl) (fun _ _ _ h => h) hI (fun w' hw' => Or.inl ⟨by kernel_rfl, Or.inl (by go_simp)⟩) ?_
  refine wpAnyE_take 34 (v := (.pointer (some ⟨g, 2, none⟩))) rfl (by kernel_rfl) (fun _ _ _ h => h) hI (fun w' hw' => Or.inl ⟨by kernel_rfl, Or.inl (by go_simp)⟩) ?_
  refine wpAnyE_one 35 rfl (by kernel_rfl) hI (fun K hK => ?_)
  rw [if_pos (by kernel_rfl)]
  go_simp
  refine hK _ _ ?_
  clear hK K
  have hI := Only.setCell (p := ⟨g, 2, none⟩) hI (.inr hlt) (.string (strOfNums u.text))
  refine wpAnyE_take 36 (v := (.pointer (some ⟨g, 0, none⟩))) rfl (by kernel_rfl) (fun _ _ _ h => h) hI (fun w' hw' => Or.inl ⟨by kernel_rfl, Or.inl (by go_simp)⟩) ?_
  refine wpAnyE_take 37 (v := (.pointer (some ⟨g, 0, none⟩))) rfl (by kernel_rfl) (fun _ _ _ h => h) hI (fun w' hw' => Or.inl ⟨by kernel_rfl, Or.inl (by go_simp)⟩) ?_
  refine wpAnyE_take 38 (v := (.pointer (some ⟨g, 3, none⟩))) rfl (by kernel_rfl) (fun _ _ _ h => h) hI (fun w' hw' => Or.inl ⟨by kernel_rfl, Or.inl (by go_simp)⟩) ?_
  refine wpAnyE_one 39 rfl (by kernel_rfl) hI (fun K hK => ?_)
  rw [if_pos (by kernel_rfl)]
  go_simp
  refine hK _ _ ?_
  clear hK K
  have hI := Only.setCell (p := ⟨g, 3, none⟩) hI (.inr hlt) (.string (strOfNums v.text))
  refine wpAnyE_end (by kernel_rfl) hI ?_
  (try simp only [Exit.inBlock, Exit.then])
  (try go_wp2_with fail)
  go_end0
  exact ⟨rfl, ((((((((((Only.refl [g] w).drew)).setCell (p := ⟨g, 1, none⟩) (.inl (by simp)) (.string (strOfNums a.text)))).setCell (p := ⟨g, 9, none⟩) (.inl (by simp)) (.bool on))).setCell (p := ⟨g, 2, none⟩) (.inl (by simp)) (.string (strOfNums u.text)))).setCell (p := ⟨g, 3, none⟩) (.inl (by simp)) (.string (strOfNums v.text))), ((((hg.drew).set_ 1 (.string (strOfNums a.text))).set_ 9 (.bool on)).set_ 2 (.string (strOfNums u.text))).set_ 3 (.string (strOfNums v.text))⟩
set_option maxRecDepth 100000 in
set_option maxHeartbeats 1600000 in
theorem putPtyR_any (m : RQ) (g : Nat) (w0 w : World) (A : Option Addr) (a b1 c1 d1 e1 f1 : FD) (r : List FD) (c : Nat) (hF : RdF w0 A (a :: b1 :: c1 :: d1 :: e1 :: f1 :: r)) (hO : Only [] w0 w) (hlt : w0.heap.size ≤ g) (hg : Blk w g 120 m.cells) (h6 : r.length + 6 ≤ c) (hcm : c ≤ maxLen) : Calls Tryz.prog 71 #[.pointer (some ⟨g, 0, none⟩), .slice A (r.length + 6) c] w fun e w' => e = .returned (.tuple #[]) ∧ Only [g] w w' ∧ Blk w' g 120 (RQ.cells { m with text := strOfNums a.text, cols := b1.n, rows := c1.n, width := d1.n, height := e1.n, mA := f1.tA, mc := f1.tc, modes := f1.text }) := by
  have TX := putTextR_any m g w0 w A a (b1 :: c1 :: d1 :: e1 :: f1 :: r) c hF hO hlt hg
  obtain ⟨b, off, rfl, hb, hc⟩ := hF.cells (by simp)
  have hF2 : RdF w0 (some ⟨b, off + 4, none⟩) (b1 :: c1 :: d1 :: e1 :: f1 :: r) := ⟨fun _ => ⟨b, off + 4, rfl, hb, fun i f hi => by
    have := hc (i + 1) f (by simpa using hi)
    rw [show off + (i + 1) * 4 = off + 4 + i * 4 by omega] at this
    exact this⟩, fun f hf => hF.ok f (List.mem_cons_of_mem _ hf)⟩
  obtain ⟨_, _, t5, _⟩ := hc 5 f1 rfl
  simp only [Nat.reduceMul] at t5
  rw [show (b1 :: c1 :: d1 :: e1 :: f1 :: r).length + 1 = r.length + 6 by simp] at TX
  have i1 : (1 : Int) ≤ (r.length : Int) + 6 := by omega
  have i2 : (1 : Int) < (c : Int) := by omega
  have i3 : ((r.length : Int) + 6) ≤ (c : Int) := by omega
  have i5 : (5 : Int) < (r.length : Int) + 6 := by omega
  clear hc
  go_enter Tryz.func71, Tryz.ntmps71
  go_wp2_with fail
  go_call TX as e w1 ⟨rfl, P1, K1⟩
  clear TX
  have O1 : Only [] w0 w1 := hO.trans P1 (fun x hx => .inr (by simp at hx; omega))
  have TS := putSizeR_any _ g w0 w1 _ b1 c1 d1 e1 (f1 :: r) (c - 1) hF2 O1 hlt K1
  rw [show (f1 :: r).length + 4 = r.length + 5 by simp] at TS
  go_wp2_with fail
  go_call TS as e w2 ⟨rfl, P2, K2⟩
  clear TS
  have O2 : Only [] w0 w2 := O1.trans P2 (fun x hx => .inr (by simp at hx; omega))
  have t5 := cellL O2 hb (by simp) t5
  have c8 := K2.cell 8
  have z8 := K2.frozen 8
  have hb2 := K2.set_ 8 (.slice f1.tA f1.text.length f1.tc)
  have hO2 : Only [g] w (w2.setCell ⟨g, 8, none⟩ (.slice f1.tA f1.text.length f1.tc)) := ((P1.trans P2 (fun x hx => .inl hx)).setCell (p := ⟨g, 8, none⟩) (.inl (by simp)) _)
  go_wp2
  go_end0
  exact ⟨rfl, hO2, hb2⟩
end Go.Proofs.YtkgikodiecmakaaGreatDoor

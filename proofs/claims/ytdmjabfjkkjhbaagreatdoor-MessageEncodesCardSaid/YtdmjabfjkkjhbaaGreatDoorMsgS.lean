/- The document's answer for layer 3: append to fields, Copy, Encode; no condition. -/
import Derived.Test.YtdmjabfjkkjhbaaGreatDoorMsgQC
import Derived.Test.YtdmjabfjkkjhbaaGreatDoorMsgR
import Derived.Test.YtdmjabfjkkjhbaaGreatDoorMsgK
import Derived.Test.YtdmjabfjkkjhbaaGreatDoorRefM
namespace Go.Proofs.YtdmjabfjkkjhbaaGreatDoor
set_option linter.all false
open Go.RowKit

theorem rdF_flat {w : World} {b off : Nat} {fs : List FD} (hc : ∀ i f, fs[i]? = some f → w.cell? ⟨b, off + i * 4, none⟩ = some (.int .i64 f.kind) ∧ w.cell? ⟨b, off + i * 4 + 1, none⟩ = some (.int .u32 f.n) ∧ w.cell? ⟨b, off + i * 4 + 2, none⟩ = some (.slice f.tA f.text.length f.tc) ∧ w.cell? ⟨b, off + i * 4 + 3, none⟩ = some (.slice f.lA f.list.length f.lc)) :
    ∀ j u, (fcells fs)[j]? = some u → w.cell? ((⟨b, off, none⟩ : Addr).add j) = some u := by
  intro j u hj
  rw [Addr.add_lit]
  have hjl : j < fs.length * 4 := by rw [← fcells_length]; exact (List.getElem?_eq_some_iff.1 hj).1
  obtain ⟨i, r, hr, rfl⟩ : ∃ i r, r < 4 ∧ j = i * 4 + r := ⟨j / 4, j % 4, by omega, by omega⟩
  obtain ⟨f, hf⟩ : ∃ f, fs[i]? = some f := ⟨_, List.getElem?_eq_getElem (show i < fs.length by omega)⟩
  rw [fcells_at fs i f r hf hr] at hj
  obtain ⟨c0, c1, c2, c3⟩ := hc i f hf
  match r, hr with
  | 0, _ => simp [FD.cells] at hj; subst hj; exact c0
  | 1, _ => simp [FD.cells] at hj; subst hj; rw [← Nat.add_assoc]; exact c1
  | 2, _ => simp [FD.cells] at hj; subst hj; rw [← Nat.add_assoc]; exact c2
  | 3, _ => simp [FD.cells] at hj; subst hj; rw [← Nat.add_assoc]; exact c3
theorem fcells_one : ∀ (gs : List FD), ∀ u ∈ fcells gs, u.oneCell' = true
  | [], u, hu => by simp [fcells] at hu
  | f :: gs, u, hu => by
    unfold fcells at hu
    rw [List.flatMap_cons, List.mem_append] at hu
    rcases hu with hu | hu
    · simp [FD.cells] at hu; rcases hu with rfl | rfl | rfl | rfl <;> rfl
    · exact fcells_one gs u hu
theorem run_appFs {w : World} (ty : TypeId) (base : Nat) (v : Value) (fs : List FD) (hown : OwnF w base v fs) (A : Option Addr) (c : Nat) (gs : List FD) (hr : RdF w A gs)
    (hlen : fs.length + gs.length < 1000000) (hbase : base ≤ w.heap.size) :
    ∃ v' w', (Builtin.append_ #[50, 50] ty #[v, .slice A gs.length c]).run Tryz.prog w = .ok v' w' ∧ OwnF w' base v' (fs ++ gs) ∧ Only v.ownBlock.toList w w' := by
  obtain ⟨i0, hi, hz0, hz1, hz2⟩ := info_parts fieldInfos
  have hu := Tryz.underlying50
  by_cases h0 : 0 < gs.length
  · obtain ⟨b, off, rfl, hb, hc⟩ := hr.cells h0
    obtain ⟨v', w', e, h1, h2, h3⟩ := run_append_own (P := Tryz.prog) w base 50 ty 49 i0 _ 4 64 hu hi hz0 hz1 hz2 rfl (by decide) v fs.length (fcells fs) hown ⟨b, off, none⟩ gs.length c (fcells gs) (fcells_length gs) (rdF_flat hc) (fcells_one gs) (by simp only [maxLen]; omega) (by omega) hbase
    exact ⟨v', w', e, by show World.ownsRow _ _ _ _ _ _ _; simpa [fcells, List.flatMap_append] using h1, only_of_grown h2⟩
  · have e0 : gs = [] := List.eq_nil_of_length_eq_zero (by omega)
    subst e0
    refine ⟨v, w, ?_, by rw [List.append_nil]; exact hown, Only.refl _ _⟩
    have hf : ∀ w' : World, (Builtin.firstCells 4 0 (.slice A 0 c)).run Tryz.prog w' = .ok #[] w' := by
      intro w'
      cases A <;> simp [Builtin.firstCells, loadCells, loadCellsFrom]
    rcases hown.2 with ⟨rfl, hn⟩ | ⟨g, cap, cur, rfl, _, _, hnc, _⟩
    · cases A <;> simp [Builtin.append_, run_underlying hu, sizeOf, typeInfo, hi, hz1, Builtin.lenOf, hf]
    · cases A <;> simp [Builtin.append_, run_underlying hu, sizeOf, typeInfo, hi, hz1, Builtin.lenOf, hf, hnc, storeCells]
theorem wpList_appFs {w : World} {ops : Array Oper} {rest : List Oper} {o : Oper} {a : Act} {Q : Exit → Act → World → Prop} (hgd : o.guard = none) (s x : Operand)
    (ho : o.op = .call { callee := .builtin .append, args := #[s, x], argTypes := #[50, 50] })
    (base : Nat) (v : Value) (fs : List FD) (hs : a.eval s = v) (hown : OwnF w base v fs) (A : Option Addr) (c : Nat) (gs : List FD) (n : Nat) (hn : gs.length = n) (hx : a.eval x = .slice A n c) (hr : RdF w A gs)
    (hlen : fs.length + gs.length < 1000000) (hbase : base ≤ w.heap.size)
    (h : ∀ v' w', Hid (OwnF w' base v' (fs ++ gs)) → Only v.ownBlock.toList w w' → wpList Tryz.prog ops Q rest (a.put o.dst v') w') : wpList Tryz.prog ops Q (o :: rest) a w := by
  subst hn
  refine wpList_plain hgd fun K hK => ?_
  obtain ⟨v', w', hrun, h1, h2⟩ := run_appFs o.type base v fs hown A c gs hr hlen hbase
  unfold Oper.wp execOp
  simp only [ho, resolve, invoke, builtin, Sem.run_bind, Sem.run_pure, Result.andThen_ok, List.map_toArray, List.map_cons, List.map_nil, hs, hx, hrun]
  exact hK _ _ (h v' w' h1 h2)

set_option maxRecDepth 100000 in
set_option maxHeartbeats 3200000 in
theorem refMCopy_any (m : MD) (w : World) (ok : m.ok w) (hd : m.data.length ≤ 140737488355328) : Calls Tryz.prog 7 #[m.val] w fun e w' => Only [] w w' ∧ ∃ m' : MD, e = .returned m'.val ∧ m'.ok w' ∧ SameM m m' ∧ ∀ a, m'.dA = some a → w.heap.size ≤ a.block := by
  obtain ⟨w3, hw3⟩ : ∃ w3, w3 = ((w.alloc (.cells #[.int .i64 m.kind, .int .u32 m.chan, .int .u32 m.sender, .int .u32 m.window, .int .u32 m.packet, .int .u32 m.code, .string m.name, .string m.lang, .bool m.want, .slice m.dA m.data.length m.dc] 25)).alloc (.cells #[.int .i64 0, .int .u32 0, .int .u32 0, .int .u32 0, .int .u32 0, .int .u32 0, .string ⟨#[]⟩, .string ⟨#[]⟩, .bool false, .slice none 0 0] 25)).alloc (.cells #[] 5) := ⟨_, rfl⟩
  have O3 : Only [] w w3 := by rw [hw3]; exact (((Only.refl _ _).alloc _).alloc _).alloc _
  have K3 : Blk w3 w.heap.size 25 m.cells := by rw [hw3]; exact ((Blk.new w _ _).alloc _).alloc _
  have Z3 : Blk w3 (w.heap.size + 1) 25 zeroM.cells := by
    rw [hw3]
    have := (Blk.new (w.alloc (.cells #[.int .i64 m.kind, .int .u32 m.chan, .int .u32 m.sender, .int .u32 m.window, .int .u32 m.packet, .int .u32 m.code, .string m.name, .string m.lang, .bool m.want, .slice m.dA m.data.length m.dc] 25)) 25 zeroM.cells).alloc (.cells #[] 5)
    rwa [show (w.alloc (.cells #[.int .i64 m.kind, .int .u32 m.chan, .int .u32 m.sender, .int .u32 m.window, .int .u32 m.packet, .int .u32 m.code, .string m.name, .string m.lang, .bool m.want, .slice m.dA m.data.length m.dc] 25)).heap.size = w.heap.size + 1 by simp] at this
  have V3 : OwnB w3 (w.heap.size + 1 + 1) (.slice (some ⟨w.heap.size + 1 + 1, 0, none⟩) 0 0) [] := by
    rw [hw3]
    have := ownB_lit ((w.alloc (.cells #[.int .i64 m.kind, .int .u32 m.chan, .int .u32 m.sender, .int .u32 m.window, .int .u32 m.packet, .int .u32 m.code, .string m.name, .string m.lang, .bool m.want, .slice m.dA m.data.length m.dc] 25)).alloc (.cells #[.int .i64 0, .int .u32 0, .int .u32 0, .int .u32 0, .int .u32 0, .int .u32 0, .string ⟨#[]⟩, .string ⟨#[]⟩, .bool false, .slice none 0 0] 25)) (w.heap.size + 1 + 1) [] (by simp) (by simp)
    rwa [show ((w.alloc (.cells #[.int .i64 m.kind, .int .u32 m.chan, .int .u32 m.sender, .int .u32 m.window, .int .u32 m.packet, .int .u32 m.code, .string m.name, .string m.lang, .bool m.want, .slice m.dA m.data.length m.dc] 25)).alloc (.cells #[.int .i64 0, .int .u32 0, .int .u32 0, .int .u32 0, .int .u32 0, .int .u32 0, .string ⟨#[]⟩, .string ⟨#[]⟩, .bool false, .slice none 0 0] 25)).heap.size = w.heap.size + 1 + 1 by simp] at this
  have z3 : w3.heap.size = w.heap.size + 1 + 1 + 1 := by rw [hw3]; simp
  have D3 : Rd w3 m.dA m.data := RdG.only ok.data O3
  have a0 : w3.cell? ⟨w.heap.size, 0, none⟩ = some (.int .i64 m.kind) := K3.cell 0
  have a1 : w3.cell? ⟨w.heap.size, 1, none⟩ = some (.int .u32 m.chan) := K3.cell 1
  have a2 : w3.cell? ⟨w.heap.size, 2, none⟩ = some (.int .u32 m.sender) := K3.cell 2
  have a3 : w3.cell? ⟨w.heap.size, 3, none⟩ = some (.int .u32 m.window) := K3.cell 3
  have a4 : w3.cell? ⟨w.heap.size, 4, none⟩ = some (.int .u32 m.packet) := K3.cell 4
  have a5 : w3.cell? ⟨w.heap.size, 5, none⟩ = some (.int .u32 m.code) := K3.cell 5
  have a6 : w3.cell? ⟨w.heap.size, 6, none⟩ = some (.string m.name) := K3.cell 6
  have a7 : w3.cell? ⟨w.heap.size, 7, none⟩ = some (.string m.lang) := K3.cell 7
  have a8 : w3.cell? ⟨w.heap.size, 8, none⟩ = some (.bool m.want) := K3.cell 8
  have a9 : w3.cell? ⟨w.heap.size, 9, none⟩ = some (.slice m.dA m.data.length m.dc) := K3.cell 9
  unfold MD.val
  go_enter Tryz.func7, Tryz.ntmps7
  go_wp2_with (at_builtin; rw [← hw3]; go_must (refine wpList_app3 rfl (.tmp 3) (.tmp 5) rfl (w.heap.size + 1 + 1) (.slice (some ⟨w.heap.size + 1 + 1, 0, none⟩) 0 0) [] rfl V3 m.dA m.dc m.data _ rfl rfl D3 (by simpa using hd) (by omega) ?_; intro v9 w9 V9 P9 B9; replace V9 := V9.out; rw [List.nil_append] at V9; obtain ⟨A9, k9, rfl, R9, q9, m9, low9⟩ := V9.rd; have K9 := K3.only P9 (by simp [Value.ownBlock]; omega); have Z9 := Z3.only P9 (by simp [Value.ownBlock]); have b0 : w9.cell? ⟨w.heap.size, 0, none⟩ = some (.int .i64 m.kind) := K9.cell 0; have b1 : w9.cell? ⟨w.heap.size, 1, none⟩ = some (.int .u32 m.chan) := K9.cell 1; have b2 : w9.cell? ⟨w.heap.size, 2, none⟩ = some (.int .u32 m.sender) := K9.cell 2; have b3 : w9.cell? ⟨w.heap.size, 3, none⟩ = some (.int .u32 m.window) := K9.cell 3; have b4 : w9.cell? ⟨w.heap.size, 4, none⟩ = some (.int .u32 m.packet) := K9.cell 4; have b5 : w9.cell? ⟨w.heap.size, 5, none⟩ = some (.int .u32 m.code) := K9.cell 5; have b6 : w9.cell? ⟨w.heap.size, 6, none⟩ = some (.string m.name) := K9.cell 6; have b7 : w9.cell? ⟨w.heap.size, 7, none⟩ = some (.string m.lang) := K9.cell 7; have b8 : w9.cell? ⟨w.heap.size, 8, none⟩ = some (.bool m.want) := K9.cell 8; have b9 : w9.cell? ⟨w.heap.size, 9, none⟩ = some (.slice m.dA m.data.length m.dc) := K9.cell 9; have fb := K9.frozen 9; have z0 : w9.cell? ⟨w.heap.size + 1, 0, none⟩ = some (.int .i64 0) := Z9.cell 0; have y0 := Z9.frozen 0; have z1 : w9.cell? ⟨w.heap.size + 1, 1, none⟩ = some (.int .u32 0) := Z9.cell 1; have y1 := Z9.frozen 1; have z2 : w9.cell? ⟨w.heap.size + 1, 2, none⟩ = some (.int .u32 0) := Z9.cell 2; have y2 := Z9.frozen 2; have z3 : w9.cell? ⟨w.heap.size + 1, 3, none⟩ = some (.int .u32 0) := Z9.cell 3; have y3 := Z9.frozen 3; have z4 : w9.cell? ⟨w.heap.size + 1, 4, none⟩ = some (.int .u32 0) := Z9.cell 4; have y4 := Z9.frozen 4; have z5 : w9.cell? ⟨w.heap.size + 1, 5, none⟩ = some (.int .u32 0) := Z9.cell 5; have y5 := Z9.frozen 5; have z6 : w9.cell? ⟨w.heap.size + 1, 6, none⟩ = some (.string ⟨#[]⟩) := Z9.cell 6; have y6 := Z9.frozen 6; have z7 : w9.cell? ⟨w.heap.size + 1, 7, none⟩ = some (.string ⟨#[]⟩) := Z9.cell 7; have y7 := Z9.frozen 7; have z8 : w9.cell? ⟨w.heap.size + 1, 8, none⟩ = some (.bool false) := Z9.cell 8; have y8 := Z9.frozen 8; have z9 : w9.cell? ⟨w.heap.size + 1, 9, none⟩ = some (.slice none 0 0) := Z9.cell 9; have y9 := Z9.frozen 9; have X9 : Only [] w w9 := O3.trans P9 (fun x hx => .inr (by simp [Value.ownBlock] at hx; omega))))
  (try simp only [Exit.inBlock, Exit.then])
  obtain ⟨wp, hwp⟩ : ∃ wp, wp = w9.setCell ⟨w.heap.size, 9, none⟩ (.slice A9 m.data.length k9) := ⟨_, rfl⟩
  have Pp : Only [w.heap.size, w.heap.size + 1] w9 wp := by rw [hwp]; exact (Only.refl _ w9).setCell (p := ⟨w.heap.size, 9, none⟩) (.inl (by simp)) _
  have Zp : Blk wp (w.heap.size + 1) 25 zeroM.cells := by rw [hwp]; exact Blk.far Z9 (p := ⟨w.heap.size, 9, none⟩) (by show ¬ w.heap.size + 1 = w.heap.size; omega) (.slice A9 m.data.length k9)
  rw [← hwp]
  replace hwp := hide hwp
  have okd : Rd wp A9 m.data := RdG.onlyL (mk := .int .u8) R9 Pp (fun a ha _ => by have := low9 a ha; simp; omega)
  have Xp : Only [] w wp := X9.trans Pp (fun x hx => .inr (by simp at hx; omega))
  obtain ⟨e0, e1, e2, e3, e4, e5, e6, e7, e8, eA, ec, ed⟩ := m
  dsimp only at okd q9 m9 Xp Zp ⊢
  have PE := msetO (w0 := wp) (w := wp) (L := [w.heap.size + 1]) (q := w.heap.size + 1) ⟨e0, e1, e2, e3, e4, e5, e6, e7, e8, A9, k9, ed⟩ (.inl (by simp)) (Only.refl _ wp)
  have BE := msetB (w := wp) (q := w.heap.size + 1) ⟨e0, e1, e2, e3, e4, e5, e6, e7, e8, A9, k9, ed⟩ Zp
  unfold mset at PE BE
  dsimp only at PE BE
  refine ret_msg ⟨e0, e1, e2, e3, e4, e5, e6, e7, e8, A9, k9, ed⟩ (g := w.heap.size + 1) rfl (by rfl) (by rfl) BE ?_
  clear BE Zp K3 Z3 V3 D3
  have rdz := RdG.onlyL (mk := .int .u8) okd PE (fun a ha _ => by have := low9 a ha; simp; omega)
  have onz := Xp.trans PE (fun x hx => .inr (by simp at hx; omega))
  have fr : ∀ a, A9 = some a → w.heap.size ≤ a.block := fun a ha => by have := low9 a ha; omega
  refine ⟨onz, ⟨e0, e1, e2, e3, e4, e5, e6, e7, e8, A9, k9, ed⟩, rfl, ?_, ?_, fr⟩
  · exact { data := rdz, dle := q9, dmax := m9, bytes := ok.bytes, nums := ok.nums, name := ok.name, lang := ok.lang }
  · exact { kind := rfl, chan := rfl, sender := rfl, window := rfl, packet := rfl, code := rfl, name := rfl, lang := rfl, want := rfl, data := rfl }
theorem OwnB.down {w : World} {base base' : Nat} {v : Value} {l : List Int} (h : OwnB w base v l) (hb : base' ≤ base) : OwnB w base' v l := by
  refine ⟨h.1, ?_⟩
  rcases h.2 with h | ⟨g, cap, cur, e, hg, r⟩
  · exact .inl h
  · exact .inr ⟨g, cap, cur, e, Nat.le_trans hb hg, r⟩
theorem row_len {k : Int} {js : List Nat} (h : rowL k = some js) : js.length ≤ 5 := by
  by_cases h1 : k = 1
  · subst h1
    obtain rfl : [0, 1, 2] = js := Option.some.inj h
    decide
  by_cases h80 : k = 80
  · subst h80
    obtain rfl : [3, 4, 5] = js := Option.some.inj h
    decide
  by_cases h81 : k = 81
  · subst h81
    obtain rfl : [5] = js := Option.some.inj h
    decide
  by_cases h82 : k = 82
  · subst h82
    obtain rfl : ([] : List Nat) = js := Option.some.inj h
    decide
  by_cases h90 : k = 90
  · subst h90
    obtain rfl : [3, 6, 7, 8, 5] = js := Option.some.inj h
    decide
  by_cases h91 : k = 91
  · subst h91
    obtain rfl : [9, 6, 7, 8, 5] = js := Option.some.inj h
    decide
  by_cases h92 : k = 92
  · subst h92
    obtain rfl : [9, 0, 1, 2] = js := Option.some.inj h
    decide
  by_cases h93 : k = 93
  · subst h93
    obtain rfl : [9, 7] = js := Option.some.inj h
    decide
  by_cases h94 : k = 94
  · subst h94
    obtain rfl : [9, 1] = js := Option.some.inj h
    decide
  by_cases h95 : k = 95
  · subst h95
    obtain rfl : [9, 0, 1] = js := Option.some.inj h
    decide
  by_cases h96 : k = 96
  · subst h96
    obtain rfl : [9] = js := Option.some.inj h
    decide
  by_cases h97 : k = 97
  · subst h97
    obtain rfl : [9] = js := Option.some.inj h
    decide
  by_cases h99 : k = 99
  · subst h99
    obtain rfl : [9] = js := Option.some.inj h
    decide
  by_cases h100 : k = 100
  · subst h100
    obtain rfl : [9] = js := Option.some.inj h
    decide
  by_cases h98 : k = 98
  · subst h98
    obtain rfl : [9, 3, 4, 5] = js := Option.some.inj h
    decide
  unfold rowL at h
  simp [*] at h
end Go.Proofs.YtdmjabfjkkjhbaaGreatDoor

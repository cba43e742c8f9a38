/- Layer 3: Encode; no condition but the sizes that can be. -/
import Derived.Test.YtdmjabfjkkjhbaaGreatDoorMsgE
import Derived.Test.YtdmjabfjkkjhbaaGreatDoorRefJ
namespace Go.Proofs.YtdmjabfjkkjhbaaGreatDoor
set_option linter.all false
open Go.RowKit

theorem rowL_range {k : Int} {js : List Nat} (h : rowL k = some js) : 1 ≤ k ∧ k ≤ 100 ∧ js.length ≤ 5 ∧ ∀ j ∈ js, j < 10 := by
  by_cases h1 : k = 1
  · subst h1
    injection (show some [0, 1, 2] = some js from h) with h
    subst h
    exact ⟨by decide, by decide, by decide, by decide⟩
  by_cases h80 : k = 80
  · subst h80
    injection (show some [3, 4, 5] = some js from h) with h
    subst h
    exact ⟨by decide, by decide, by decide, by decide⟩
  by_cases h81 : k = 81
  · subst h81
    injection (show some [5] = some js from h) with h
    subst h
    exact ⟨by decide, by decide, by decide, by decide⟩
  by_cases h82 : k = 82
  · subst h82
    injection (show some [] = some js from h) with h
    subst h
    exact ⟨by decide, by decide, by decide, by decide⟩
  by_cases h90 : k = 90
  · subst h90
    injection (show some [3, 6, 7, 8, 5] = some js from h) with h
    subst h
    exact ⟨by decide, by decide, by decide, by decide⟩
  by_cases h91 : k = 91
  · subst h91
    injection (show some [9, 6, 7, 8, 5] = some js from h) with h
    subst h
    exact ⟨by decide, by decide, by decide, by decide⟩
  by_cases h92 : k = 92
  · subst h92
    injection (show some [9, 0, 1, 2] = some js from h) with h
    subst h
    exact ⟨by decide, by decide, by decide, by decide⟩
  by_cases h93 : k = 93
  · subst h93
    injection (show some [9, 7] = some js from h) with h
    subst h
    exact ⟨by decide, by decide, by decide, by decide⟩
  by_cases h94 : k = 94
  · subst h94
    injection (show some [9, 1] = some js from h) with h
    subst h
    exact ⟨by decide, by decide, by decide, by decide⟩
  by_cases h95 : k = 95
  · subst h95
    injection (show some [9, 0, 1] = some js from h) with h
    subst h
    exact ⟨by decide, by decide, by decide, by decide⟩
  by_cases h96 : k = 96
  · subst h96
    injection (show some [9] = some js from h) with h
    subst h
    exact ⟨by decide, by decide, by decide, by decide⟩
  by_cases h97 : k = 97
  · subst h97
    injection (show some [9] = some js from h) with h
    subst h
    exact ⟨by decide, by decide, by decide, by decide⟩
  by_cases h99 : k = 99
  · subst h99
    injection (show some [9] = some js from h) with h
    subst h
    exact ⟨by decide, by decide, by decide, by decide⟩
  by_cases h100 : k = 100
  · subst h100
    injection (show some [9] = some js from h) with h
    subst h
    exact ⟨by decide, by decide, by decide, by decide⟩
  by_cases h98 : k = 98
  · subst h98
    injection (show some [9, 3, 4, 5] = some js from h) with h
    subst h
    exact ⟨by decide, by decide, by decide, by decide⟩
  unfold rowL at h
  simp only [h1, h80, h81, h82, h90, h91, h92, h93, h94, h95, h96, h97, h99, h100, h98, if_false] at h
  cases h
theorem partP_kind (m : MD) (j : Nat) (hj : j < 10) : (partP m j).kind = pk j := by
  have h : j = 0 ∨ j = 1 ∨ j = 2 ∨ j = 3 ∨ j = 4 ∨ j = 5 ∨ j = 6 ∨ j = 7 ∨ j = 8 ∨ j = 9 := by omega
  rcases h with rfl | rfl | rfl | rfl | rfl | rfl | rfl | rfl | rfl | rfl <;> rfl
theorem partP_list (m : MD) (j : Nat) (hj : j < 10) : (partP m j).list = [] := by
  have h : j = 0 ∨ j = 1 ∨ j = 2 ∨ j = 3 ∨ j = 4 ∨ j = 5 ∨ j = 6 ∨ j = 7 ∨ j = 8 ∨ j = 9 := by omega
  rcases h with rfl | rfl | rfl | rfl | rfl | rfl | rfl | rfl | rfl | rfl <;> rfl
theorem pcells_at : ∀ (js : List Nat) (i j n : Nat), js[i]? = some j → n < 3 → (pcells js)[i * 3 + n]? = (partCells j)[n]?
  | [], i, j, n, h, _ => by simp at h
  | a :: js, 0, j, n, h, hn => by
    simp at h
    subst h
    unfold pcells
    rw [List.flatMap_cons, Nat.zero_mul, Nat.zero_add, List.getElem?_append_left (by simpa [partCells] using hn)]
  | a :: js, i + 1, j, n, h, hn => by
    simp at h
    have := pcells_at js i j n h hn
    unfold pcells at this ⊢
    rw [List.flatMap_cons, List.getElem?_append_right (by simp [partCells]; omega), ← this]
    congr 1
    simp [partCells]
    omega
/-- What Encode answers. -/
def encP (m : MD) : Int × List Int := match rowL m.kind with
  | none => (8, [])
  | some js => if fitsP m then writeP (⟨1, m.kind, [], []⟩ :: js.map (partP m)) else (4, [])
theorem ok_snoc {wo w13 w14 : World} {k' : Nat} {A' : Option Addr} {v : Value} {gs : List FD} {g : FD} (X : Only [] wo w13) (P : Only v.ownBlock.toList w13 w14) (G : Where2 v (.slice A' (gs.length + 1) k') w13.heap.size)
    (hm : ∀ f ∈ gs, FD.ok wo f ∧ f.off v) (mg : FD.ok w13 g) (go : g.off v) :
    ∀ f ∈ gs ++ [g], FD.ok w14 f ∧ f.off (.slice A' (gs.length + 1) k') := by
  have z := X.size
  have hnw : ∀ x, some x = (Value.slice A' (gs.length + 1) k').ownBlock → some x = v.ownBlock ∨ w13.heap.size ≤ x := by
    intro x hx
    rcases G with e | e
    · left; rw [e] at hx; exact hx
    · right; rw [e] at hx; injection hx with hx; omega
  have key : ∀ f : FD, FD.ok w13 f → f.off v → FD.ok w14 f ∧ f.off (.slice A' (gs.length + 1) k') := fun f hf fo => by
    have t1 := hf.tlt
    have t2 := hf.llt
    refine ⟨{ hf with text := hf.text.onlyL P (fun a ha h0 hx => fo.1 a ha h0 (by simpa using hx)), list := hf.list.onlyL P (fun a ha h0 hx => fo.2 a ha h0 (by simpa using hx)) }, fun a ha h0 hx => ?_, fun a ha h0 hx => ?_⟩
    · rcases hnw _ hx.symm with h | h
      · exact fo.1 a ha h0 h.symm
      · have := t1 a ha h0; omega
    · rcases hnw _ hx.symm with h | h
      · exact fo.2 a ha h0 h.symm
      · have := t2 a ha h0; omega
  intro f hf
  rw [List.mem_append] at hf
  rcases hf with hf | hf
  · exact key f ((hm f hf).1.only X) (hm f hf).2
  · simp at hf
    subst hf
    exact key f mg go
theorem ownF_one (w : World) (f : FD) (cs : Array Value) (h : cs = f.cells.toArray) : OwnF (w.alloc (.cells cs 49)) w.heap.size (.slice (some ⟨w.heap.size, 0, none⟩) 1 1) [f] := by
  subst h
  refine ⟨by simp [fcells, FD.cells], .inr ⟨w.heap.size, 1, f.cells.toArray, rfl, Nat.le_refl _, heap_alloc_new w (.cells f.cells.toArray 49), by simp, by simp [maxLen], by simp [FD.cells], by simp [fcells, FD.cells]⟩⟩

set_option maxRecDepth 100000 in
set_option maxHeartbeats 6400000 in
theorem encode_any (m : MD) (w : World) (hm : m.ok w) (hs : m.name.size ≤ 140737488355328) (hl : m.lang.size ≤ 140737488355328) : Calls Tryz.prog 8 #[m.val] w (WritePost w (encP m)) := by
  obtain ⟨w1, hw1⟩ : ∃ w1, w1 = w.alloc (.cells #[.int .i64 m.kind, .int .u32 m.chan, .int .u32 m.sender, .int .u32 m.window, .int .u32 m.packet, .int .u32 m.code, .string m.name, .string m.lang, .bool m.want, .slice m.dA m.data.length m.dc] 25) := ⟨_, rfl⟩
  have P1 : Only [] w w1 := by rw [hw1]; exact (Only.refl _ _).alloc _
  have K1 : Blk w1 w.heap.size 25 m.cells := by rw [hw1]; exact Blk.new w _ _
  have RW := mrow_any m.kind w1
  obtain ⟨R, hR⟩ : ∃ R, encP m = R := ⟨_, rfl⟩
  rw [hR]
  unfold encP at hR
  unfold MD.val
  cases hr : rowL m.kind with
  | none =>
    rw [hr] at RW hR
    replace hR := hide hR
    replace hr := hide hr
    clear K1
    go_enter Tryz.func8, Tryz.ntmps8
    go_wp2_with fail
    rw [← hw1]
    replace hw1 := hide hw1
    go_call RW as e w2 ⟨P2, rfl⟩
    go_wp2_with fail
    go_ret2
    rw [← hR.out]
    exact writePost_none _ _ _ (P1.trans P2 (by simp))
  | some js =>
    rw [hr] at RW hR
    dsimp only at hR
    obtain ⟨x1, x2, hj5, hj10⟩ := rowL_range hr
    have FI := fun (w2 : World) => fits_any m w2 (by unfold maxLen; omega) (by unfold maxLen; omega)
    obtain ⟨n, hn⟩ : ∃ n, js.length = n := ⟨_, rfl⟩
    unfold RowPost at RW
    dsimp only at RW
    rw [hn] at RW hj5
    replace hn := hide hn
    replace hr := hide hr
    replace hj10 := hide hj10
    by_cases hf : fitsP m = true
    · rw [if_pos hf] at hR
      rw [hf] at FI
      unfold MD.val at FI
      replace hR := hide hR
      replace hf := hide hf
      replace FI := hide FI
      have hmod : m.kind % 4294967296 = m.kind := by omega
      go_enter Tryz.func8, Tryz.ntmps8
      go_wp2_with fail
      rw [← hw1]
      replace hw1 := hide hw1
      go_call RW as e w2 ⟨P2, A, rfl, hA⟩
      clear RW
      have K2 := K1.only P2 (by simp)
      have c0 : w2.cell? ⟨w.heap.size, 0, none⟩ = some (.int .i64 m.kind) := K2.cell 0
      have c1 : w2.cell? ⟨w.heap.size, 1, none⟩ = some (.int .u32 m.chan) := K2.cell 1
      have c2 : w2.cell? ⟨w.heap.size, 2, none⟩ = some (.int .u32 m.sender) := K2.cell 2
      have c3 : w2.cell? ⟨w.heap.size, 3, none⟩ = some (.int .u32 m.window) := K2.cell 3
      have c4 : w2.cell? ⟨w.heap.size, 4, none⟩ = some (.int .u32 m.packet) := K2.cell 4
      have c5 : w2.cell? ⟨w.heap.size, 5, none⟩ = some (.int .u32 m.code) := K2.cell 5
      have c6 : w2.cell? ⟨w.heap.size, 6, none⟩ = some (.string m.name) := K2.cell 6
      have c7 : w2.cell? ⟨w.heap.size, 7, none⟩ = some (.string m.lang) := K2.cell 7
      have c8 : w2.cell? ⟨w.heap.size, 8, none⟩ = some (.bool m.want) := K2.cell 8
      have c9 : w2.cell? ⟨w.heap.size, 9, none⟩ = some (.slice m.dA m.data.length m.dc) := K2.cell 9
      replace hA := hide hA
      have FI2 := FI.out w2
      go_wp2_with fail
      go_call FI2 as e w3 ⟨rfl, P3⟩
      clear FI FI2
      have K3 := K2.only P3 (by simp)
      have d0 : w3.cell? ⟨w.heap.size, 0, none⟩ = some (.int .i64 m.kind) := K3.cell 0
      have d1 : w3.cell? ⟨w.heap.size, 1, none⟩ = some (.int .u32 m.chan) := K3.cell 1
      have d2 : w3.cell? ⟨w.heap.size, 2, none⟩ = some (.int .u32 m.sender) := K3.cell 2
      have d3 : w3.cell? ⟨w.heap.size, 3, none⟩ = some (.int .u32 m.window) := K3.cell 3
      have d4 : w3.cell? ⟨w.heap.size, 4, none⟩ = some (.int .u32 m.packet) := K3.cell 4
      have d5 : w3.cell? ⟨w.heap.size, 5, none⟩ = some (.int .u32 m.code) := K3.cell 5
      have d6 : w3.cell? ⟨w.heap.size, 6, none⟩ = some (.string m.name) := K3.cell 6
      have d7 : w3.cell? ⟨w.heap.size, 7, none⟩ = some (.string m.lang) := K3.cell 7
      have d8 : w3.cell? ⟨w.heap.size, 8, none⟩ = some (.bool m.want) := K3.cell 8
      have d9 : w3.cell? ⟨w.heap.size, 9, none⟩ = some (.slice m.dA m.data.length m.dc) := K3.cell 9
      have hlt3 := K3.lt
      obtain ⟨w4, hw4⟩ : ∃ w4, w4 = w3.alloc (.cells #[.int .i64 m.kind, .int .u32 m.chan, .int .u32 m.sender, .int .u32 m.window, .int .u32 m.packet, .int .u32 m.code, .string m.name, .string m.lang, .bool m.want, .slice m.dA m.data.length m.dc] 46) := ⟨_, rfl⟩
      have P4 : Only [] w3 w4 := by rw [hw4]; exact (Only.refl _ _).alloc _
      have K4 : Blk w4 w3.heap.size 46 m.cells := by rw [hw4]; exact Blk.new w3 _ _
      have hs4 : w4.heap.size = w3.heap.size + 1 := by rw [hw4]; simp
      have V5 : OwnF (w4.alloc (.cells #[.int .i64 1, .int .u32 m.kind, .slice none 0 0, .slice none 0 0] 49)) w4.heap.size (.slice (some ⟨w4.heap.size, 0, none⟩) 1 1) [⟨1, m.kind, none, 0, [], none, 0, []⟩] := ownF_one w4 _ _ rfl
      have K5 := K4.alloc (.cells #[.int .i64 1, .int .u32 m.kind, .slice none 0 0, .slice none 0 0] 49)
      have P5 : Only [] w3 (w4.alloc (.cells #[.int .i64 1, .int .u32 m.kind, .slice none 0 0, .slice none 0 0] 49)) := P4.alloc _
      rw [hs4] at V5
      obtain ⟨w5, hw5⟩ : ∃ w5, w5 = w4.alloc (.cells #[.int .i64 1, .int .u32 m.kind, .slice none 0 0, .slice none 0 0] 49) := ⟨_, rfl⟩
      rw [← hw5] at V5 K5 P5
      have Q2 : Only [] w w2 := P1.trans P2 (by simp)
      have Q3 : Only [] w w3 := Q2.trans P3 (by simp)
      have z3 := Q3.size
      have z23 := P3.size
      clear c0 c1 c2 c3 c4 c5 c6 c7 c8 c9 K1 K2 K4
      go_wp2_with fail
      rw [← hw4, ← hw5]
      replace hw4 := hide hw4
      replace hw5 := hide hw5
      clear d0 d1 d2 d3 d4 d5 d6 d7 d8 d9
      go_loopw [34, 7] (fun i o wr => ∃ (k : Nat) (v : Value) (fs : List FD), k ≤ n ∧ i = .int .i64 k ∧ v = o ∧ Hid (fs.map FD.pf = ⟨1, m.kind, [], []⟩ :: (js.take k).map (partP m)) ∧ OwnF wr (w3.heap.size + 1) v fs ∧ (∀ f ∈ fs, FD.ok wr f ∧ f.off v) ∧ (∀ f ∈ fs, 0 ≤ f.n ∧ f.n ≤ 4294967295) ∧ Only [] w3 wr ∧ Blk wr w3.heap.size 46 m.cells) (fun i _ _ => n - (intOf i).toNat)
      case atStart =>
        refine ⟨0, _, [⟨1, m.kind, none, 0, [], none, 0, []⟩], by omega, rfl, rfl, hide rfl, V5, fun f hf => ?_, fun f hf => ?_, P5, K5⟩
        · simp only [List.mem_singleton] at hf
          subst hf
          exact ⟨FD.ok.plain _ _ _, fun a ha => by simp at ha, fun a ha => by simp at ha⟩
        · simp only [List.mem_singleton] at hf
          subst hf
          exact ⟨by dsimp only; omega, by dsimp only; omega⟩
      case round =>
        obtain ⟨wo, rfl⟩ : ∃ wo : World, wo = wr := ⟨_, rfl⟩
        obtain ⟨k, v, fs, hkn, rfl, rfl, hfs, V, M, N, O3, Ko⟩ := hrel
        have hob := V.block
        have zo := O3.size
        have z5 := P5.size
        have hfl : fs.length = k + 1 := by
          have := congrArg List.length hfs.out
          rw [List.length_map, List.length_cons, List.length_map, List.length_take] at this
          have := hn.out
          omega
        by_cases hlt : k < n
        · obtain ⟨j, hj⟩ : ∃ j, js[k]? = some j := ⟨_, List.getElem?_eq_getElem (by have := hn.out; omega)⟩
          have hj9 := hj10.out j (List.mem_of_getElem? hj)
          obtain ⟨gA, hAe, BA⟩ := hA.out (by omega)
          have BAo := (BA.only P3 (by simp)).only O3 (by simp)
          obtain ⟨F, hF, hcF, hC⟩ := get_any j hj9
          obtain ⟨Z, hZ⟩ : ∃ Z, pput j = Z := ⟨_, rfl⟩
          obtain ⟨KJ, hKJ⟩ : ∃ KJ, pk j = KJ := ⟨_, rfl⟩
          have e0 : wo.cell? ⟨gA, k * 3, none⟩ = some (.int .i64 KJ) := by
            rw [BAo.cell, ← Nat.add_zero (k * 3), pcells_at js k j 0 hj (by decide), ← hKJ]; rfl
          have e1 : wo.cell? ⟨gA, k * 3 + 1, none⟩ = some (.func (Fn.func F) #[] #[]) := by
            rw [BAo.cell, pcells_at js k j 1 hj (by decide), ← hF]; rfl
          have e2 : wo.cell? ⟨gA, k * 3 + 2, none⟩ = some (.func (Fn.func Z) #[] #[]) := by
            rw [BAo.cell, pcells_at js k j 2 hj (by decide), ← hZ]; rfl
          have hkind := partP_kind m j hj9
          have hfs2 : (js.take (k + 1)).map (partP m) = (js.take k).map (partP m) ++ [partP m j] := by rw [take_snocG hj, List.map_append]; rfl
          subst hAe
          obtain ⟨w6, hw6⟩ : ∃ w6, w6 = wo.alloc (.cells #[.int .i64 KJ, .func (Fn.func F) #[] #[], .func (Fn.func Z) #[] #[]] 54) := ⟨_, rfl⟩
          have P6 : Only [] wo w6 := by rw [hw6]; exact (Only.refl _ _).alloc _
          have K6 : Blk w6 wo.heap.size 54 [.int .i64 KJ, .func (Fn.func F) #[] #[], .func (Fn.func Z) #[] #[]] := by rw [hw6]; exact Blk.new wo _ _
          have C := hC w6 m w3.heap.size (Ko.only P6 (by simp)) (((hm.only Q3).only O3).only P6) hs hl
          replace hfs := hide hfs
          replace hfs2 := hide hfs2
          replace hkind := hide hkind
          replace hj := hide hj
          replace hKJ := hide hKJ
          replace hF := hide hF
          replace hZ := hide hZ
          replace hfl := hide hfl
          clear hC BAo
          go_wp2_with fail
          rw [← hw6]
          replace hw6 := hide hw6
          go_call C as e w7 ⟨P7, f, rfl, hpf, hta, okf, hfn⟩
          clear C
          have K7 := K6.only P7 (by simp)
          have z6 := P6.size
          have z7 := P7.size
          have k0 : w7.cell? ⟨wo.heap.size, 0, none⟩ = some (.int .i64 KJ) := K7.cell 0
          have k1 : w7.cell? ⟨wo.heap.size, 1, none⟩ = some (.func (Fn.func F) #[] #[]) := K7.cell 1
          have k2 : w7.cell? ⟨wo.heap.size, 2, none⟩ = some (.func (Fn.func Z) #[] #[]) := K7.cell 2
          have hq7 := K7.lt
          have hq7' : ¬ wo.heap.size = w7.heap.size := by omega
          have hpl := partP_list m j hj9
          obtain ⟨fk, fn, ftA, ftc, ftx, flA, flc, fls⟩ := f
          have hfk : fk = 0 := congrArg PF.kind hpf
          have hfls : fls = [] := by
            have : fls = (partP m j).list := congrArg PF.list hpf
            rw [this, hpl]
          subst hfk
          have hgpf : FD.pf ⟨KJ, fn, ftA, ftc, ftx, flA, flc, fls⟩ = partP m j := by
            have e1 : fn = (partP m j).n := congrArg PF.n hpf
            have e2 : ftx = (partP m j).text := congrArg PF.text hpf
            have e3 : fls = (partP m j).list := congrArg PF.list hpf
            have e4 : KJ = (partP m j).kind := by rw [hkind.out, hKJ.out]
            unfold FD.pf
            dsimp only
            rw [e1, e2, e3, e4]
          have X13 : Only [] wo ((w7.alloc (.cells #[.int .i64 KJ, .int .u32 fn, .slice ftA ftx.length ftc, .slice flA fls.length flc] 49)).alloc (.cells #[.int .i64 KJ, .int .u32 fn, .slice ftA ftx.length ftc, .slice flA fls.length flc] 49)) := ((P6.trans P7 (by simp)).alloc _).alloc _
          have V13 : OwnF ((w7.alloc (.cells #[.int .i64 KJ, .int .u32 fn, .slice ftA ftx.length ftc, .slice flA fls.length flc] 49)).alloc (.cells #[.int .i64 KJ, .int .u32 fn, .slice ftA ftx.length ftc, .slice flA fls.length flc] 49)) (w3.heap.size + 1) v fs := V.far X13 (fun x hx => by simp at hx)
          have B13 : Blk ((w7.alloc (.cells #[.int .i64 KJ, .int .u32 fn, .slice ftA ftx.length ftc, .slice flA fls.length flc] 49)).alloc (.cells #[.int .i64 KJ, .int .u32 fn, .slice ftA ftx.length ftc, .slice flA fls.length flc] 49)) (w7.heap.size + 1) 49 (FD.cells ⟨KJ, fn, ftA, ftc, ftx, flA, flc, fls⟩) := by
            have := Blk.new (w7.alloc (.cells #[.int .i64 KJ, .int .u32 fn, .slice ftA ftx.length ftc, .slice flA fls.length flc] 49)) 49 [.int .i64 KJ, .int .u32 fn, .slice ftA ftx.length ftc, .slice flA fls.length flc]
            rw [show (w7.alloc (.cells #[.int .i64 KJ, .int .u32 fn, .slice ftA ftx.length ftc, .slice flA fls.length flc] 49)).heap.size = w7.heap.size + 1 by simp] at this
            exact this
          have hbase : w3.heap.size + 1 ≤ ((w7.alloc (.cells #[.int .i64 KJ, .int .u32 fn, .slice ftA ftx.length ftc, .slice flA fls.length flc] 49)).alloc (.cells #[.int .i64 KJ, .int .u32 fn, .slice ftA ftx.length ftc, .slice flA fls.length flc] 49)).heap.size := by have := X13.size; have := Ko.lt; omega
          have okg : FD.ok ((w7.alloc (.cells #[.int .i64 KJ, .int .u32 fn, .slice ftA ftx.length ftc, .slice flA fls.length flc] 49)).alloc (.cells #[.int .i64 KJ, .int .u32 fn, .slice ftA ftx.length ftc, .slice flA fls.length flc] 49)) ⟨KJ, fn, ftA, ftc, ftx, flA, flc, fls⟩ := (FD.ok.with okf KJ fn).only (((Only.refl [] w7).alloc _).alloc _)
          have offg : FD.off ⟨KJ, fn, ftA, ftc, ftx, flA, flc, fls⟩ v := by
            refine ⟨fun a ha h0 hv => ?_, fun a ha h0 hv => ?_⟩
            · have h1 := hob _ hv
              dsimp only at ha h0
              rcases hta with h | h
              · obtain ⟨h1', h2'⟩ := h
                dsimp only at h1' h2'
                rw [h1'] at ha
                rw [h2'] at h0
                have := RdG.lt (mk := .int .u8) hm.data h0 a ha
                omega
              · have := h a ha
                omega
            · dsimp only at h0
              rw [hfls] at h0
              simp at h0
          have hfew : fs.length < 1000000 := by have := hfl.out; omega
          replace hpf := hide hpf
          replace hta := hide hta
          replace okf := hide okf
          replace hgpf := hide hgpf
          replace offg := hide offg
          replace hfls := hide hfls
          replace hpl := hide hpl
          unfold FD.val
          dsimp only
          go_wp2_with (at_builtin; go_must (refine wpList_appF rfl (.tmp 45) (.tmp 47) rfl (w3.heap.size + 1) v fs rfl V13 (w7.heap.size + 1) ⟨KJ, fn, ftA, ftc, ftx, flA, flc, fls⟩ rfl B13 hfew hbase ?_; intro A14 k14 w14 V14 P14 G14))
          go_roundw
          case rel =>
            have K14 := ((Ko.only X13 (by simp)).only P14 (fun hx => by have := (hob _ (by simpa using hx)).1; omega))
            refine ⟨k + 1, _, fs ++ [⟨KJ, fn, ftA, ftc, ftx, flA, flc, fls⟩], by omega, by go_num, rfl, hide ?_, V14.out, ok_snoc X13 P14 G14.out M okg offg.out, fun f hf => ?_, (O3.trans X13 (by simp)).trans P14 (fun x hx => .inr (by have := (hob x (by simpa using hx)).1; omega)), K14⟩
            · rw [List.map_append, List.map_cons, List.map_nil, hgpf.out, hfs.out.out, hfs2.out]
              rfl
            · rcases List.mem_append.1 hf with hf | hf
              · exact N f hf
              · simp only [List.mem_singleton] at hf
                rw [hf]
                exact hfn
          case measure => simp [intOf]; omega
        · obtain rfl : k = n := by omega
          have hmap : fs.map FD.pf = ⟨1, m.kind, [], []⟩ :: js.map (partP m) := by
            rw [hfs.out, List.take_of_length_le (by have := hn.out; omega)]
          obtain ⟨A', cap, rfl, _, _, _⟩ := V.form
          have RF := V.rdF (fun f hf => ⟨(M f hf).1, N f hf⟩)
          have WR := write_any wo A' fs cap RF (by omega)
          rw [hmap, hR.out] at WR
          have hz : w.heap.size ≤ wo.heap.size := by omega
          replace hmap := hide hmap
          replace hfl := hide hfl
          go_wp2_with fail
          go_call WR as e w9 ⟨P9, v9, rfl, V9⟩
          go_wp2_with fail
          go_ret2
          exact ⟨(Q3.trans O3 (by simp)).trans P9 (by simp), v9, rfl, V9.mono hz⟩
    · have hf' : fitsP m = false := by simpa using hf
      rw [if_neg hf] at hR
      rw [hf'] at FI
      unfold MD.val at FI
      replace hR := hide hR
      replace FI := hide FI
      clear hf hf'
      go_enter Tryz.func8, Tryz.ntmps8
      go_wp2_with fail
      rw [← hw1]
      replace hw1 := hide hw1
      go_call RW as e w2 ⟨P2, A, rfl, hA⟩
      clear RW
      have K2 := K1.only P2 (by simp)
      have c0 : w2.cell? ⟨w.heap.size, 0, none⟩ = some (.int .i64 m.kind) := K2.cell 0
      have c1 : w2.cell? ⟨w.heap.size, 1, none⟩ = some (.int .u32 m.chan) := K2.cell 1
      have c2 : w2.cell? ⟨w.heap.size, 2, none⟩ = some (.int .u32 m.sender) := K2.cell 2
      have c3 : w2.cell? ⟨w.heap.size, 3, none⟩ = some (.int .u32 m.window) := K2.cell 3
      have c4 : w2.cell? ⟨w.heap.size, 4, none⟩ = some (.int .u32 m.packet) := K2.cell 4
      have c5 : w2.cell? ⟨w.heap.size, 5, none⟩ = some (.int .u32 m.code) := K2.cell 5
      have c6 : w2.cell? ⟨w.heap.size, 6, none⟩ = some (.string m.name) := K2.cell 6
      have c7 : w2.cell? ⟨w.heap.size, 7, none⟩ = some (.string m.lang) := K2.cell 7
      have c8 : w2.cell? ⟨w.heap.size, 8, none⟩ = some (.bool m.want) := K2.cell 8
      have c9 : w2.cell? ⟨w.heap.size, 9, none⟩ = some (.slice m.dA m.data.length m.dc) := K2.cell 9
      replace hA := hide hA
      have FI2 := FI.out w2
      go_wp2_with fail
      go_call FI2 as e w3 ⟨rfl, P3⟩
      go_wp2_with fail
      go_ret2
      rw [← hR.out]
      exact writePost_none _ _ _ ((P1.trans P2 (by simp)).trans P3 (by simp))
end Go.Proofs.YtdmjabfjkkjhbaaGreatDoor

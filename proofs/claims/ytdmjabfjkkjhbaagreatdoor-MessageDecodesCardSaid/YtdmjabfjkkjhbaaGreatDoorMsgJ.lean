/- Layer 3: Decode; no condition but the number of bytes. -/
import Derived.Test.YtdmjabfjkkjhbaaGreatDoorMsgI
import Derived.Test.YtdmjabfjkkjhbaaGreatDoorOctQ
import Derived.Test.YtdmjabfjkkjhbaaGreatDoorOctV
import Derived.Test.YtdmjabfjkkjhbaaGreatDoorAppI
namespace Go.Proofs.YtdmjabfjkkjhbaaGreatDoor
set_option linter.all false
open Go.RowKit

theorem results_dec {fn : Func} {p t : Tmp} (h : fn.results = #[.cell p 25, .tmp t]) (tmps : Array Value) (w : World) (g : Nat) (cs : Array Value) (hs : cs.size = 10)
    (hp : tmps.getD p undef = .pointer (some ⟨g, 0, none⟩)) (hg : w.heap[g]? = some (.cells cs 25 (0, 0))) :
    (results fn tmps).run Tryz.prog w = .ok (.tuple #[.agg cs, tmps.getD t undef]) w := by
  have hp' : tmps[p]?.getD undef = .pointer (some ⟨g, 0, none⟩) := by simpa using hp
  simp [results, h, hp', asAddr, run_loadVar_row w g 25 25 cs (0, 0) _ hg Tryz.underlying25 rfl (by rw [hs]; kernel_rfl)]
theorem ret_dec {fn : Func} {p t : Tmp} {R : Ending → World → Prop} {a : Act} {w : World} {g : Nat} {m : MD} (h : fn.results = #[.cell p 25, .tmp t]) (hp : a.tmps.getD p undef = .pointer (some ⟨g, 0, none⟩)) (hd : a.defers = [])
    (hg : Blk w g 25 m.cells) (hR : R (.returned (.tuple #[m.val, a.tmps.getD t undef])) w) : bodyPost Tryz.prog fn R .ret a w :=
  bodyPost_ret (results_dec h _ w g m.cells.toArray rfl hp hg) hd hR
def zeroM : MD := ⟨0, 0, 0, 0, 0, 0, ⟨#[]⟩, ⟨#[]⟩, false, none, 0, []⟩
def firstM (k : Int) : MD := { zeroM with kind := k }
def putAll (m : MD) : List Nat → List FD → MD
  | j :: js, f :: fs => putAll (putM m j f) js fs
  | _, _ => m
/-- A message's bytes can be written. -/
def MSoft (m : MD) (w : World) : Prop := ∀ a, m.dA = some a → ∀ i, i < m.data.length → w.frozen? (a.add i) = false
theorem MSoft.onlyL {w w' : World} {m : MD} {L : List Nat} (h : MSoft m w) (ho : m.ok w) (hb : Only L w w') (hL : ∀ a, m.dA = some a → 0 < m.data.length → a.block ∉ L) : MSoft m w' := by
  intro a ha i hi
  obtain ⟨b, off, e, hlt, _⟩ := ho.data (by omega)
  rw [ha] at e
  injection e with e
  refine (World.frozen?_of_block (w := w) ?_).trans (h a ha i hi)
  rw [block_add]
  exact hb.block _ (by rw [e]; exact hlt) (hL a ha (by omega))
theorem putM_soft {w : World} {m : MD} {f : FD} (j : Nat) (h : MSoft m w) (hf : f.soft w) : MSoft (putM m j f) w := by
  unfold putM
  split
  · exact h
  · exact hf
  · exact h
  · exact h
  · exact h
  · exact hf
  · exact h
  · exact h
  · exact h
  · exact h
/-- What Decode hands on. -/
def DecPost (w : World) (l : List Int) : Ending → World → Prop := fun e w' => Only [] w w' ∧ ∃ (m : MD) (E : Int), e = .returned (.tuple #[m.val, .int .i64 E]) ∧ m.ok w' ∧ (∀ a, m.dA = some a → w.heap.size ≤ a.block) ∧ MSoft m w' ∧
  match l with
  | [] => E = 3 ∧ m = zeroM
  | k :: _ => match rowL k with
    | none => E = 8 ∧ m = zeroM
    | some js => if (readP (1 :: js.map pk) l).1 ≠ 0 then E = (readP (1 :: js.map pk) l).1 ∧ m = zeroM
      else ∃ fs : List FD, fs.map FD.pf = (readP (1 :: js.map pk) l).2 ∧ if fitsP (putAll (firstM k) js fs.tail) then E = 0 ∧ m = putAll (firstM k) js fs.tail else E = 4 ∧ m = zeroM
theorem zero_ok (w : World) : zeroM.ok w := ⟨RdG.nil, by simp [zeroM], by simp [zeroM], by simp [zeroM], by simp [zeroM, U32], Nat.zero_le _, Nat.zero_le _⟩

theorem ownI_one (w : World) (x : Int) : OwnI (w.alloc (.cells #[.int .i64 x] 3)) w.heap.size (.slice (some ⟨w.heap.size, 0, none⟩) 1 1) [x] := by
  refine ⟨by simp [ints], .inr ⟨w.heap.size, 1, #[.int .i64 x], rfl, Nat.le_refl _, heap_alloc_new w (.cells #[.int .i64 x] 3), by simp, by simp [maxLen], by simp, by simp [ints]⟩⟩
/-- The result set. -/
def mset (w : World) (q : Nat) (m : MD) : World := ((((((((((w.setCell ⟨q, 0, none⟩ (.int .i64 m.kind)).setCell ⟨q, 1, none⟩ (.int .u32 m.chan)).setCell ⟨q, 2, none⟩ (.int .u32 m.sender)).setCell ⟨q, 3, none⟩ (.int .u32 m.window)).setCell ⟨q, 4, none⟩ (.int .u32 m.packet)).setCell ⟨q, 5, none⟩ (.int .u32 m.code)).setCell ⟨q, 6, none⟩ (.string m.name)).setCell ⟨q, 7, none⟩ (.string m.lang)).setCell ⟨q, 8, none⟩ (.bool m.want)).setCell ⟨q, 9, none⟩ (.slice m.dA m.data.length m.dc))
theorem msetB {w : World} {q : Nat} {m0 : MD} (m : MD) (K : Blk w q 25 m0.cells) : Blk (mset w q m) q 25 m.cells := ((((((((((K.set_ 0 _).set_ 1 _).set_ 2 _).set_ 3 _).set_ 4 _).set_ 5 _).set_ 6 _).set_ 7 _).set_ 8 _).set_ 9 _)
theorem msetO {L : List Nat} {w0 w : World} {q : Nat} (m : MD) (hq : q ∈ L ∨ w0.heap.size ≤ q) (h : Only L w0 w) : Only L w0 (mset w q m) :=
  ((((((((((h.setCell (p := ⟨q, 0, none⟩) hq _).setCell (p := ⟨q, 1, none⟩) hq _).setCell (p := ⟨q, 2, none⟩) hq _).setCell (p := ⟨q, 3, none⟩) hq _).setCell (p := ⟨q, 4, none⟩) hq _).setCell (p := ⟨q, 5, none⟩) hq _).setCell (p := ⟨q, 6, none⟩) hq _).setCell (p := ⟨q, 7, none⟩) hq _).setCell (p := ⟨q, 8, none⟩) hq _).setCell (p := ⟨q, 9, none⟩) hq _)
theorem zsetB {w : World} {q : Nat} (K : Blk w q 25 zeroM.cells) : Blk (mset w q zeroM) q 25 zeroM.cells := msetB zeroM K
theorem zsetO {w0 w : World} {q : Nat} (hq : w0.heap.size ≤ q) (h : Only [] w0 w) : Only [] w0 (mset w q zeroM) := msetO zeroM (.inr hq) h
theorem rText_inb {l : List Int} (hl : InB l) : InB (rText l).text := by
  unfold rText rTextN rShort
  split
  · exact fun x hx => by simp at hx
  · split
    · exact fun x hx => by simp at hx
    · split
      · exact fun x hx => by simp at hx
      · exact (hl.drop 4).take _
theorem kind_inb (k : Nat) (h6 : k ≤ 6) (l : List Int) (hl : InB l) : InB (rKind k l).text := by
  have z : InB [] := fun x hx => by simp at hx
  have ho : (rOctet l).text = [] := by unfold rOctet rShort; split <;> rfl
  have hk : k = 0 ∨ k = 1 ∨ k = 2 ∨ k = 3 ∨ k = 4 ∨ k = 5 ∨ k = 6 := by omega
  rcases hk with rfl | rfl | rfl | rfl | rfl | rfl | rfl
  · exact hl
  · rw [rKind_1, ho]; exact z
  · rw [rKind_2, show (rFlag l).text = (rOctet l).text from rfl, ho]; exact z
  · rw [rKind_3]; unfold rNumber rShort; split <;> exact z
  · rw [rKind_4]; exact rText_inb hl
  · rw [rKind_5]; unfold rNames rNamesT; split; exact z; split <;> exact z
  · rw [rKind_6]; exact hl
theorem readFrom_inb : ∀ (ks l : List Int) (acc : List PF), (∀ k ∈ ks, 1 ≤ k ∧ k ≤ 6) → InB l → (∀ p ∈ acc, InB p.text) → ∀ p ∈ (readFrom ks l acc).2, InB p.text
  | [], l, acc, _, _, ha => by
    unfold readFrom
    split
    · exact fun p hp => by simp at hp
    · exact ha
  | k :: ks, l, acc, hk, hl, ha => by
    have h16 := hk k (by simp)
    unfold readFrom
    split
    · exact fun p hp => by simp at hp
    · obtain ⟨n, hn⟩ := rKind_rest k.toNat l
      refine readFrom_inb ks _ _ (fun k hk2 => hk k (by simp [hk2])) (by rw [hn]; exact hl.drop n) (fun p hp => ?_)
      rcases List.mem_append.1 hp with hp | hp
      · exact ha p hp
      · simp at hp
        subst hp
        exact kind_inb _ (by omega) l hl
theorem readP_good (ks l : List Int) (hl : InB l) (h : (readP ks l).1 = 0) : (readP ks l).2.map (·.kind) = ks ∧ ∀ p ∈ (readP ks l).2, U32 p.n ∧ InB p.text := by
  unfold readP at h ⊢
  split at h
  · rename_i hr
    rw [if_pos hr]
    have h2 := readFrom_inb ks l [] (rowOk_range hr) hl (fun p hp => by simp at hp)
    rcases readFrom_again ks l [] (rowOk_range hr) hl with e | ⟨_, ps, e1, e2, e3, _⟩
    · exact absurd h e.1
    · rw [e1] at h2 ⊢
      refine ⟨by simpa using e2, fun p hp => ⟨(e3 p (by simpa using hp)).2, h2 p hp⟩⟩
  · cases h
theorem MD.ok.onlyL {w w' : World} {q : Nat} {m : MD} (h : m.ok w) (hb : Only [q] w w') (hn : ∀ a, m.dA = some a → 0 < m.data.length → a.block < q) : m.ok w' :=
  { h with data := h.data.onlyL hb (fun a ha h0 => by have := hn a ha h0; simp; omega) }
theorem str_size (l : List Int) : (strOfNums l).size = l.length := by
  show (strOfNums l).data.size = _
  rw [← Array.length_toList, strOfNums_data, List.length_map]
theorem putM_ok {w : World} {m : MD} {f : FD} (j : Nat) (h : m.ok w) (hf : f.ok w) (hn : U32 f.n) (hb : InB f.text) : (putM m j f).ok w := by
  obtain ⟨n1, n2, n3, n4, n5⟩ := h.nums
  have hs : (strOfNums f.text).size ≤ maxLen := by rw [str_size]; exact Nat.le_trans hf.tle hf.tmax
  unfold putM
  split
  · exact { h with nums := ⟨n1, n2, n3, n4, hn⟩ }
  · exact { h with data := hf.text, dle := hf.tle, dmax := hf.tmax, bytes := hb }
  · exact { h with lang := hs }
  · exact { h with name := hs }
  · exact { h with }
  · exact { h with data := hf.text, dle := hf.tle, dmax := hf.tmax, bytes := hb }
  · exact { h with nums := ⟨n1, hn, n3, n4, n5⟩ }
  · exact { h with nums := ⟨n1, n2, hn, n4, n5⟩ }
  · exact { h with nums := ⟨n1, n2, n3, hn, n5⟩ }
  · exact { h with nums := ⟨hn, n2, n3, n4, n5⟩ }
def MG (m : MD) (B q : Nat) : Prop := ∀ a, m.dA = some a → B ≤ a.block ∧ (0 < m.data.length → a.block < q)
theorem putM_mg {m : MD} {f : FD} {B q : Nat} (j : Nat) (h : MG m B q) (hf : ∀ a, f.tA = some a → B ≤ a.block) (hl : ∀ a, f.tA = some a → 0 < f.text.length → a.block < q) : MG (putM m j f) B q := by
  have hx : MG { m with dA := f.tA, dc := f.tc, data := f.text } B q := fun a ha => ⟨hf a ha, hl a ha⟩
  unfold putM
  split
  · exact h
  · exact hx
  · exact h
  · exact h
  · exact h
  · exact hx
  · exact h
  · exact h
  · exact h
  · exact h
theorem first_ok (w : World) (k : Int) : (firstM k).ok w := { zero_ok w with }
set_option maxRecDepth 100000 in
set_option maxHeartbeats 6400000 in
theorem decode_any (A : Option Addr) (l : List Int) (c : Nat) (i0 : Int) (w : World) (hm : w.cell? ⟨0, 0, none⟩ = some (.int .i64 i0)) (h : Rd w A l) (hl : ∀ x ∈ l, 0 ≤ x ∧ x < 256) (hln : l.length ≤ 140737488355000) (hlc : l.length ≤ c) (hlm : c ≤ maxLen) (hal : ∀ a, A = some a → a.block < w.heap.size) :
    Calls Tryz.prog 12 #[.slice A l.length c] w (DecPost w l) := by
  cases l with
  | nil =>
    go_enter Tryz.func12, Tryz.ntmps12
    go_wp2_with fail
    (try simp only [Exit.inBlock, Exit.then])
    refine ret_dec (g := w.heap.size) (m := zeroM) rfl (by rfl) (by rfl) (Blk.new w 25 zeroM.cells) ?_
    exact ⟨(Only.refl _ _).alloc _, zeroM, 3, rfl, zero_ok _, fun a ha => by simp [zeroM] at ha, fun a ha => by simp [zeroM] at ha, rfl, rfl⟩
  | cons k t =>
    obtain ⟨b, off, y, rfl, hb, hy, cx⟩ := RdG.at (mk := .int .u8) h 0 (by simp)
    simp at hy
    subst hy
    rw [Nat.add_zero] at cx
    have hk := hl k (by simp)
    obtain ⟨ln, hn⟩ : ∃ ln, (k :: t).length = ln := ⟨_, rfl⟩
    have hn1 : 1 ≤ ln := by rw [← hn]; simp
    have hn0 : ((ln : Int) == 0) = false := by simp; omega
    have i2 : (0 : Int) < (ln : Int) := by omega
    obtain ⟨w1, hw1⟩ : ∃ w1, w1 = w.alloc (.cells #[.int .i64 0, .int .u32 0, .int .u32 0, .int .u32 0, .int .u32 0, .int .u32 0, .string ⟨#[]⟩, .string ⟨#[]⟩, .bool false, .slice none 0 0] 25) := ⟨_, rfl⟩
    have P1 : Only [] w w1 := by rw [hw1]; exact (Only.refl _ _).alloc _
    have K1 : Blk w1 w.heap.size 25 zeroM.cells := by rw [hw1]; exact Blk.new w _ _
    have RW := mrow_any k w1
    rw [hn] at hln hlc ⊢
    replace hn := hide hn
    cases hr : rowL k with
    | none =>
      rw [hr] at RW
      replace hr := hide hr
      go_enter Tryz.func12, Tryz.ntmps12
      go_wp2_with fail
      rw [← hw1]
      replace hw1 := hide hw1
      go_call RW as e w2 ⟨P2, rfl⟩
      have K2 := K1.only P2 (by simp)
      have g0 : w2.cell? ⟨w.heap.size, 0, none⟩ = some (.int .i64 0) := K2.cell 0
      have f0 := K2.frozen 0
      have g1 : w2.cell? ⟨w.heap.size, 1, none⟩ = some (.int .u32 0) := K2.cell 1
      have f1 := K2.frozen 1
      have g2 : w2.cell? ⟨w.heap.size, 2, none⟩ = some (.int .u32 0) := K2.cell 2
      have f2 := K2.frozen 2
      have g3 : w2.cell? ⟨w.heap.size, 3, none⟩ = some (.int .u32 0) := K2.cell 3
      have f3 := K2.frozen 3
      have g4 : w2.cell? ⟨w.heap.size, 4, none⟩ = some (.int .u32 0) := K2.cell 4
      have f4 := K2.frozen 4
      have g5 : w2.cell? ⟨w.heap.size, 5, none⟩ = some (.int .u32 0) := K2.cell 5
      have f5 := K2.frozen 5
      have g6 : w2.cell? ⟨w.heap.size, 6, none⟩ = some (.string ⟨#[]⟩) := K2.cell 6
      have f6 := K2.frozen 6
      have g7 : w2.cell? ⟨w.heap.size, 7, none⟩ = some (.string ⟨#[]⟩) := K2.cell 7
      have f7 := K2.frozen 7
      have g8 : w2.cell? ⟨w.heap.size, 8, none⟩ = some (.bool false) := K2.cell 8
      have f8 := K2.frozen 8
      have g9 : w2.cell? ⟨w.heap.size, 9, none⟩ = some (.slice none 0 0) := K2.cell 9
      have f9 := K2.frozen 9
      go_wp2_with fail
      (try simp only [Exit.inBlock, Exit.then])
      refine ret_dec (g := w.heap.size) (m := zeroM) rfl (by rfl) (by rfl) (zsetB K2) ?_
      refine ⟨zsetO (Nat.le_refl _) (P1.trans P2 (by simp)), zeroM, 8, rfl, zero_ok _, fun a ha => by simp [zeroM] at ha, fun a ha => by simp [zeroM] at ha, ?_⟩
      show (match rowL k with | none => _ | some js => _)
      rw [hr.out]
      exact ⟨rfl, rfl⟩
    | some js =>
      rw [hr] at RW
      obtain ⟨_, _, hj5, hj10⟩ := rowL_range hr
      obtain ⟨n, hnj⟩ : ∃ n, js.length = n := ⟨_, rfl⟩
      unfold RowPost at RW
      dsimp only at RW
      rw [hnj] at RW hj5
      replace hnj := hide hnj
      replace hr := hide hr
      replace hj10 := hide hj10
      go_enter Tryz.func12, Tryz.ntmps12
      go_wp2_with fail
      rw [← hw1]
      replace hw1 := hide hw1
      go_call RW as e w2 ⟨P2, A, rfl, hA⟩
      clear RW
      have K2 := K1.only P2 (by simp)
      have V3 : OwnI (w2.alloc (.cells #[.int .i64 1] 3)) w2.heap.size (.slice (some ⟨w2.heap.size, 0, none⟩) 1 1) [1] := ownI_one w2 1
      have P3 : Only [] w2 (w2.alloc (.cells #[.int .i64 1] 3)) := (Only.refl _ _).alloc _
      replace hA := hide hA
      go_wp2_with fail
      go_loopw [32, 6] (fun i o wr => ∃ (k : Nat) (v : Value), k ≤ n ∧ i = .int .i64 k ∧ v = o ∧ OwnI wr w2.heap.size v (1 :: (js.take k).map pk) ∧ Only [] w2 wr) (fun i _ _ => n - (intOf i).toNat)
      case atStart => exact ⟨0, _, by omega, rfl, rfl, V3, P3⟩
      case round =>
        obtain ⟨wo, rfl⟩ : ∃ wo : World, wo = wr := ⟨_, rfl⟩
        obtain ⟨kk, v, hkn, rfl, rfl, V, O⟩ := hrel
        have hob := V.block
        have zo := O.size
        by_cases hlt : kk < n
        · obtain ⟨j, hj⟩ : ∃ j, js[kk]? = some j := ⟨_, List.getElem?_eq_getElem (by have := hnj.out; omega)⟩
          obtain ⟨gA, hAe, BA⟩ := hA.out (by omega)
          have BAo := BA.only O (by simp)
          obtain ⟨F, hF, _⟩ := get_any j (hj10.out j (List.mem_of_getElem? hj))
          obtain ⟨Z, hZ⟩ : ∃ Z, pput j = Z := ⟨_, rfl⟩
          obtain ⟨KJ, hKJ⟩ : ∃ KJ, pk j = KJ := ⟨_, rfl⟩
          have e0 : wo.cell? ⟨gA, kk * 3, none⟩ = some (.int .i64 KJ) := by
            rw [BAo.cell, ← Nat.add_zero (kk * 3), pcells_at js kk j 0 hj (by decide), ← hKJ]; rfl
          have e1 : wo.cell? ⟨gA, kk * 3 + 1, none⟩ = some (.func (Fn.func F) #[] #[]) := by
            rw [BAo.cell, pcells_at js kk j 1 hj (by decide), ← hF]; rfl
          have e2 : wo.cell? ⟨gA, kk * 3 + 2, none⟩ = some (.func (Fn.func Z) #[] #[]) := by
            rw [BAo.cell, pcells_at js kk j 2 hj (by decide), ← hZ]; rfl
          have hks : (1 :: (js.take (kk + 1)).map pk) = (1 :: (js.take kk).map pk) ++ [KJ] := by rw [take_snocG hj, List.map_append, ← hKJ]; rfl
          have hll : (1 :: (js.take kk).map pk).length = kk + 1 := by rw [List.length_cons, List.length_map, List.length_take]; have := hnj.out; omega
          subst hAe
          have X5 : Only [] wo ((wo.alloc (.cells #[.int .i64 KJ, .func (Fn.func F) #[] #[], .func (Fn.func Z) #[] #[]] 54)).alloc (.cells #[.int .i64 KJ] 3)) := ((Only.refl _ _).alloc _).alloc _
          have R5 : RdI ((wo.alloc (.cells #[.int .i64 KJ, .func (Fn.func F) #[] #[], .func (Fn.func Z) #[] #[]] 54)).alloc (.cells #[.int .i64 KJ] 3)) (some ⟨wo.heap.size + 1, 0, none⟩) [KJ] := by
            have := rdI_new (wo.alloc (.cells #[.int .i64 KJ, .func (Fn.func F) #[] #[], .func (Fn.func Z) #[] #[]] 54)) #[.int .i64 KJ] [KJ] rfl
            rw [show (wo.alloc (.cells #[.int .i64 KJ, .func (Fn.func F) #[] #[], .func (Fn.func Z) #[] #[]] 54)).heap.size = wo.heap.size + 1 by simp] at this
            exact this
          have V5 := V.far X5 (fun x hx => by simp at hx)
          obtain ⟨ks, hksv⟩ : ∃ ks, (1 :: (js.take kk).map pk) = ks := ⟨_, rfl⟩
          rw [hksv] at V5 hll hks
          replace hks := hide hks
          replace hksv := hide hksv
          replace hll := hide hll
          replace hj := hide hj
          replace hF := hide hF
          replace hZ := hide hZ
          replace hKJ := hide hKJ
          clear BAo
          go_wp2_with (at_builtin; go_must (refine wpList_appI rfl (.tmp 36) (.tmp 39) rfl w2.heap.size v ks rfl V5 (some ⟨wo.heap.size + 1, 0, none⟩) 1 [KJ] _ rfl rfl R5 (by have := hll.out; rw [this]; simp; omega) (by simp; omega) ?_; intro v9 w9 V9 P9))
          go_roundw
          case rel =>
            refine ⟨kk + 1, _, by omega, by go_num, rfl, ?_, (O.trans X5 (by simp)).trans P9 (fun x hx => .inr (hob x (by simpa using hx)).1)⟩
            rw [hks.out]
            exact V9.out
          case measure => simp [intOf]; omega
        · have hkn3 : kk = n := by omega
          subst hkn3
          have hln2 := hln
          have hkl : (1 :: (js.take kk).map pk).length = kk + 1 := by rw [List.length_cons, List.length_map, List.length_take]; have := hnj.out; omega
          have htk : js.take kk = js := List.take_of_length_le (by have := hnj.out; omega)
          rw [htk] at V hkl
          obtain ⟨Ak, ck, rfl, Rk, hck, hcm, hAk⟩ := V.rd
          have OA : Only [] w wo := (P1.trans P2 (by simp)).trans O (by simp)
          have h0 : 0 < w.heap.size := Nat.pos_of_ne_zero (fun e => by
            have := block_lt_of_cell hm
            simp only at this
            omega)
          have hm' : wo.cell? ⟨0, 0, none⟩ = some (.int .i64 i0) := cellL OA h0 (by simp) hm
          have RD := read_any wo Ak (some ⟨b, off, none⟩) (1 :: js.map pk) (k :: t) ck c i0 hm' Rk (h.only OA) hl (by rw [hkl]; omega) (by rw [hn.out]; exact hln) (by rw [hn.out]; exact hlc) hlm (fun a ha => by have := hal a ha; have := OA.size; omega)
          obtain ⟨res, hres⟩ : ∃ res, readP (1 :: js.map pk) (k :: t) = res := ⟨_, rfl⟩
          obtain ⟨E, ps⟩ := res
          rw [hres, hn.out, hkl] at RD
          rw [hkl]
          obtain ⟨ks, hks⟩ : ∃ ks, 1 :: js.map pk = ks := ⟨_, rfl⟩
          rw [hks] at hres
          have hgood := readP_good ks (k :: t) hl
          replace hres := hide hres
          replace hgood := hide hgood
          replace hks := hide hks
          have KO := K2.only O (by simp)
          have cxo := cellL OA hb (by simp) cx
          have zA := OA.size
          clear V3 P3 V Rk
          go_wp2_with fail
          go_call RD as e w4 ⟨P4, Af, cf, fs, rfl, hfs, V4, H4⟩
          clear RD
          have K4 := KO.only P4 (by simp)
          have OA4 := OA.trans P4 (by simp)
          by_cases hE : E = 0
          · subst hE
            have hE2 : ((0 : Int) != 0) = false := rfl
            dsimp only at hfs
            obtain ⟨hg1, hg2⟩ := hgood.out (by rw [hres.out])
            rw [hres.out] at hg1 hg2
            dsimp only at hg1 hg2
            have hfl : fs.length = kk + 1 := by
              have h1 := congrArg List.length hg1
              rw [← hks.out, ← hfs, List.length_map, List.length_map, hkl] at h1
              exact h1
            have hff : ∀ f ∈ fs, U32 f.n ∧ InB f.text := fun f hf => hg2 f.pf (by rw [← hfs]; exact List.mem_map_of_mem hf)
            have RF : RdF w4 Af fs := V4.rdF (fun f hf => ⟨(H4 f hf).1.ok, (hff f hf).1⟩)
            obtain ⟨bF, offF, rfl, hbF, hcF⟩ := RF.cells (by omega)
            have cx4 := cellL P4 (Nat.lt_of_lt_of_le hb OA.size) (by simp) cxo
            obtain ⟨w5, hw5⟩ : ∃ w5, w5 = w4.alloc (.cells #[.int .i64 k, .int .u32 0, .int .u32 0, .int .u32 0, .int .u32 0, .int .u32 0, .string ⟨#[]⟩, .string ⟨#[]⟩, .bool false, .slice none 0 0] 46) := ⟨_, rfl⟩
            have P5 : Only [] w4 w5 := by rw [hw5]; exact (Only.refl _ _).alloc _
            have K5 : Blk w5 w4.heap.size 46 (firstM k).cells := by rw [hw5]; exact Blk.new w4 _ _
            have KR5 := K4.only P5 (by simp)
            have OA5 := OA4.trans P5 (by simp)
            obtain ⟨RES, hRES⟩ : ∃ RES, putAll (firstM k) js fs.tail = RES := ⟨_, rfl⟩
            rw [hfl]
            replace hfl := hide hfl
            replace hfs := hide hfs
            replace hg1 := hide hg1
            replace hRES := hide hRES
            clear V4 RF hg2
            go_wp2_with fail
            rw [← hw5]
            replace hw5 := hide hw5
            go_loopw [61] (fun i wr => ∃ (k2 : Nat) (M : MD), k2 ≤ kk ∧ i = .int .i64 k2 ∧ Only [w4.heap.size] w5 wr ∧ Blk wr w4.heap.size 46 M.cells ∧ putAll M (js.drop k2) (fs.drop (k2 + 1)) = RES ∧ M.ok wr ∧ MG M (w.heap.size + 1) w4.heap.size ∧ MSoft M wr) (fun i _ => kk - (intOf i).toNat)
            case atStart =>
              refine ⟨0, firstM k, by omega, rfl, Only.refl _ _, K5, ?_, first_ok _ _, fun a ha => by simp [firstM, zeroM] at ha, fun a ha => by simp [firstM, zeroM] at ha⟩
              rw [List.drop_zero, ← hRES.out, ← List.drop_one]
            case round =>
              obtain ⟨wq, rfl⟩ : ∃ wq : World, wq = wr := ⟨_, rfl⟩
              obtain ⟨k2, M, hk2, rfl, O5, KM, hM, Mok, Mg, Ms⟩ := hrel
              by_cases hlt2 : k2 < kk
              · obtain ⟨j, hj⟩ : ∃ j, js[k2]? = some j := ⟨_, List.getElem?_eq_getElem (by have := hnj.out; omega)⟩
                obtain ⟨gA, hAe, BA⟩ := hA.out (by omega)
                obtain ⟨f, hf⟩ : ∃ f, fs[k2 + 1]? = some f := ⟨_, List.getElem?_eq_getElem (by have := hfl.out; omega)⟩
                have hfm : f ∈ fs := List.mem_of_getElem? hf
                have zP4 := P4.size
                have zO := O.size
                have z5 := P5.size
                have z5q := O5.size
                have hgA := BA.lt
                have hgq := KM.lt
                have BAq := (((BA.only O (by simp)).only P4 (by simp)).only P5 (by simp)).only O5 (by simp; omega)
                obtain ⟨F, hF, _⟩ := get_any j (hj10.out j (List.mem_of_getElem? hj))
                obtain ⟨Z, hZ, hcZ, hCZ⟩ := put_any j (hj10.out j (List.mem_of_getElem? hj))
                have e0 : wq.cell? ⟨gA, k2 * 3, none⟩ = some (.int .i64 (pk j)) := by
                  rw [BAq.cell, ← Nat.add_zero (k2 * 3), pcells_at js k2 j 0 hj (by decide)]; rfl
                have e1 : wq.cell? ⟨gA, k2 * 3 + 1, none⟩ = some (.func (Fn.func F) #[] #[]) := by
                  rw [BAq.cell, pcells_at js k2 j 1 hj (by decide), ← hF]; rfl
                have e2 : wq.cell? ⟨gA, k2 * 3 + 2, none⟩ = some (.func (Fn.func Z) #[] #[]) := by
                  rw [BAq.cell, pcells_at js k2 j 2 hj (by decide), ← hZ]; rfl
                obtain ⟨KJ, hKJ⟩ : ∃ KJ, pk j = KJ := ⟨_, rfl⟩
                rw [hKJ] at e0
                obtain ⟨w6, hw6⟩ : ∃ w6, w6 = wq.alloc (.cells #[.int .i64 KJ, .func (Fn.func F) #[] #[], .func (Fn.func Z) #[] #[]] 54) := ⟨_, rfl⟩
                have P6 : Only [] wq w6 := by rw [hw6]; exact (Only.refl _ _).alloc _
                have K6 : Blk w6 wq.heap.size 54 [.int .i64 KJ, .func (Fn.func F) #[] #[], .func (Fn.func Z) #[] #[]] := by rw [hw6]; exact Blk.new wq _ _
                have c2 : w6.cell? ⟨wq.heap.size, 2, none⟩ = some (.func (Fn.func Z) #[] #[]) := K6.cell 2
                obtain ⟨x0, x1, x2, x3⟩ := hcF (k2 + 1) f hf
                have OX : Only [w4.heap.size] w4 w6 := ((P5.mono (by simp)).trans O5 (by simp)).trans P6 (by simp)
                have hbne : bF ∉ [w4.heap.size] := by simp; omega
                have y0 := cellL OX hbF hbne x0
                have y1 := cellL OX hbF hbne x1
                have y2 := cellL OX hbF hbne x2
                have y3 := cellL OX hbF hbne x3
                clear x0 x1 x2 x3
                have fm := (H4 f hfm).1
                have fm6m := fm.off OX (fun a ha h0 => by have := fm.ok.tlt a ha h0; simp; omega) (fun a ha h0 => by have := fm.ok.llt a ha h0; simp; omega)
                have fm6 : f.ok w6 := fm6m.ok
                have KM6 := KM.only P6 (by simp)
                have CZ := hCZ w6.drew M f w4.heap.size KM6.drew (fm6.only ((Only.refl [] w6).drew))
                obtain ⟨M2, hM2⟩ : ∃ M2, putM M j f = M2 := ⟨_, rfl⟩
                have hM3 : putAll M2 (js.drop (k2 + 1)) (fs.drop (k2 + 1 + 1)) = RES := by
                  have hki : k2 < js.length := (List.getElem?_eq_some_iff.1 hj).1
                  have hki2 : k2 + 1 < fs.length := (List.getElem?_eq_some_iff.1 hf).1
                  rw [← hM, List.drop_eq_getElem_cons hki, List.drop_eq_getElem_cons hki2, (List.getElem?_eq_some_iff.1 hj).2, (List.getElem?_eq_some_iff.1 hf).2, ← hM2]
                  rfl
                have Mok2 : M2.ok w6 := by rw [← hM2]; exact putM_ok j (Mok.only P6) fm6 (hff f hfm).1 (hff f hfm).2
                have Mg2 : MG M2 (w.heap.size + 1) w4.heap.size := by
                  rw [← hM2]
                  exact putM_mg j Mg (fun a ha => by have := fm.new.1 a ha; have := K2.lt; omega) (fun a ha h0 => fm.ok.tlt a ha h0)
                have Ms2 : MSoft M2 w6 := by rw [← hM2]; exact putM_soft j (Ms.onlyL Mok P6 (by simp)) fm6m.soft
                rw [hM2] at CZ
                have hI : (fun w' : World => w'.cell? ⟨bF, offF + (k2 + 1) * 4, none⟩ = some (.int .i64 f.kind) ∧ w'.cell? ⟨bF, offF + (k2 + 1) * 4 + 1, none⟩ = some (.int .u32 f.n) ∧ w'.cell? ⟨bF, offF + (k2 + 1) * 4 + 2, none⟩ = some (.slice f.tA f.text.length f.tc) ∧ w'.cell? ⟨bF, offF + (k2 + 1) * 4 + 3, none⟩ = some (.slice f.lA f.list.length f.lc) ∧ w'.cell? ⟨wq.heap.size, 2, none⟩ = some (.func (Fn.func Z) #[] #[])) { w6 with drawn := w6.drawn + 1 } := ⟨y0, y1, y2, y3, c2⟩
                have hwr : IntKind.i64.wrap ((k2 : Int) + 1) = (k2 : Int) + 1 := IntWalk.i64_in _ (by omega)
                subst hAe
                unfold FD.val at CZ
                replace hj := hide hj
                replace hF := hide hF
                replace hZ := hide hZ
                replace hKJ := hide hKJ
                replace hM := hide hM
                replace hM2 := hide hM2
                replace hM3 := hide hM3
                replace hf := hide hf
                clear BAq hCZ hcF H4 hff
                go_wp2_with fail
                rw [← hw6]
                replace hw6 := hide hw6
                refine wp_region_E (fun w' : World => w'.cell? ⟨bF, offF + (k2 + 1) * 4, none⟩ = some (.int .i64 f.kind) ∧ w'.cell? ⟨bF, offF + (k2 + 1) * 4 + 1, none⟩ = some (.int .u32 f.n) ∧ w'.cell? ⟨bF, offF + (k2 + 1) * 4 + 2, none⟩ = some (.slice f.tA f.text.length f.tc) ∧ w'.cell? ⟨bF, offF + (k2 + 1) * 4 + 3, none⟩ = some (.slice f.lA f.list.length f.lc) ∧ w'.cell? ⟨wq.heap.size, 2, none⟩ = some (.func (Fn.func Z) #[] #[])) [8] (by kernel_rfl) ?_
                refine wpAnyE_take 0 (v := (.pointer (some ⟨wq.heap.size, 2, none⟩))) rfl (by kernel_rfl) (fun _ _ _ h => h) hI (fun w' hw' => Or.inl ⟨by rfl, Or.inl (by obtain ⟨i0, i1, i2, i3, i4⟩ := hw'; go_simp; (try exact hwr); try (intro h7; exact absurd h7 (by omega)))⟩) ?_
                refine wpAnyE_take 1 (v := (.func (Fn.func Z) #[] #[])) rfl (by kernel_rfl) (fun _ _ _ h => h) hI (fun w' hw' => Or.inl ⟨by rfl, Or.inl (by obtain ⟨i0, i1, i2, i3, i4⟩ := hw'; go_simp; (try exact hwr); try (intro h7; exact absurd h7 (by omega)))⟩) ?_
                refine wpAnyE_take 2 (v := (.pointer (some ⟨w4.heap.size, 0, none⟩))) rfl (by kernel_rfl) (fun _ _ _ h => h) hI (fun w' hw' => Or.inl ⟨by rfl, Or.inl (by obtain ⟨i0, i1, i2, i3, i4⟩ := hw'; go_simp; (try exact hwr); try (intro h7; exact absurd h7 (by omega)))⟩) ?_
                refine wpAnyE_take 3 (v := (.slice (some ⟨bF, offF, none⟩) (kk + 1) cf)) rfl (by kernel_rfl) (fun _ _ _ h => h) hI (fun w' hw' => Or.inl ⟨by rfl, Or.inl (by obtain ⟨i0, i1, i2, i3, i4⟩ := hw'; go_simp; (try exact hwr); try (intro h7; exact absurd h7 (by omega)))⟩) ?_
                refine wpAnyE_take 4 (v := (.int .i64 (k2 : Int))) rfl (by kernel_rfl) (fun _ _ _ h => h) hI (fun w' hw' => Or.inl ⟨by rfl, Or.inl (by obtain ⟨i0, i1, i2, i3, i4⟩ := hw'; go_simp; (try exact hwr); try (intro h7; exact absurd h7 (by omega)))⟩) ?_
                refine wpAnyE_take 5 (v := (.int .i64 ((k2 + 1 : Nat) : Int))) rfl (by kernel_rfl) (fun _ _ _ h => h) hI (fun w' hw' => Or.inl ⟨by rfl, Or.inl (by obtain ⟨i0, i1, i2, i3, i4⟩ := hw'; go_simp; (try exact hwr); try (intro h7; exact absurd h7 (by omega)))⟩) ?_
                refine wpAnyE_take 6 (v := (.pointer (some ⟨bF, offF + (k2 + 1) * 4, none⟩))) rfl (by kernel_rfl) (fun _ _ _ h => h) hI (fun w' hw' => Or.inl ⟨by rfl, Or.inl (by obtain ⟨i0, i1, i2, i3, i4⟩ := hw'; go_simp; (try exact hwr); try (intro h7; exact absurd h7 (by omega)))⟩) ?_
                refine wpAnyE_take 7 (v := (.agg #[.int .i64 f.kind, .int .u32 f.n, .slice f.tA f.text.length f.tc, .slice f.lA f.list.length f.lc])) rfl (by kernel_rfl) (fun _ _ _ h => h) hI (fun w' hw' => Or.inl ⟨by rfl, Or.inl (by obtain ⟨i0, i1, i2, i3, i4⟩ := hw'; go_simp; (try exact hwr); try (intro h7; exact absurd h7 (by omega)))⟩) ?_
                refine wpAnyE_tail 8 [] [8] rfl (by kernel_rfl) (by decide) hI ?_
                simp only [List.drop_succ_cons, List.drop_zero]
                refine wpListI_zero ?_
                go_wp2_with fail
                go_call CZ as e w7 ⟨rfl, P7, K7⟩
                clear CZ
                dsimp only
                go_wp2_with fail
                go_roundw
                case rel =>
                  have P67 : Only [w4.heap.size] w6 w7 := ((Only.refl _ w6).drew).trans P7 (by simp)
                  refine ⟨k2 + 1, M2, by omega, by go_num, (O5.trans P6 (by simp)).trans P67 (by simp), K7, hM3.out, Mok2.onlyL P67 (fun a ha h0 => (Mg2 a ha).2 h0), Mg2, Ms2.onlyL Mok2 P67 (fun a ha h0 => by have := (Mg2 a ha).2 h0; simp; omega)⟩
                case measure => simp [intOf]; omega
              · have hkn4 : k2 = kk := by omega
                subst hkn4
                have hMR : M = RES := by
                  rw [← hM, List.drop_eq_nil_of_le (by have := hnj.out; omega)]
                  unfold putAll
                  rfl
                have z5 := P5.size
                have hgq := KM.lt
                have FT := fits_any M wq Mok.name Mok.lang
                have OAq : Only [] w wq := (OA5.trans O5 (by simp; have := OA4.size; omega))
                have KRq := KR5.only O5 (by simp; have := K4.lt; omega)
                obtain ⟨bf, hbf⟩ : ∃ bf, fitsP M = bf := ⟨_, rfl⟩
                rw [hbf] at FT
                subst hMR
                replace hbf := hide hbf
                replace hM := hide hM
                have b0 : wq.cell? ⟨w4.heap.size, 0, none⟩ = some (.int .i64 M.kind) := KM.cell 0
                have b1 : wq.cell? ⟨w4.heap.size, 1, none⟩ = some (.int .u32 M.chan) := KM.cell 1
                have b2 : wq.cell? ⟨w4.heap.size, 2, none⟩ = some (.int .u32 M.sender) := KM.cell 2
                have b3 : wq.cell? ⟨w4.heap.size, 3, none⟩ = some (.int .u32 M.window) := KM.cell 3
                have b4 : wq.cell? ⟨w4.heap.size, 4, none⟩ = some (.int .u32 M.packet) := KM.cell 4
                have b5 : wq.cell? ⟨w4.heap.size, 5, none⟩ = some (.int .u32 M.code) := KM.cell 5
                have b6 : wq.cell? ⟨w4.heap.size, 6, none⟩ = some (.string M.name) := KM.cell 6
                have b7 : wq.cell? ⟨w4.heap.size, 7, none⟩ = some (.string M.lang) := KM.cell 7
                have b8 : wq.cell? ⟨w4.heap.size, 8, none⟩ = some (.bool M.want) := KM.cell 8
                have b9 : wq.cell? ⟨w4.heap.size, 9, none⟩ = some (.slice M.dA M.data.length M.dc) := KM.cell 9
                unfold MD.val at FT
                go_wp2_with fail
                go_call FT as e w6 ⟨rfl, P6⟩
                clear FT
                have KR6 := KRq.only P6 (by simp)
                have KM6 := KM.only P6 (by simp)
                have OA6 := OAq.trans P6 (by simp)
                have hfin : ∀ (m2 : MD) (E2 : Int), (if bf = true then E2 = 0 ∧ m2 = M else E2 = 4 ∧ m2 = zeroM) → (match (k :: t : List Int) with
                    | [] => E2 = 3 ∧ m2 = zeroM
                    | k :: _ => match rowL k with
                      | none => E2 = 8 ∧ m2 = zeroM
                      | some js => if (readP (1 :: js.map pk) (k :: t)).1 ≠ 0 then E2 = (readP (1 :: js.map pk) (k :: t)).1 ∧ m2 = zeroM
                        else ∃ fs : List FD, fs.map FD.pf = (readP (1 :: js.map pk) (k :: t)).2 ∧ if fitsP (putAll (firstM k) js fs.tail) then E2 = 0 ∧ m2 = putAll (firstM k) js fs.tail else E2 = 4 ∧ m2 = zeroM) := by
                  intro m2 E2 h2
                  show (match rowL k with | none => _ | some js => _)
                  rw [hr.out]
                  show if (readP (1 :: js.map pk) (k :: t)).1 ≠ 0 then _ else _
                  rw [hks.out, hres.out, if_neg (by simp)]
                  refine ⟨fs, hfs.out, ?_⟩
                  rw [hRES.out, hbf.out]
                  exact h2
                replace hfin := hide hfin
                cases bf with
                | true =>
                  have g0 : w6.cell? ⟨w.heap.size, 0, none⟩ = some (.int .i64 0) := KR6.cell 0
                  have f0 := KR6.frozen 0
                  have g1 : w6.cell? ⟨w.heap.size, 1, none⟩ = some (.int .u32 0) := KR6.cell 1
                  have f1 := KR6.frozen 1
                  have g2 : w6.cell? ⟨w.heap.size, 2, none⟩ = some (.int .u32 0) := KR6.cell 2
                  have f2 := KR6.frozen 2
                  have g3 : w6.cell? ⟨w.heap.size, 3, none⟩ = some (.int .u32 0) := KR6.cell 3
                  have f3 := KR6.frozen 3
                  have g4 : w6.cell? ⟨w.heap.size, 4, none⟩ = some (.int .u32 0) := KR6.cell 4
                  have f4 := KR6.frozen 4
                  have g5 : w6.cell? ⟨w.heap.size, 5, none⟩ = some (.int .u32 0) := KR6.cell 5
                  have f5 := KR6.frozen 5
                  have g6 : w6.cell? ⟨w.heap.size, 6, none⟩ = some (.string ⟨#[]⟩) := KR6.cell 6
                  have f6 := KR6.frozen 6
                  have g7 : w6.cell? ⟨w.heap.size, 7, none⟩ = some (.string ⟨#[]⟩) := KR6.cell 7
                  have f7 := KR6.frozen 7
                  have g8 : w6.cell? ⟨w.heap.size, 8, none⟩ = some (.bool false) := KR6.cell 8
                  have f8 := KR6.frozen 8
                  have g9 : w6.cell? ⟨w.heap.size, 9, none⟩ = some (.slice none 0 0) := KR6.cell 9
                  have f9 := KR6.frozen 9
                  have a0 : w6.cell? ⟨w4.heap.size, 0, none⟩ = some (.int .i64 M.kind) := KM6.cell 0
                  have a1 : w6.cell? ⟨w4.heap.size, 1, none⟩ = some (.int .u32 M.chan) := KM6.cell 1
                  have a2 : w6.cell? ⟨w4.heap.size, 2, none⟩ = some (.int .u32 M.sender) := KM6.cell 2
                  have a3 : w6.cell? ⟨w4.heap.size, 3, none⟩ = some (.int .u32 M.window) := KM6.cell 3
                  have a4 : w6.cell? ⟨w4.heap.size, 4, none⟩ = some (.int .u32 M.packet) := KM6.cell 4
                  have a5 : w6.cell? ⟨w4.heap.size, 5, none⟩ = some (.int .u32 M.code) := KM6.cell 5
                  have a6 : w6.cell? ⟨w4.heap.size, 6, none⟩ = some (.string M.name) := KM6.cell 6
                  have a7 : w6.cell? ⟨w4.heap.size, 7, none⟩ = some (.string M.lang) := KM6.cell 7
                  have a8 : w6.cell? ⟨w4.heap.size, 8, none⟩ = some (.bool M.want) := KM6.cell 8
                  have a9 : w6.cell? ⟨w4.heap.size, 9, none⟩ = some (.slice M.dA M.data.length M.dc) := KM6.cell 9
                  go_wp2_with fail
                  (try simp only [Exit.inBlock, Exit.then])
                  refine ret_dec (g := w.heap.size) (m := M) rfl (by rfl) (by rfl) (msetB M KR6) ?_
                  refine ⟨msetO M (.inr (Nat.le_refl _)) OA6, M, 0, rfl, ?_, fun a ha => by have := (Mg a ha).1; omega, (Ms.onlyL Mok P6 (by simp)).onlyL (Mok.only P6) (msetO M (L := [w.heap.size]) (q := w.heap.size) (.inl (by simp)) (Only.refl [w.heap.size] w6)) (fun a ha h0 => by have := (Mg a ha).1; simp; omega), hfin.out M 0 (by simp)⟩
                  have hx := msetO M (L := [w.heap.size]) (q := w.heap.size) (.inl (by simp)) (Only.refl [w.heap.size] w6)
                  exact { Mok.only P6 with data := (Mok.only P6).data.onlyL hx (fun a ha h0 => by have := (Mg a ha).1; simp; omega) }
                | false =>
                  have g0 : w6.cell? ⟨w.heap.size, 0, none⟩ = some (.int .i64 0) := KR6.cell 0
                  have f0 := KR6.frozen 0
                  have g1 : w6.cell? ⟨w.heap.size, 1, none⟩ = some (.int .u32 0) := KR6.cell 1
                  have f1 := KR6.frozen 1
                  have g2 : w6.cell? ⟨w.heap.size, 2, none⟩ = some (.int .u32 0) := KR6.cell 2
                  have f2 := KR6.frozen 2
                  have g3 : w6.cell? ⟨w.heap.size, 3, none⟩ = some (.int .u32 0) := KR6.cell 3
                  have f3 := KR6.frozen 3
                  have g4 : w6.cell? ⟨w.heap.size, 4, none⟩ = some (.int .u32 0) := KR6.cell 4
                  have f4 := KR6.frozen 4
                  have g5 : w6.cell? ⟨w.heap.size, 5, none⟩ = some (.int .u32 0) := KR6.cell 5
                  have f5 := KR6.frozen 5
                  have g6 : w6.cell? ⟨w.heap.size, 6, none⟩ = some (.string ⟨#[]⟩) := KR6.cell 6
                  have f6 := KR6.frozen 6
                  have g7 : w6.cell? ⟨w.heap.size, 7, none⟩ = some (.string ⟨#[]⟩) := KR6.cell 7
                  have f7 := KR6.frozen 7
                  have g8 : w6.cell? ⟨w.heap.size, 8, none⟩ = some (.bool false) := KR6.cell 8
                  have f8 := KR6.frozen 8
                  have g9 : w6.cell? ⟨w.heap.size, 9, none⟩ = some (.slice none 0 0) := KR6.cell 9
                  have f9 := KR6.frozen 9
                  go_wp2_with fail
                  (try simp only [Exit.inBlock, Exit.then])
                  refine ret_dec (g := w.heap.size) (m := zeroM) rfl (by rfl) (by rfl) (zsetB KR6) ?_
                  exact ⟨zsetO (Nat.le_refl _) OA6, zeroM, 4, rfl, zero_ok _, fun a ha => by simp [zeroM] at ha, fun a ha => by simp [zeroM] at ha, hfin.out zeroM 4 (by simp)⟩
          · have hE2 : (E != 0) = true := by simpa using hE
            replace hfs := hide hfs
            have g0 : w4.cell? ⟨w.heap.size, 0, none⟩ = some (.int .i64 0) := K4.cell 0
            have f0 := K4.frozen 0
            have g1 : w4.cell? ⟨w.heap.size, 1, none⟩ = some (.int .u32 0) := K4.cell 1
            have f1 := K4.frozen 1
            have g2 : w4.cell? ⟨w.heap.size, 2, none⟩ = some (.int .u32 0) := K4.cell 2
            have f2 := K4.frozen 2
            have g3 : w4.cell? ⟨w.heap.size, 3, none⟩ = some (.int .u32 0) := K4.cell 3
            have f3 := K4.frozen 3
            have g4 : w4.cell? ⟨w.heap.size, 4, none⟩ = some (.int .u32 0) := K4.cell 4
            have f4 := K4.frozen 4
            have g5 : w4.cell? ⟨w.heap.size, 5, none⟩ = some (.int .u32 0) := K4.cell 5
            have f5 := K4.frozen 5
            have g6 : w4.cell? ⟨w.heap.size, 6, none⟩ = some (.string ⟨#[]⟩) := K4.cell 6
            have f6 := K4.frozen 6
            have g7 : w4.cell? ⟨w.heap.size, 7, none⟩ = some (.string ⟨#[]⟩) := K4.cell 7
            have f7 := K4.frozen 7
            have g8 : w4.cell? ⟨w.heap.size, 8, none⟩ = some (.bool false) := K4.cell 8
            have f8 := K4.frozen 8
            have g9 : w4.cell? ⟨w.heap.size, 9, none⟩ = some (.slice none 0 0) := K4.cell 9
            have f9 := K4.frozen 9
            go_wp2_with fail
            (try simp only [Exit.inBlock, Exit.then])
            refine ret_dec (g := w.heap.size) (m := zeroM) rfl (by rfl) (by rfl) (zsetB K4) ?_
            refine ⟨zsetO (Nat.le_refl _) OA4, zeroM, E, rfl, zero_ok _, fun a ha => by simp [zeroM] at ha, fun a ha => by simp [zeroM] at ha, ?_⟩
            show (match rowL k with | none => _ | some js => _)
            rw [hr.out]
            show if (readP (1 :: js.map pk) (k :: t)).1 ≠ 0 then _ else _
            rw [hks.out, hres.out, if_pos hE]
            exact ⟨rfl, rfl⟩
end Go.Proofs.YtdmjabfjkkjhbaaGreatDoor

/- The document's answer for layer 1: Copy; no condition but the sizes that can be. -/
import Derived.Test.YtdmjabfjkkjhbaaDoorAppI
namespace Go.Proofs.YtdmjabfjkkjhbaaDoor
set_option linter.all false
open Go.RowKit

/-- The field's memory is not the row's. -/
def FD.off (f : FD) (v : Value) : Prop := (∀ a, f.tA = some a → 0 < f.text.length → v.ownBlock ≠ some a.block) ∧ (∀ a, f.lA = some a → 0 < f.list.length → v.ownBlock ≠ some a.block)
theorem mine_snoc {wo w13 w14 : World} {base k' : Nat} {A' : Option Addr} {v : Value} {gs : List FD} {g : FD} (X : Only [] wo w13) (P : Only v.ownBlock.toList w13 w14) (G : Where2 v (.slice A' (gs.length + 1) k') w13.heap.size)
    (hv : ∀ x, v.ownBlock = some x → base ≤ x ∧ x < wo.heap.size) (hm : ∀ f ∈ gs, FD.mine wo f base ∧ f.off v) (mg : FD.mine w13 g wo.heap.size) (hb : base ≤ wo.heap.size) :
    ∀ f ∈ gs ++ [g], FD.mine w14 f base ∧ f.off (.slice A' (gs.length + 1) k') := by
  have z := X.size
  have hnw : ∀ x, some x = (Value.slice A' (gs.length + 1) k').ownBlock → some x = v.ownBlock ∨ w13.heap.size ≤ x := by
    intro x hx
    rcases G with e | e
    · left; rw [e] at hx; exact hx
    · right; rw [e] at hx; injection hx with hx; omega
  intro f hf
  rw [List.mem_append] at hf
  rcases hf with hf | hf
  · obtain ⟨m1, fr⟩ := hm f hf
    have t1 := m1.ok.tlt
    have t2 := m1.ok.llt
    refine ⟨(m1.only X).off P (fun a ha h0 hx => fr.1 a ha h0 (by simpa using hx)) (fun a ha h0 hx => fr.2 a ha h0 (by simpa using hx)), fun a ha h0 hx => ?_, fun a ha h0 hx => ?_⟩
    · rcases hnw _ hx.symm with h | h
      · exact fr.1 a ha h0 h.symm
      · have := t1 a ha h0; omega
    · rcases hnw _ hx.symm with h | h
      · exact fr.2 a ha h0 h.symm
      · have := t2 a ha h0; omega
  · simp at hf
    subst hf
    have t1 := mg.ok.tlt
    have t2 := mg.ok.llt
    refine ⟨(mg.off P (fun a ha h0 hx => ?_) (fun a ha h0 hx => ?_)).mono hb, fun a ha h0 hx => ?_, fun a ha h0 hx => ?_⟩
    · have h1 := mg.new.1 a ha
      have h2 := hv _ (by simpa using hx)
      omega
    · have h1 := mg.new.2 a ha
      have h2 := hv _ (by simpa using hx)
      omega
    · have h1 := mg.new.1 a ha
      rcases hnw _ hx.symm with h | h
      · have h2 := hv _ h.symm; omega
      · have := t1 a ha h0; omega
    · have h1 := mg.new.2 a ha
      rcases hnw _ hx.symm with h | h
      · have h2 := hv _ h.symm; omega
      · have := t2 a ha h0; omega

/-- A field whose text and names are new. -/
theorem mine_new {w8 w11 w13 : World} {q B k8 k11 : Nat} {A8 A11 : Option Addr} {kd nn : Int} {tx : List Int} {ls : List ByteArray} (V8 : OwnB w8 (q + 1) (.slice A8 tx.length k8) tx) (V11 : OwnS w11 w8.heap.size (.slice A11 ls.length k11) ls)
    (Y8 : Only [q] w8 w13) (Y11 : Only [q] w11 w13) (hq : q < w8.heap.size) (hB : B ≤ q) (hs : ∀ s ∈ ls, s.size ≤ maxLen) : FD.mine w13 ⟨kd, nn, A8, k8, tx, A11, k11, ls⟩ B := by
  obtain ⟨A, k, e, R8, q8, m8, a8⟩ := V8.rd
  injection e with e1 _ e3
  subst e1; subst e3
  obtain ⟨A', k', e', R11, q11, m11, a11⟩ := V11.rd
  injection e' with e1 _ e3
  subst e1; subst e3
  have S8 := OwnB.soft V8
  refine ⟨⟨RdG.onlyL (mk := .int .u8) R8 Y8 (fun a ha _ => by have := a8 a ha; simp; omega), RdG.onlyL (mk := .string) R11 Y11 (fun a ha _ => by have := a11 a ha; simp; omega), q8, m8, q11, m11, hs⟩, ⟨fun a ha => by have := a8 a ha; omega, fun a ha => by have := a11 a ha; omega⟩, fun a ha i hi => ?_⟩
  have hlt := RdG.lt (mk := .int .u8) R8 (show 0 < tx.length by have : i < tx.length := hi; omega) a ha
  refine (World.frozen?_of_block (w := w8) ?_).trans (S8 a ha i hi)
  rw [block_add]
  exact Y8.block _ hlt (by have := a8 a ha; simp; omega)

/-- Sizes that can be. -/
def Fits (f : FD) : Prop := f.text.length ≤ 140737488355328 ∧ f.list.length ≤ 8796093022208

set_option maxRecDepth 100000 in
set_option maxHeartbeats 3200000 in
theorem copy_any (A : Option Addr) (fs : List FD) (c : Nat) (w : World) (h : RdF w A fs) (hl : fs.length ≤ 1000) (hfit : ∀ f ∈ fs, Fits f) :
    Calls Tryd.prog 18 #[.slice A fs.length c] w fun e w' => Only [] w w' ∧ ∃ A' cap gs, e = .returned (.slice A' fs.length cap) ∧ gs.map FD.pf = fs.map FD.pf ∧ RdF w' A' gs ∧ ∀ g ∈ gs, FD.mine w' g w.heap.size := by
  obtain ⟨n, hn⟩ : ∃ n, n = fs.length := ⟨_, rfl⟩
  rw [← hn] at hl ⊢
  replace hn := hide hn
  replace hfit := hide hfit
  go_enter Tryd.func18, Tryd.ntmps18
  go_wp2
  go_loopw [8, 3] (fun i o wr => ∃ (k : Nat) (v : Value) (gs : List FD), k ≤ n ∧ i = .int .i64 k ∧ v = o ∧ gs.map FD.pf = (fs.take k).map FD.pf ∧ OwnF wr w.heap.size v gs ∧ (∀ g ∈ gs, FD.mine wr g w.heap.size ∧ g.off v) ∧ Only [] w wr) (fun i _ _ => n - (intOf i).toNat)
  case atStart => exact ⟨0, _, [], by omega, rfl, rfl, rfl, ownF_nil _ _, fun g hg => by simp at hg, Only.refl _ _⟩
  case round =>
    obtain ⟨wo, rfl⟩ : ∃ wo : World, wo = wr := ⟨_, rfl⟩
    obtain ⟨k, v, gs, hkn, rfl, rfl, hgs, V, M, O⟩ := hrel
    have hgl : gs.length = k := by
      have := congrArg List.length hgs
      rw [List.length_map, List.length_map, List.length_take] at this
      have := hn.out
      omega
    by_cases hlt : k < n
    · obtain ⟨f, hf⟩ : ∃ f, fs[k]? = some f := ⟨_, List.getElem?_eq_getElem (by have := hn.out; omega)⟩
      obtain ⟨b, off, rfl, hb, hc⟩ := (h.only O).cells (by have := hn.out; omega)
      obtain ⟨c0, c1, c2, c3⟩ := hc k f hf
      have okf := ((h.only O).ok f (List.mem_of_getElem? hf))
      have fit := hfit.out f (List.mem_of_getElem? hf)
      have hgs2 : (fs.take (k + 1)).map FD.pf = gs.map FD.pf ++ [f.pf] := by rw [take_snocG hf, List.map_append, ← hgs]; rfl
      obtain ⟨kd, nn, tA, tc, tx, lA, lc, ls⟩ := f
      obtain ⟨fit1, fit2⟩ := fit
      dsimp only at c0 c1 c2 c3 fit1 fit2
      have hob := V.block
      have z0 := O.size
      have X5 : Only [] wo (wo.alloc (.cells #[.int .i64 kd, .int .u32 nn, .slice tA tx.length tc, .slice lA ls.length lc] 35)) := (Only.refl _ _).alloc _
      have X6 : Only [] wo ((wo.alloc (.cells #[.int .i64 kd, .int .u32 nn, .slice tA tx.length tc, .slice lA ls.length lc] 35)).alloc (.cells #[] 5)) := X5.alloc _
      have K6 := (Blk.new wo 35 [.int .i64 kd, .int .u32 nn, .slice tA tx.length tc, .slice lA ls.length lc]).alloc (.cells #[] 5)
      have V6 : OwnB ((wo.alloc (.cells #[.int .i64 kd, .int .u32 nn, .slice tA tx.length tc, .slice lA ls.length lc] 35)).alloc (.cells #[] 5)) (wo.heap.size + 1) (.slice (some ⟨wo.heap.size + 1, 0, none⟩) 0 0) [] := by
        have := ownB_lit (wo.alloc (.cells #[.int .i64 kd, .int .u32 nn, .slice tA tx.length tc, .slice lA ls.length lc] 35)) (wo.heap.size + 1) [] (by simp) (by simp)
        rw [show (wo.alloc (.cells #[.int .i64 kd, .int .u32 nn, .slice tA tx.length tc, .slice lA ls.length lc] 35)).heap.size = wo.heap.size + 1 by simp] at this
        exact this
      have R6 : Rd ((wo.alloc (.cells #[.int .i64 kd, .int .u32 nn, .slice tA tx.length tc, .slice lA ls.length lc] 35)).alloc (.cells #[] 5)) tA tx := okf.1.text.only X6
      have S0 : RdS wo lA ls := okf.1.list
      have hstr := okf.1.strs
      obtain ⟨La, hLa⟩ : ∃ La, tx.length = La := ⟨_, rfl⟩
      obtain ⟨Lb, hLb⟩ : ∃ Lb, ls.length = Lb := ⟨_, rfl⟩
      replace hf := hide hf
      replace hgs := hide hgs
      replace hgs2 := hide hgs2
      replace hgl := hide hgl
      replace okf := hide okf
      replace hstr := hide hstr
      clear hc hLa hLb
      go_wp2_with (at_builtin; first
        | (refine wpList_app3 rfl (.tmp 12) (.tmp 14) rfl (wo.heap.size + 1) (.slice (some ⟨wo.heap.size + 1, 0, none⟩) 0 0) [] rfl V6 tA tc tx _ rfl rfl R6 (by simpa using fit1) (by simp) ?_
           intro v8 w8 V8 P8 G8
           replace V8 := V8.out
           rw [List.nil_append] at V8
           obtain ⟨A8, k8, rfl, R8, q8, m8, a8⟩ := V8.rd
           have X8 : Only [] wo w8 := X6.trans P8 (fun x hx => .inr (by simp [Value.ownBlock] at hx; omega))
           have K8 := K6.only P8 (by simp [Value.ownBlock])
           have g2 : w8.cell? ⟨wo.heap.size, 2, none⟩ = some (.slice tA tx.length tc) := K8.cell 2
           have g3 : w8.cell? ⟨wo.heap.size, 3, none⟩ = some (.slice lA ls.length lc) := K8.cell 3
           have f2 := K8.frozen 2
           have f3 := K8.frozen 3
           have hq8 : wo.heap.size < w8.heap.size := K8.lt
           have hq8' : ¬ wo.heap.size = w8.heap.size := by omega
           have hq8'' : ¬ w8.heap.size = wo.heap.size := by omega
           have X10 : Only [] wo ((w8.setCell ⟨wo.heap.size, 2, none⟩ (.slice A8 tx.length k8)).alloc (.cells #[] 9)) := (X8.setCell (p := ⟨wo.heap.size, 2, none⟩) (.inr (Nat.le_refl _)) _).alloc _
           have V10 : OwnS ((w8.setCell ⟨wo.heap.size, 2, none⟩ (.slice A8 tx.length k8)).alloc (.cells #[] 9)) w8.heap.size (.slice (some ⟨w8.heap.size, 0, none⟩) 0 0) [] := by
             have := ownS_new (w8.setCell ⟨wo.heap.size, 2, none⟩ (.slice A8 tx.length k8))
             rw [show (w8.setCell ⟨wo.heap.size, 2, none⟩ (.slice A8 tx.length k8)).heap.size = w8.heap.size by simp] at this
             exact this
           have S10 : RdS ((w8.setCell ⟨wo.heap.size, 2, none⟩ (.slice A8 tx.length k8)).alloc (.cells #[] 9)) lA ls := S0.only X10
           have K10 : Blk ((w8.setCell ⟨wo.heap.size, 2, none⟩ (.slice A8 tx.length k8)).alloc (.cells #[] 9)) wo.heap.size 35 [.int .i64 kd, .int .u32 nn, .slice A8 tx.length k8, .slice lA ls.length lc] := (K8.set_ 2 _).alloc _)
        | (refine wpList_appS rfl (.tmp 17) (.tmp 19) rfl w8.heap.size (.slice (some ⟨w8.heap.size, 0, none⟩) 0 0) [] rfl V10 lA lc ls _ rfl rfl S10 (by simpa using fit2) (by simp) ?_
           intro v11 w11 V11 P11
           replace V11 := V11.out
           rw [List.nil_append] at V11
           obtain ⟨A11, k11, rfl, R11, q11, m11, a11⟩ := V11.rd
           have K11 := K10.only P11 (by simp [Value.ownBlock]; omega)
           have h0 : w11.cell? ⟨wo.heap.size, 0, none⟩ = some (.int .i64 kd) := K11.cell 0
           have h1 : w11.cell? ⟨wo.heap.size, 1, none⟩ = some (.int .u32 nn) := K11.cell 1
           have h2 : w11.cell? ⟨wo.heap.size, 2, none⟩ = some (.slice A8 tx.length k8) := K11.cell 2
           have h3 : w11.cell? ⟨wo.heap.size, 3, none⟩ = some (.slice lA ls.length lc) := K11.cell 3
           have e3 := K11.frozen 3
           have X11 : Only [] wo w11 := X10.trans P11 (fun x hx => .inr (by simp [Value.ownBlock] at hx; omega))
           have hq11 : wo.heap.size < w11.heap.size := K11.lt
           have X13 : Only [] wo ((w11.setCell ⟨wo.heap.size, 3, none⟩ (.slice A11 ls.length k11)).alloc (.cells #[.int .i64 kd, .int .u32 nn, .slice A8 tx.length k8, .slice A11 ls.length k11] 35)) := (X11.setCell (p := ⟨wo.heap.size, 3, none⟩) (.inr (Nat.le_refl _)) _).alloc _
           have V13 : OwnF ((w11.setCell ⟨wo.heap.size, 3, none⟩ (.slice A11 ls.length k11)).alloc (.cells #[.int .i64 kd, .int .u32 nn, .slice A8 tx.length k8, .slice A11 ls.length k11] 35)) w.heap.size v gs := V.far X13 (fun x hx => by simp at hx)
           have B13 : Blk ((w11.setCell ⟨wo.heap.size, 3, none⟩ (.slice A11 ls.length k11)).alloc (.cells #[.int .i64 kd, .int .u32 nn, .slice A8 tx.length k8, .slice A11 ls.length k11] 35)) w11.heap.size 35 (FD.cells ⟨kd, nn, A8, k8, tx, A11, k11, ls⟩) := by
             have := Blk.new (w11.setCell ⟨wo.heap.size, 3, none⟩ (.slice A11 ls.length k11)) 35 [.int .i64 kd, .int .u32 nn, .slice A8 tx.length k8, .slice A11 ls.length k11]
             rw [show (w11.setCell ⟨wo.heap.size, 3, none⟩ (.slice A11 ls.length k11)).heap.size = w11.heap.size by simp] at this
             exact this
           have hbase : w.heap.size ≤ ((w11.setCell ⟨wo.heap.size, 3, none⟩ (.slice A11 ls.length k11)).alloc (.cells #[.int .i64 kd, .int .u32 nn, .slice A8 tx.length k8, .slice A11 ls.length k11] 35)).heap.size := Nat.le_trans z0 X13.size)
        | (go_must (refine wpList_appF rfl (.tmp 22) (.tmp 24) rfl w.heap.size v gs rfl V13 w11.heap.size ⟨kd, nn, A8, k8, tx, A11, k11, ls⟩ rfl B13 (by have := hgl.out; omega) hbase ?_; intro A14 k14 w14 V14 P14 G14)))
      go_roundw
      case rel =>
        have Y8 : Only [wo.heap.size] w8 ((w11.setCell ⟨wo.heap.size, 3, none⟩ (.slice A11 ls.length k11)).alloc (.cells #[.int .i64 kd, .int .u32 nn, .slice A8 tx.length k8, .slice A11 ls.length k11] 35)) := (((((Only.refl [wo.heap.size] w8).setCell (p := ⟨wo.heap.size, 2, none⟩) (.inl (by simp)) _).alloc _).trans P11 (fun x hx => .inr (by simp [Value.ownBlock] at hx; omega))).setCell (p := ⟨wo.heap.size, 3, none⟩) (.inl (by simp)) _).alloc _
        have Y11 : Only [wo.heap.size] w11 ((w11.setCell ⟨wo.heap.size, 3, none⟩ (.slice A11 ls.length k11)).alloc (.cells #[.int .i64 kd, .int .u32 nn, .slice A8 tx.length k8, .slice A11 ls.length k11] 35)) := ((Only.refl [wo.heap.size] w11).setCell (p := ⟨wo.heap.size, 3, none⟩) (.inl (by simp)) _).alloc _
        have mg : FD.mine ((w11.setCell ⟨wo.heap.size, 3, none⟩ (.slice A11 ls.length k11)).alloc (.cells #[.int .i64 kd, .int .u32 nn, .slice A8 tx.length k8, .slice A11 ls.length k11] 35)) ⟨kd, nn, A8, k8, tx, A11, k11, ls⟩ wo.heap.size := mine_new V8 V11 Y8 Y11 hq8 (Nat.le_refl _) hstr.out
        refine ⟨k + 1, _, gs ++ [⟨kd, nn, A8, k8, tx, A11, k11, ls⟩], by omega, by go_num, rfl, ?_, V14.out, mine_snoc X13 P14 G14.out hob M mg z0, (O.trans X13 (by simp)).trans P14 (fun x hx => .inr (hob x (by simpa using hx)).1)⟩
        rw [hgs2.out, List.map_append]
        rfl
      case measure => simp [intOf]; omega
    · obtain rfl : k = n := by omega
      rw [List.take_of_length_le (by have := hn.out; omega)] at hgs
      obtain ⟨A', cap, rfl, _, _, _⟩ := V.form
      have hA := V.rdF (fun g hg => ⟨(M g hg).1.ok, by
        have hp : g.pf ∈ fs.map FD.pf := by rw [← hgs]; exact List.mem_map_of_mem hg
        obtain ⟨f, hf, e⟩ := List.mem_map.1 hp
        have := (h.ok f hf).2
        have e2 : f.n = g.n := congrArg PF.n e
        rw [← e2]; exact this⟩)
      rw [hgl]
      replace hgl := hide hgl
      replace hgs := hide hgs
      go_wp2
      go_ret
      exact ⟨O, A', cap, gs, rfl, hgs.out, hA, fun g hg => (M g hg).1⟩
end Go.Proofs.YtdmjabfjkkjhbaaDoor

/- Layer 26: MuxTable: through any messages there are few channels, rising, of unlike remotes; each Open is answered once; the dead say nothing; no condition. -/
import Derived.Test.YtbamojbkehnmkaaMuxO
import Derived.Test.YtbamojbkehnmkaaMuxP
namespace Go.Proofs.Ytbamojbkehnmkaa
set_option linter.all false
set_option maxRecDepth 100000
open Go.RowKit

theorem keyR : KeyT Try.prog 49 23 4 (.bool false) (kI .u32) := ⟨(by kernel_rfl), fun w => by kernel_rfl, ⟨.int .u32, by kernel_rfl, fun a => rfl⟩, kI_inj⟩
theorem pw_get {R : CH → CH → Prop} {l : List CH} (h : l.Pairwise R) {i j : Nat} {a b : CH} (hi : l[i]? = some a) (hj : l[j]? = some b) (hij : i < j) : R a b := by
  obtain ⟨h1, e1⟩ := List.getElem?_eq_some_iff.1 hi
  obtain ⟨h2, e2⟩ := List.getElem?_eq_some_iff.1 hj
  rw [← e1, ← e2]
  exact List.pairwise_iff_getElem.1 h i j h1 h2 hij
theorem look_none {l : List CH} {i : Nat} {c : CH} (h : l.Pairwise fun a b => a.rem ≠ b.rem) (hc : l[i]? = some c) : lookM c.rem ((l.take i).map fun d => (d.rem, Value.bool true)) = none := by
  have key : ∀ (k : List CH), (∀ d ∈ k, d.rem ≠ c.rem) → lookM c.rem (k.map fun d => (d.rem, Value.bool true)) = none := fun k => by
    induction k with
    | nil => intro _; rfl
    | cons a k ih =>
      intro hk
      simp only [List.map_cons, lookM]
      rw [if_neg (hk a (by simp)), ih fun d hd => hk d (by simp [hd])]
  refine key _ fun d hd => ?_
  obtain ⟨j, hj⟩ := List.mem_iff_getElem?.1 hd
  rw [List.getElem?_take] at hj
  split at hj
  · rename_i hji
    exact pw_get h hj hc hji
  · cases hj
set_option maxHeartbeats 4000000 in
theorem table_walk (lim : Int) (ms : List MD) (mA : Option Addr) (mc : Nat) (w : World) (hlim : U32 lim) (hr : RdX MD.row w mA ms) (hl1 : ms.length ≤ mc) (hl2 : mc ≤ maxLen) (hma : ∀ m ∈ ms, MArg w m) : Calls Try.prog 4 #[.int .u32 lim, .slice mA ms.length mc] w fun e w' => e = .returned (.bool true) ∧ Only [] w w' := by
  have hlen := Nat.le_trans hl1 hl2
  refine Hs.enter Try.func4 [] [] [] [.c (.v (.int .u32 lim)), .c (.v (.slice mA ms.length mc))] (Mem.start0 w) (by kernel_rfl) (by kernel_rfl) ?_
  refine Hs.run0 300 (fun _ => by kernel_rfl) ?_
  refine Hs.callV (fun w' _ => alive26_any w') (by kernel_rfl) ?_
  refine Hs.run0 300 (fun _ => by kernel_rfl) ?_
  refine Hs.condF (by kernel_rfl) ?_
  refine Hs.run0 300 (fun _ => by kernel_rfl) ?_
  refine Hs.callX (X := Bool) (fun b => .bool b) (fun b => b = false → Small 0 ms) (fun w' H => great26_any none 0 0 0 false ms mA mc w' (hr.only H.only) hlen) (by kernel_rfl) fun g hg => ?_
  refine Hs.run0 300 (fun _ => by kernel_rfl) ?_
  refine Hs.cond g (by kernel_rfl) (fun h1 => ?_) (fun h1 => ?_)
  · refine Hs.run0 300 (fun _ => by kernel_rfl) ?_
    exact Hs.ret (v := .bool true) Try.func4 (by kernel_rfl) fun w' H => ⟨rfl, H.only⟩
  have hd := (hg h1).each
  clear h1 hg
  have J : ∀ (d i : Nat), ms.length - i = d → i ≤ ms.length → ∀ (w1 : World) (L1 : List Nat), Back w [] w1 L1 → RdO MD.row w1 L1 mA ms → (∀ m ∈ ms, RdO u8c w1 L1 m.dA m.data) → ∀ (A : Option Addr) (cap : Nat) (lx : List CH) (dead : Bool), RdO CH.cells w1 L1 A lx → lx.length ≤ cap → cap ≤ maxLen → Inv lx → ∀ (b5 : Nat) (u : Nat → Value), Hs Try.prog 4 (fun e w' => e = .returned (.bool true) ∧ Only [] w w') (Try.f4).ntmps w1 L1 [b5] ⟨.no, loopAt Try.f4 0, pins [(5, .c (.p 0 0)), (23, .c (.v (.slice mA ms.length mc))), (24, .c (.v (.int .i64 ms.length))), (25, .c (.v (.int .i64 (i : Nat))))] (.vals u), [.b true 34 (MX.sc ⟨A, cap, lx, lim, dead⟩)]⟩ := by
    intro d
    induction d with
    | zero =>
      intro i hd hi w1 L1 B1 rm rd A cap lx dead rc hc1 hc2 hI b5 u
      refine Hs.run0 300 (fun _ => by kernel_rfl) ?_
      refine Hs.condP ((i : Int) < (ms.length : Int)) (by kernel_rfl) (fun h => by omega) (fun h => ?_)
      refine Hs.run0 300 (fun _ => by kernel_rfl) ?_
      exact Hs.ret (v := .bool true) Try.func4 (by kernel_rfl) fun w' H => ⟨rfl, B1 w' H.only⟩
    | succ d ih =>
      intro i hdi hi w1 L1 B1 rm rd A cap lx dead rc hc1 hc2 hI b5 u
      have hil : i < ms.length := by omega
      obtain ⟨m, hx⟩ : ∃ m, ms[i]? = some m := ⟨_, List.getElem?_eq_getElem hil⟩
      have hmm := List.mem_of_getElem? hx
      have hmd := hd m hmm
      have hmA := hma m hmm
      have hmi := fun w' (β : List Nat) (hp : List HB) (H : Mem w1 L1 β hp w') => hmA.min (rd m hmm) H hmd
      have hf : Few lx := by unfold Few; have := hI.len; omega
      obtain ⟨mb, mo, hA, _, _⟩ := rm.rd (by omega)
      subst hA
      refine Hs.run0 300 (fun _ => by kernel_rfl) ?_
      refine Hs.condP ((i : Int) < (ms.length : Int)) (by kernel_rfl) (fun h => ?_) (fun h => by omega)
      refine Hs.run0 300 (fun _ => by kernel_rfl) ?_
      refine Hs.idx (b := mb) (off := mo) (c := mc) elemMs hil (by kernel_rfl) ?_
      refine Hs.ldx (E := 28) (b := mb) (off := mo) (i := i) mdr_len (.g m.sc) (by kernel_rfl) (fun w' H => rm.now H) hx (by kernel_rfl) (by kernel_rfl) (by kernel_rfl) (by kernel_rfl) ?_
      refine Hs.run2 300 (fun _ => by kernel_rfl) fun b7 b8 => ?_
      refine Hs.callF (MTake6 ⟨A, cap, lx, lim, dead⟩ (takeR lx lim dead m)) (fun y w w' => MTakeQ ⟨A, cap, lx, lim, dead⟩ (takeR lx lim dead m) w w' y.1.1 y.1.2 y.2.1.1 y.2.1.2 y.2.2.1 y.2.2.2) (fun w' H => take6 (take_any ⟨A, cap, lx, lim, dead⟩ m w' (ok_now rc H hc1 hc2 hI.ok hlim) hf (hmi _ _ _ H))) (by kernel_rfl) (by kernel_rfl) fun y wa w2 L2 eL Ha Oa Q B2 hL => ?_
      have rm := (RdO.stepL eL rm Ha).only Oa
      have rd := fun m hm => (RdO.stepL eL (rd m hm) Ha).only Oa
      have hIr := takeR_inv (dead := dead) hI hlim (hmi _ _ _ Ha)
      have B2 := B1.trans B2
      clear eL B1
      obtain ⟨⟨A2, c2⟩, ⟨oA2, oC2⟩, ⟨eA2, eC2⟩⟩ := y
      obtain ⟨rc2, hc3, hc4, fc2⟩ := Q.rdChs
      obtain ⟨outs, ho, ro2, fo2⟩ := Q.rdOut
      dsimp only at rc2 hc3 hc4 fc2 ho ro2 fo2
      have rc2 := RdO.new rc2 fc2 hL
      have ro2 := RdO.new ro2 fo2 hL
      clear Q fc2 fo2 hL Ha Oa rc hc1 hc2
      have hcs := takeR_cases lx lim m
      have hdd : dead = true → takeR lx lim dead m = ⟨lx, true, [], [], 9⟩ := fun h => by unfold takeR; rw [if_pos h]
      have hdf : dead = false → takeR lx lim dead m = takeR lx lim false m := fun h => by rw [h]
      obtain ⟨r, hre⟩ : ∃ r, r = takeR lx lim dead m := ⟨_, rfl⟩
      rw [← hre] at rc2 hIr ho hc3 hdd hdf ⊢
      refine Hs.cut (ι := Nat → Value) (fun u => ([b5], ⟨.no, atR Try.f4 18, pins [(5, .c (.p 0 0)), (23, .c (.v (.slice (some ⟨mb, mo, none⟩) ms.length mc))), (24, .c (.v (.int .i64 ms.length))), (25, .c (.v (.int .i64 (i : Nat))))] (.vals u), [.b true 34 (MX.sc ⟨A2, c2, r.l, lim, r.dead⟩)]⟩)) (fun K => ?_) (fun u => ?_)
      · clear ih
        cases dead with
        | true =>
          have hr := hdd rfl
          subst hr
          refine Hs.run1 300 (fun _ => by kernel_rfl) fun b9 => ?_
          refine Hs.rung0 [2, 6, 11, 15] 300 (fun _ => (by kernel_rfl)) ?_
          refine Hs.cond ((lx.length : Int) != (lx.length : Int)) (by kernel_rfl) (fun h => by simp at h) (fun _ => ?_)
          refine Hs.run0 300 (fun _ => by kernel_rfl) ?_
          refine Hs.any [1] (by kernel_rfl) ?_
          refine Hs.run0 300 (fun _ => by kernel_rfl) ?_
          refine Hs.bool 67 (m.kind == 90) (by kernel_rfl) (fun _ => ?_) (fun _ => ?_)
          · refine Hs.rung0 [3, 7, 11, 20, 26] 300 (fun _ => (by kernel_rfl)) ?_
            refine Hs.condF (by kernel_rfl) ?_
            refine Hs.run0 300 (fun _ => by kernel_rfl) ?_
            refine Hs.rung0 [2, 7, 11, 16] 300 (fun _ => (by kernel_rfl)) ?_
            refine Hs.condF (by kernel_rfl) ?_
            refine Hs.runR0 18 [] 300 (fun _ => by kernel_rfl) ?_
            exact Hs.goto (atR Try.f4 18) [0] [.b true 34 (MX.sc ⟨A2, c2, lx, lim, true⟩)] [(5, .c (.p 0 0)), (23, .c (.v (.slice (some ⟨mb, mo, none⟩) ms.length mc))), (24, .c (.v (.int .i64 ms.length))), (25, .c (.v (.int .i64 (i : Nat))))] (by kernel_rfl) (by decide) (by kernel_rfl) (by kernel_rfl) (fun _ => (by kernel_rfl)) (fun u => K u)
          · refine Hs.rung0 [3, 7, 11, 20, 26] 300 (fun _ => (by kernel_rfl)) ?_
            refine Hs.condF (by kernel_rfl) ?_
            refine Hs.run0 300 (fun _ => by kernel_rfl) ?_
            refine Hs.rung0 [2, 7, 11, 16] 300 (fun _ => (by kernel_rfl)) ?_
            refine Hs.condF (by kernel_rfl) ?_
            refine Hs.runR0 18 [] 300 (fun _ => by kernel_rfl) ?_
            exact Hs.goto (atR Try.f4 18) [0] [.b true 34 (MX.sc ⟨A2, c2, lx, lim, true⟩)] [(5, .c (.p 0 0)), (23, .c (.v (.slice (some ⟨mb, mo, none⟩) ms.length mc))), (24, .c (.v (.int .i64 ms.length))), (25, .c (.v (.int .i64 (i : Nat))))] (by kernel_rfl) (by decide) (by kernel_rfl) (by kernel_rfl) (fun _ => (by kernel_rfl)) (fun u => K u)
        | false =>
          rcases hcs with ⟨l', d', out, ev, e, h90⟩ | ⟨l', E, e, hE⟩
          · have e := hre.trans e
            subst e
            refine Hs.run1 300 (fun _ => by kernel_rfl) fun b9 => ?_
            refine Hs.rung0 [2, 6, 11, 15] 300 (fun _ => (by kernel_rfl)) ?_
            refine Hs.condF (by kernel_rfl) ?_
            refine Hs.run0 300 (fun _ => by kernel_rfl) ?_
            refine Hs.any [1] (by kernel_rfl) ?_
            refine Hs.run0 300 (fun _ => by kernel_rfl) ?_
            refine Hs.bool 67 (m.kind == 90) (by kernel_rfl) (fun hk => ?_) (fun hk => ?_)
            · obtain ⟨k, rfl, hk2⟩ := h90 (by simpa using hk)
              obtain ⟨o1, rfl, h1⟩ := map_one ho
              simp only [Prod.mk.injEq] at h1
              obtain ⟨ok, oc⟩ := h1
              obtain ⟨ob, oo, rfl⟩ := one_some ro2.rd (by simp)
              rcases hk2 with rfl | rfl
              · refine Hs.rung0 [3, 7, 11, 20, 26] 300 (fun _ => (by kernel_rfl)) ?_
                refine Hs.idx elemMs (b := ob) (off := oo) (c := oC2) (len := 1) (i := 0) (by decide) (by kernel_rfl) ?_
                refine Hs.rung0 [3, 7, 11, 20, 26] 300 (fun _ => (by kernel_rfl)) ?_
                refine Hs.ldO (E' := 23) (i := 0) (j := 1) mdr_len ro2 rfl (.int .u32 m.sender) (congrArg (fun k => some (Value.int .u32 k)) oc) (by kernel_rfl) (by kernel_rfl) ?_
                refine Hs.rung0 [3, 7, 11] 300 (fun _ => (by kernel_rfl)) ?_
                refine Hs.bool 84 (m.sender != m.sender) (by kernel_rfl) (fun h => by simp at h) (fun _ => ?_)
                refine Hs.rung0 [3, 7, 11, 20, 26] 300 (fun _ => (by kernel_rfl)) ?_
                refine Hs.idx elemMs (b := ob) (off := oo) (c := oC2) (len := 1) (i := 0) (by decide) (by kernel_rfl) ?_
                refine Hs.rung0 [3, 7, 11, 20, 26] 300 (fun _ => (by kernel_rfl)) ?_
                refine Hs.ldO (E' := 3) (i := 0) (j := 0) mdr_len ro2 rfl (.int .i64 91) (congrArg (fun k => some (Value.int .i64 k)) ok) (by kernel_rfl) (by kernel_rfl) ?_
                refine Hs.rung0 [3, 7, 11, 20, 26] 300 (fun _ => (by kernel_rfl)) ?_
                refine Hs.condF (by kernel_rfl) ?_
                refine Hs.run0 300 (fun _ => by kernel_rfl) ?_
                refine Hs.rung0 [2, 7, 11, 16] 300 (fun _ => (by kernel_rfl)) ?_
                refine Hs.condF (by kernel_rfl) ?_
                refine Hs.runR0 18 [] 300 (fun _ => by kernel_rfl) ?_
                exact Hs.goto (atR Try.f4 18) [0] [.b true 34 (MX.sc ⟨A2, c2, l', lim, d'⟩)] [(5, .c (.p 0 0)), (23, .c (.v (.slice (some ⟨mb, mo, none⟩) ms.length mc))), (24, .c (.v (.int .i64 ms.length))), (25, .c (.v (.int .i64 (i : Nat))))] (by kernel_rfl) (by decide) (by kernel_rfl) (by kernel_rfl) (fun _ => (by kernel_rfl)) (fun u => K u)
              · refine Hs.rung0 [3, 7, 11, 20, 26] 300 (fun _ => (by kernel_rfl)) ?_
                refine Hs.idx elemMs (b := ob) (off := oo) (c := oC2) (len := 1) (i := 0) (by decide) (by kernel_rfl) ?_
                refine Hs.rung0 [3, 7, 11, 20, 26] 300 (fun _ => (by kernel_rfl)) ?_
                refine Hs.ldO (E' := 23) (i := 0) (j := 1) mdr_len ro2 rfl (.int .u32 m.sender) (congrArg (fun k => some (Value.int .u32 k)) oc) (by kernel_rfl) (by kernel_rfl) ?_
                refine Hs.rung0 [3, 7, 11] 300 (fun _ => (by kernel_rfl)) ?_
                refine Hs.bool 84 (m.sender != m.sender) (by kernel_rfl) (fun h => by simp at h) (fun _ => ?_)
                refine Hs.rung0 [3, 7, 11, 20, 26] 300 (fun _ => (by kernel_rfl)) ?_
                refine Hs.idx elemMs (b := ob) (off := oo) (c := oC2) (len := 1) (i := 0) (by decide) (by kernel_rfl) ?_
                refine Hs.rung0 [3, 7, 11, 20, 26] 300 (fun _ => (by kernel_rfl)) ?_
                refine Hs.ldO (E' := 3) (i := 0) (j := 0) mdr_len ro2 rfl (.int .i64 92) (congrArg (fun k => some (Value.int .i64 k)) ok) (by kernel_rfl) (by kernel_rfl) ?_
                refine Hs.rung0 [3, 7, 11, 20, 26] 300 (fun _ => (by kernel_rfl)) ?_
                refine Hs.idx elemMs (b := ob) (off := oo) (c := oC2) (len := 1) (i := 0) (by decide) (by kernel_rfl) ?_
                refine Hs.rung0 [3, 7, 11, 20, 26] 300 (fun _ => (by kernel_rfl)) ?_
                refine Hs.ldO (E' := 3) (i := 0) (j := 0) mdr_len ro2 rfl (.int .i64 92) (congrArg (fun k => some (Value.int .i64 k)) ok) (by kernel_rfl) (by kernel_rfl) ?_
                refine Hs.rung0 [3, 7, 11, 20, 26] 300 (fun _ => (by kernel_rfl)) ?_
                refine Hs.condF (by kernel_rfl) ?_
                refine Hs.run0 300 (fun _ => by kernel_rfl) ?_
                refine Hs.rung0 [2, 7, 11, 16] 300 (fun _ => (by kernel_rfl)) ?_
                refine Hs.condF (by kernel_rfl) ?_
                refine Hs.runR0 18 [] 300 (fun _ => by kernel_rfl) ?_
                exact Hs.goto (atR Try.f4 18) [0] [.b true 34 (MX.sc ⟨A2, c2, l', lim, d'⟩)] [(5, .c (.p 0 0)), (23, .c (.v (.slice (some ⟨mb, mo, none⟩) ms.length mc))), (24, .c (.v (.int .i64 ms.length))), (25, .c (.v (.int .i64 (i : Nat))))] (by kernel_rfl) (by decide) (by kernel_rfl) (by kernel_rfl) (fun _ => (by kernel_rfl)) (fun u => K u)
            · refine Hs.rung0 [3, 7, 11, 20, 26] 300 (fun _ => (by kernel_rfl)) ?_
              refine Hs.condF (by kernel_rfl) ?_
              refine Hs.run0 300 (fun _ => by kernel_rfl) ?_
              refine Hs.rung0 [2, 7, 11, 16] 300 (fun _ => (by kernel_rfl)) ?_
              refine Hs.condF (by kernel_rfl) ?_
              refine Hs.runR0 18 [] 300 (fun _ => by kernel_rfl) ?_
              exact Hs.goto (atR Try.f4 18) [0] [.b true 34 (MX.sc ⟨A2, c2, l', lim, d'⟩)] [(5, .c (.p 0 0)), (23, .c (.v (.slice (some ⟨mb, mo, none⟩) ms.length mc))), (24, .c (.v (.int .i64 ms.length))), (25, .c (.v (.int .i64 (i : Nat))))] (by kernel_rfl) (by decide) (by kernel_rfl) (by kernel_rfl) (fun _ => (by kernel_rfl)) (fun u => K u)
          · have e := hre.trans e
            subst e
            obtain ⟨o1, rfl, h1⟩ := map_one ho
            simp only [Prod.mk.injEq] at h1
            obtain ⟨ok, oc⟩ := h1
            obtain ⟨ob, oo, rfl⟩ := one_some ro2.rd (by simp)
            refine Hs.run1 300 (fun _ => by kernel_rfl) fun b9 => ?_
            refine Hs.rung0 [2, 6, 11, 15] 300 (fun _ => (by kernel_rfl)) ?_
            refine Hs.condF (by kernel_rfl) ?_
            refine Hs.run0 300 (fun _ => by kernel_rfl) ?_
            refine Hs.any [1] (by kernel_rfl) ?_
            refine Hs.run0 300 (fun _ => by kernel_rfl) ?_
            refine Hs.bool 67 (m.kind == 90) (by kernel_rfl) (fun hk => ?_) (fun hk => ?_)
            · refine Hs.rung0 [3] 300 (fun _ => (by kernel_rfl)) ?_
              refine Hs.bool 71 (E == 0) (by kernel_rfl) (fun h => absurd (by simpa using h) hE) (fun _ => ?_)
              refine Hs.rung0 [3, 7, 11, 20, 26] 300 (fun _ => (by kernel_rfl)) ?_
              refine Hs.condF (by kernel_rfl) ?_
              refine Hs.run0 300 (fun _ => by kernel_rfl) ?_
              refine Hs.bool 101 (E != 0) (by kernel_rfl) (fun _ => ?_) (fun h => absurd hE (by simpa using h))
              refine Hs.rung0 [2, 7, 11, 16] 300 (fun _ => (by kernel_rfl)) ?_
              refine Hs.idx elemMs (b := ob) (off := oo) (c := oC2) (len := 1) (i := 0) (by decide) (by kernel_rfl) ?_
              refine Hs.rung0 [2, 7, 11, 16] 300 (fun _ => (by kernel_rfl)) ?_
              refine Hs.ldO (E' := 3) (i := 0) (j := 0) mdr_len ro2 rfl (.int .i64 1) (congrArg (fun k => some (Value.int .i64 k)) ok) (by kernel_rfl) (by kernel_rfl) ?_
              refine Hs.rung0 [2, 7, 11, 16] 300 (fun _ => (by kernel_rfl)) ?_
              refine Hs.condF (by kernel_rfl) ?_
              refine Hs.runR0 18 [] 300 (fun _ => by kernel_rfl) ?_
              exact Hs.goto (atR Try.f4 18) [0] [.b true 34 (MX.sc ⟨A2, c2, l', lim, true⟩)] [(5, .c (.p 0 0)), (23, .c (.v (.slice (some ⟨mb, mo, none⟩) ms.length mc))), (24, .c (.v (.int .i64 ms.length))), (25, .c (.v (.int .i64 (i : Nat))))] (by kernel_rfl) (by decide) (by kernel_rfl) (by kernel_rfl) (fun _ => (by kernel_rfl)) (fun u => K u)
            · refine Hs.rung0 [3, 7, 11, 20, 26] 300 (fun _ => (by kernel_rfl)) ?_
              refine Hs.condF (by kernel_rfl) ?_
              refine Hs.run0 300 (fun _ => by kernel_rfl) ?_
              refine Hs.bool 101 (E != 0) (by kernel_rfl) (fun _ => ?_) (fun h => absurd hE (by simpa using h))
              refine Hs.rung0 [2, 7, 11, 16] 300 (fun _ => (by kernel_rfl)) ?_
              refine Hs.idx elemMs (b := ob) (off := oo) (c := oC2) (len := 1) (i := 0) (by decide) (by kernel_rfl) ?_
              refine Hs.rung0 [2, 7, 11, 16] 300 (fun _ => (by kernel_rfl)) ?_
              refine Hs.ldO (E' := 3) (i := 0) (j := 0) mdr_len ro2 rfl (.int .i64 1) (congrArg (fun k => some (Value.int .i64 k)) ok) (by kernel_rfl) (by kernel_rfl) ?_
              refine Hs.rung0 [2, 7, 11, 16] 300 (fun _ => (by kernel_rfl)) ?_
              refine Hs.condF (by kernel_rfl) ?_
              refine Hs.runR0 18 [] 300 (fun _ => by kernel_rfl) ?_
              exact Hs.goto (atR Try.f4 18) [0] [.b true 34 (MX.sc ⟨A2, c2, l', lim, true⟩)] [(5, .c (.p 0 0)), (23, .c (.v (.slice (some ⟨mb, mo, none⟩) ms.length mc))), (24, .c (.v (.int .i64 ms.length))), (25, .c (.v (.int .i64 (i : Nat))))] (by kernel_rfl) (by decide) (by kernel_rfl) (by kernel_rfl) (fun _ => (by kernel_rfl)) (fun u => K u)
      clear hre hcs hdd hdf ho ro2
      refine Hs.run0 300 (fun _ => by kernel_rfl) ?_
      refine Hs.condP ((r.l.length : Int) > 8) (by kernel_rfl) (fun h => by have := hIr.len; omega) (fun _ => ?_)
      refine Hs.run0 300 (fun _ => by kernel_rfl) ?_
      refine Hs.mkM (T := 49) (kI .u32) (by kernel_rfl) (by kernel_rfl) fun q => ?_
      have J2 : ∀ (d2 j : Nat), r.l.length - j = d2 → j ≤ r.l.length → ∀ (b5 q : Nat) (u : Nat → Value), Hs Try.prog 4 (fun e w' => e = .returned (.bool true) ∧ Only [] w w') (Try.f4).ntmps w2 L2 [b5, q] ⟨.no, loopAt Try.f4 1, pins [(5, .c (.p 0 0)), (13, .c (.v (.map (some q)))), (23, .c (.v (.slice (some ⟨mb, mo, none⟩) ms.length mc))), (24, .c (.v (.int .i64 ms.length))), (25, .c (.v (.int .i64 (i : Nat)))), (129, .c (.v (.slice A2 r.l.length c2))), (130, .c (.v (.int .i64 r.l.length))), (131, .c (.v (.int .i64 (j : Nat))))] (.vals u), [.b true 34 (MX.sc ⟨A2, c2, r.l, lim, r.dead⟩), HB.mp (kI .u32) q ((r.l.take j).map fun d => (d.rem, Value.bool true))]⟩ := by
        intro d2
        induction d2 with
        | zero =>
          intro j hdj hj b5 q u
          refine Hs.run0 300 (fun _ => by kernel_rfl) ?_
          refine Hs.condP ((j : Int) < (r.l.length : Int)) (by kernel_rfl) (fun h => by omega) (fun h => ?_)
          refine Hs.run0 300 (fun _ => by kernel_rfl) ?_
          refine Hs.callF (X := Option Addr × Nat) (fun y => MX.val ⟨y.1, y.2, keepL r.l, lim, r.dead⟩) (fun y w w' => OwnX CH.cells 45 12 w' w.heap.size (.slice y.1 (keepL r.l).length y.2) (keepL r.l)) (fun w' H => (muxFree_any ⟨A2, c2, r.l, lim, r.dead⟩ w' (ok_now rc2 H hc3 hc4 hIr.ok hlim) (by unfold Few; have := hIr.len; show r.l.length ≤ _; omega)).mono fun e w2 ⟨A2, c2, h1, h2, h3⟩ => ⟨(A2, c2), h1, h2, h3⟩) (by kernel_rfl) (by kernel_rfl) fun y wb w3 L3 eL3 Hb Ob Q3 B3 hL3 => ?_
          have rm := (RdO.stepL eL3 rm Hb).only Ob
          have rd := fun m hm => (RdO.stepL eL3 (rd m hm) Hb).only Ob
          clear eL3
          obtain ⟨A3, c3⟩ := y
          obtain ⟨_, _, e0, hc5, hc6, rc3, fc3⟩ := Q3.form
          injection e0 with e1 _ e3
          subst e1; subst e3
          have rc3 := RdO.new rc3 (fun a ha => (fc3 a ha).1) hL3
          refine Hs.run0 300 (fun _ => by kernel_rfl) ?_
          refine Hs.slot 25 (.c (.v (.int .i64 (i + 1 : Nat)))) rfl ((by kernel_rfl : _ = Value.int .i64 (IntKind.i64.wrap ((i : Int) + 1))).trans (wrap_nextI hlen)) ?_
          refine Hs.loop (by kernel_rfl) ?_
          exact Hs.goto (loopAt Try.f4 0) [0] [.b true 34 (MX.sc ⟨A3, c3, (keepL r.l), lim, r.dead⟩)] [(5, .c (.p 0 0)), (23, .c (.v (.slice (some ⟨mb, mo, none⟩) ms.length mc))), (24, .c (.v (.int .i64 ms.length))), (25, .c (.v (.int .i64 (i + 1 : Nat))))] (by kernel_rfl) (by decide) (by kernel_rfl) (by kernel_rfl) (fun _ => (by kernel_rfl)) (fun u => ih (i + 1) (by omega) (by omega) w3 L3 (B2.trans B3) rm rd A3 c3 (keepL r.l) r.dead rc3 hc5 hc6 hIr.keep b5 u)
        | succ d2 ih2 =>
          intro j hdj hj b5 q u
          have hjl : j < r.l.length := by omega
          obtain ⟨c, hcx⟩ : ∃ c, r.l[j]? = some c := ⟨_, List.getElem?_eq_getElem hjl⟩
          have hlook := look_none hIr.rem hcx
          have hloc := hIr.loc c (List.mem_of_getElem? hcx)
          obtain ⟨cb, co, hA, _, _⟩ := rc2.rd (by omega)
          subst hA
          refine Hs.run0 300 (fun _ => by kernel_rfl) ?_
          refine Hs.condP ((j : Int) < (r.l.length : Int)) (by kernel_rfl) (fun h => ?_) (fun h => by omega)
          refine Hs.run0 300 (fun _ => by kernel_rfl) ?_
          refine Hs.idx (b := cb) (off := co) (c := c2) elemCh hjl (by kernel_rfl) ?_
          refine Hs.ldx (E := 45) (b := cb) (off := co) (i := j) ch_len (.g c.sc) (by kernel_rfl) (fun w' H => rc2.now H) hcx (by kernel_rfl) (by kernel_rfl) (by kernel_rfl) (by kernel_rfl) ?_
          refine Hs.run1 300 (fun _ => by kernel_rfl) fun b15 => ?_
          refine Hs.any [0, 2] (by kernel_rfl) ?_
          refine Hs.run0 300 (fun _ => by kernel_rfl) ?_
          refine Hs.getM (T := 49) (r := q) (es := (r.l.take j).map fun d => (d.rem, Value.bool true)) keyR c.rem false (.bool false) (by rw [hlook]; rfl) (by kernel_rfl) (fun w' H => H.mapM 1 (by kernel_rfl)) ?_
          refine Hs.rung0 [4] 300 (fun _ => (by kernel_rfl)) ?_
          refine Hs.bool 143 (decide ((j : Int) > 0)) (by kernel_rfl) (fun hj0 => ?_) (fun hj0 => ?_)
          · have hj0 : (j : Int) > 0 := of_decide_eq_true hj0
            obtain ⟨p, hpx⟩ : ∃ p, r.l[j - 1]? = some p := ⟨_, List.getElem?_eq_getElem (by omega)⟩
            have hup := pw_get hIr.up hpx hcx (by omega)
            refine Hs.rung0 [4, 7] 300 (fun _ => (by kernel_rfl)) ?_
            refine Hs.slot 149 (.c (.v (.int .i64 (j - 1 : Nat)))) rfl ((by kernel_rfl : _ = Value.int .i64 (IntKind.i64.wrap ((j : Int) - 1))).trans (congrArg (Value.int .i64) (by
              have := Nat.le_trans hc3 hc4
              unfold maxLen at this
              rw [IntWalk.i64_in _ (by omega)]; omega))) ?_
            refine Hs.idx (b := cb) (off := co) (c := c2) (len := r.l.length) (i := j - 1) elemCh (by omega) (by kernel_rfl) ?_
            refine Hs.rung0 [4, 7] 300 (fun _ => (by kernel_rfl)) ?_
            refine Hs.ldO (E' := 23) (i := j - 1) (j := 0) ch_len rc2 hpx (.int .u32 p.loc) rfl (by kernel_rfl) (by kernel_rfl) ?_
            refine Hs.rung0 [4, 7] 300 (fun _ => (by kernel_rfl)) ?_
            refine Hs.bool 156 (decide (c.loc ≤ p.loc)) (by kernel_rfl) (fun h => by have := of_decide_eq_true h; omega) (fun _ => ?_)
            refine Hs.rung0 [4, 7, 20] 300 (fun _ => (by kernel_rfl)) ?_
            refine Hs.condP (c.loc ≥ 8) (by kernel_rfl) (fun h => by omega) (fun _ => ?_)
            refine Hs.run0 300 (fun _ => by kernel_rfl) ?_
            refine Hs.putM (T := 49) (r := q) (es := (r.l.take j).map fun d => (d.rem, Value.bool true)) 1 keyR c.rem (.bool true) hlook (by kernel_rfl) (by kernel_rfl) (by kernel_rfl) ?_
            refine Hs.run0 300 (fun _ => by kernel_rfl) ?_
            refine Hs.slot 131 (.c (.v (.int .i64 (j + 1 : Nat)))) rfl ((by kernel_rfl : _ = Value.int .i64 (IntKind.i64.wrap ((j : Int) + 1))).trans (wrap_nextI (n := r.l.length) (Nat.le_trans hc3 hc4))) ?_
            refine Hs.loop (by kernel_rfl) ?_
            exact Hs.goto (loopAt Try.f4 1) [0, 1] [.b true 34 (MX.sc ⟨(some ⟨cb, co, none⟩), c2, r.l, lim, r.dead⟩), HB.mp (kI .u32) q (((r.l.take j).map fun d => (d.rem, Value.bool true)) ++ [(c.rem, .bool true)])] [(5, .c (.p 0 0)), (13, .c (.v (.map (some q)))), (23, .c (.v (.slice (some ⟨mb, mo, none⟩) ms.length mc))), (24, .c (.v (.int .i64 ms.length))), (25, .c (.v (.int .i64 (i : Nat)))), (129, .c (.v (.slice (some ⟨cb, co, none⟩) r.l.length c2))), (130, .c (.v (.int .i64 r.l.length))), (131, .c (.v (.int .i64 (j + 1 : Nat))))] (by kernel_rfl) (by decide) (by kernel_rfl) (by kernel_rfl) (fun _ => (by kernel_rfl)) (fun u => (by
              have := ih2 (j + 1) (by omega) (by omega) b5 q u
              rw [List.take_add_one, hcx, List.map_append] at this
              exact this))
          · refine Hs.rung0 [4, 7, 20] 300 (fun _ => (by kernel_rfl)) ?_
            refine Hs.condP (c.loc ≥ 8) (by kernel_rfl) (fun h => by omega) (fun _ => ?_)
            refine Hs.run0 300 (fun _ => by kernel_rfl) ?_
            refine Hs.putM (T := 49) (r := q) (es := (r.l.take j).map fun d => (d.rem, Value.bool true)) 1 keyR c.rem (.bool true) hlook (by kernel_rfl) (by kernel_rfl) (by kernel_rfl) ?_
            refine Hs.run0 300 (fun _ => by kernel_rfl) ?_
            refine Hs.slot 131 (.c (.v (.int .i64 (j + 1 : Nat)))) rfl ((by kernel_rfl : _ = Value.int .i64 (IntKind.i64.wrap ((j : Int) + 1))).trans (wrap_nextI (n := r.l.length) (Nat.le_trans hc3 hc4))) ?_
            refine Hs.loop (by kernel_rfl) ?_
            exact Hs.goto (loopAt Try.f4 1) [0, 1] [.b true 34 (MX.sc ⟨(some ⟨cb, co, none⟩), c2, r.l, lim, r.dead⟩), HB.mp (kI .u32) q (((r.l.take j).map fun d => (d.rem, Value.bool true)) ++ [(c.rem, .bool true)])] [(5, .c (.p 0 0)), (13, .c (.v (.map (some q)))), (23, .c (.v (.slice (some ⟨mb, mo, none⟩) ms.length mc))), (24, .c (.v (.int .i64 ms.length))), (25, .c (.v (.int .i64 (i : Nat)))), (129, .c (.v (.slice (some ⟨cb, co, none⟩) r.l.length c2))), (130, .c (.v (.int .i64 r.l.length))), (131, .c (.v (.int .i64 (j + 1 : Nat))))] (by kernel_rfl) (by decide) (by kernel_rfl) (by kernel_rfl) (fun _ => (by kernel_rfl)) (fun u => (by
              have := ih2 (j + 1) (by omega) (by omega) b5 q u
              rw [List.take_add_one, hcx, List.map_append] at this
              exact this))
      refine Hs.run0 300 (fun _ => by kernel_rfl) ?_
      refine Hs.loop (by kernel_rfl) ?_
      exact Hs.goto (loopAt Try.f4 1) [0, 1] [.b true 34 (MX.sc ⟨A2, c2, r.l, lim, r.dead⟩), HB.mp (kI .u32) q []] [(5, .c (.p 0 0)), (13, .c (.v (.map (some q)))), (23, .c (.v (.slice (some ⟨mb, mo, none⟩) ms.length mc))), (24, .c (.v (.int .i64 ms.length))), (25, .c (.v (.int .i64 (i : Nat)))), (129, .c (.v (.slice A2 r.l.length c2))), (130, .c (.v (.int .i64 r.l.length))), (131, .c (.v (.int .i64 (0 : Nat))))] (by kernel_rfl) (by decide) (by kernel_rfl) (by kernel_rfl) (fun _ => (by kernel_rfl)) (fun u => J2 _ 0 rfl (by omega) b5 q u)
  refine Hs.run1 300 (fun _ => by kernel_rfl) fun b5 => ?_
  refine Hs.loop (by kernel_rfl) ?_
  exact Hs.goto (loopAt Try.f4 0) [0] [.b true 34 (MX.sc ⟨none, 0, [], lim, false⟩)] [(5, .c (.p 0 0)), (23, .c (.v (.slice mA ms.length mc))), (24, .c (.v (.int .i64 ms.length))), (25, .c (.v (.int .i64 (0 : Nat))))] (by kernel_rfl) (by decide) (by kernel_rfl) (by kernel_rfl) (fun _ => (by kernel_rfl)) (fun u => J _ 0 rfl (by omega) w [] Back.refl (RdO.nil hr) (fun m hm => RdO.nil (hma m hm).rd) none 0 [] false (RdO.nil rdX_nil) (by simp) (by decide) inv_nil b5 u)
end Go.Proofs.Ytbamojbkehnmkaa

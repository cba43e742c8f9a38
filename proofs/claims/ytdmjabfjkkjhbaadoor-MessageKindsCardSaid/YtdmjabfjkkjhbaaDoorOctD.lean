/- Layer 1: the writer; for every field, no condition. -/
import Derived.Test.YtdmjabfjkkjhbaaDoorOctC
import Derived.IntWalk
import Derived.Test.YtdmjabfjkkjhbaaDoorHeld
namespace Go.Proofs.YtdmjabfjkkjhbaaDoor
set_option linter.all false
open Go.RowKit

theorem cellL {L : List Nat} {w w' : World} (h : Only L w w') {b o : Nat} {v : Value} (hb : b < w.heap.size) (hn : b ∉ L) (hc : w.cell? ⟨b, o, none⟩ = some v) : w'.cell? ⟨b, o, none⟩ = some v := (World.cell?_of_block (w := w) (h.block b hb hn)).trans hc
theorem frozenL {L : List Nat} {w w' : World} (h : Only L w w') {b o : Nat} {v : Bool} (hb : b < w.heap.size) (hn : b ∉ L) (hc : w.frozen? ⟨b, o, none⟩ = v) : w'.frozen? ⟨b, o, none⟩ = v := (World.frozen?_of_block (w := w) (h.block b hb hn)).trans hc
theorem OwnB.low {w : World} {base : Nat} {v : Value} {l : List Int} (h : OwnB w base v l) : ∀ x, x < base → x ∉ v.ownBlock.toList := fun x hx hm => by
  have := h.block x (by simpa using hm)
  omega
theorem OwnB.high {w : World} {base : Nat} {v : Value} {l : List Int} (h : OwnB w base v l) : ∀ x, w.heap.size ≤ x → x ∉ v.ownBlock.toList := fun x hx hm => by
  have := h.block x (by simpa using hm)
  omega

/-- A writer lies in block g; its bytes are v. -/
structure WrV (w : World) (g base : Nat) (v : Value) (l : List Int) : Prop where
  blk : Blk w g 73 [v]
  own : OwnB w base v l
  low : g < base
  top : base ≤ w.heap.size
theorem WrV.only {w w' : World} {g base : Nat} {v : Value} {l : List Int} {L : List Nat} (h : WrV w g base v l) (hb : Only L w w') (h1 : g ∉ L) (h2 : ∀ x ∈ L, some x ≠ v.ownBlock) : WrV w' g base v l :=
  ⟨h.blk.only hb h1, h.own.far hb h2, h.low, Nat.le_trans h.top hb.size⟩
/-- What a step leaves. -/
def Moved (w w' : World) (g : Nat) (v v' : Value) : Prop := Only (g :: v.ownBlock.toList) w w' ∧ (v'.ownBlock = v.ownBlock ∨ ∀ x, v'.ownBlock = some x → w.heap.size ≤ x)
theorem Moved.trans {w w1 w2 : World} {g : Nat} {v v1 v2 : Value} (h : Moved w w1 g v v1) (k : Moved w1 w2 g v1 v2) : Moved w w2 g v v2 := by
  refine ⟨h.1.trans k.1 (fun x hx => ?_), ?_⟩
  · rcases List.mem_cons.1 hx with rfl | hx
    · exact .inl (List.mem_cons_self)
    · rcases h.2 with e | e
      · rw [e] at hx; exact .inl (List.mem_cons_of_mem _ hx)
      · exact .inr (e x (by simpa using hx))
  · rcases k.2 with e | e
    · rcases h.2 with e1 | e1
      · exact .inl (e.trans e1)
      · exact .inr (fun x hx => e1 x (by rw [← e]; exact hx))
    · exact .inr (fun x hx => Nat.le_trans h.1.size (e x hx))
theorem Moved.from {w w0 w1 : World} {g : Nat} {v v1 : Value} (h : Moved w0 w1 g v v1) (k : Only [] w w0) : Moved w w1 g v v1 :=
  ⟨(k.mono (by simp)).trans h.1 (fun x hx => .inl hx), h.2.imp id (fun hh x hx => Nat.le_trans k.size (hh x hx))⟩
def four (n : Int) : List Int := [n / 16777216 % 256, n / 65536 % 256, n / 256 % 256, n % 256]
theorem rd_lit (w : World) (cs : Array Value) (l : List Int) (h : cs = (u8s l).toArray) : Rd (w.alloc (.cells cs 5)) (some ⟨w.heap.size, 0, none⟩) l := fun _ => ⟨w.heap.size, 0, rfl, by simp, fun i v hi => by
  rw [h, World.cell?_alloc_mark]
  simp [u8s, hi]⟩
def WPost (w : World) (g base : Nat) (v : Value) (l : List Int) (e : Ending) (w' : World) : Prop := e = .returned (.tuple #[]) ∧ ∃ v', WrV w' g base v' l ∧ Moved w w' g v v'
theorem wr_put {w w2 w9 : World} {g base n k9 : Nat} {A9 : Option Addr} {v : Value} {c c1 : List Int} (R : WrV w g base v c) (Q : Only [] w w2) (P : Only v.ownBlock.toList w2 w9)
    (V9 : OwnB w9 base (.slice A9 n k9) c1) (G : Where2 v (.slice A9 n k9) w2.heap.size) :
    WrV (w9.setCell ⟨g, 0, none⟩ (.slice A9 n k9)) g base (.slice A9 n k9) c1 ∧ Moved w (w9.setCell ⟨g, 0, none⟩ (.slice A9 n k9)) g v (.slice A9 n k9) := by
  have hlow := R.low
  have K9 := (R.blk.only Q (by simp)).only P ((R.own.only Q (by simp)).low g hlow)
  refine ⟨⟨?_, ?_, hlow, ?_⟩, ?_, ?_⟩
  · have := K9.set_ 0 (.slice A9 n k9)
    simpa using this
  · refine V9.far ((Only.refl [g] w9).setCell (p := ⟨g, 0, none⟩) (.inl (by simp)) _) (fun x hx hv => ?_)
    simp at hx
    have := V9.block x hv.symm
    omega
  · have := R.top; have := Q.size; have := P.size; simp [World.setCell]; omega
  · have P' : Only (g :: v.ownBlock.toList) w w9 := (Q.mono (by simp)).trans P (fun x hx => .inl (List.mem_cons_of_mem _ hx))
    exact P'.setCell (p := ⟨g, 0, none⟩) (.inl (by simp)) _
  · rcases G with G | G
    · exact .inl G
    · right; intro x hx
      rw [G] at hx
      injection hx with hx
      have := Q.size
      omega


/-! The walks -/
set_option maxRecDepth 100000 in
set_option maxHeartbeats 3200000 in
theorem wOctet_any (f : FD) (g base : Nat) (v : Value) (l : List Int) (w : World) (h : WrV w g base v l) (hn : 0 ≤ f.n ∧ f.n ≤ 4294967295) (hl : l.length ≤ 140737488355000) :
    Calls Tryd.prog 40 #[.pointer (some ⟨g, 0, none⟩), f.val] w (WPost w g base v (l ++ [f.n % 256])) := by
  obtain ⟨kind, n, tA, tc, text, lA, lc, list⟩ := f
  unfold FD.val
  dsimp only at *
  obtain ⟨w1, hw1⟩ : ∃ w1, w1 = w.alloc (.cells #[.int .i64 kind, .int .u32 n, .slice tA text.length tc, .slice lA list.length lc] 35) := ⟨_, rfl⟩
  have P1 : Only [] w w1 := by rw [hw1]; exact (Only.refl _ _).alloc _
  have R := h.only P1 (by simp) (by simp)
  have K : Blk w1 w.heap.size 35 [.int .i64 kind, .int .u32 n, .slice tA text.length tc, .slice lA list.length lc] := by rw [hw1]; exact Blk.new w _ _
  have c1 : w1.cell? ⟨w.heap.size, 1, none⟩ = some (.int .u32 n) := K.cell 1
  have c2 : w1.cell? ⟨w.heap.size, 2, none⟩ = some (.slice tA text.length tc) := K.cell 2
  have c0 := R.blk.cell 0
  have f0 := R.blk.frozen 0
  have hgl := R.blk.lt
  have hpl := K.lt
  have hlow := R.low
  have htop := R.top
  obtain ⟨A9, k9, rfl, _, q9, m9, _⟩ := h.own.rd
  have c0 : w1.cell? ⟨g, 0, none⟩ = some (.slice A9 l.length k9) := c0
  go_enter Tryd.func40, Tryd.ntmps40
  go_wp2_with fail
  rw [← hw1]
  have NP : w.heap.size ∉ (Value.slice A9 l.length k9).ownBlock.toList := h.own.high _ (Nat.le_refl _)
  have NG : g ∉ (Value.slice A9 l.length k9).ownBlock.toList := h.own.low _ hlow
  have hV : ∀ w2, Only [] w1 w2 → OwnB w2 base (.slice A9 l.length k9) l ∧ base ≤ w2.heap.size := fun w2 P => ⟨R.own.only P (by simp), by have := P.size; omega⟩
  replace hV := hide hV
  replace hw1 := hide hw1
  have cG : ∀ w2 w9, Only [] w1 w2 → Only (Value.slice A9 l.length k9).ownBlock.toList w2 w9 → w9.cell? ⟨g, 0, none⟩ = some (.slice A9 l.length k9) ∧ w9.frozen? ⟨g, 0, none⟩ = false := fun w2 w9 P Q =>
    ⟨cellL Q (by have := P.size; omega) NG (cellL P hgl (by simp) c0), frozenL Q (by have := P.size; omega) NG (frozenL P hgl (by simp) f0)⟩
  replace cG := hide cG
  have hI : (fun w' : World => w'.cell? ⟨g, 0, none⟩ = some (.slice A9 l.length k9) ∧ w'.cell? ⟨w.heap.size, 1, none⟩ = some (.int .u32 n)) { w1 with drawn := w1.drawn + 1 } := ⟨c0, c1⟩
  refine wp_region_E (fun w' : World => w'.cell? ⟨g, 0, none⟩ = some (.slice A9 l.length k9) ∧ w'.cell? ⟨w.heap.size, 1, none⟩ = some (.int .u32 n)) [10, 11, 12] (by kernel_rfl) ?_
  refine wpAnyE_take 0 (v := (.pointer (some ⟨g, 0, none⟩))) rfl (by kernel_rfl) (fun _ _ _ h => h) hI (fun w' hw' => Or.inl ⟨by rfl, Or.inl (by obtain ⟨i0, i1⟩ := hw'; go_simp)⟩) ?_
  refine wpAnyE_take 1 (v := (.pointer (some ⟨g, 0, none⟩))) rfl (by kernel_rfl) (fun _ _ _ h => h) hI (fun w' hw' => Or.inl ⟨by rfl, Or.inl (by obtain ⟨i0, i1⟩ := hw'; go_simp)⟩) ?_
  refine wpAnyE_take 2 (v := (.pointer (some ⟨g, 0, none⟩))) rfl (by kernel_rfl) (fun _ _ _ h => h) hI (fun w' hw' => Or.inl ⟨by rfl, Or.inl (by obtain ⟨i0, i1⟩ := hw'; go_simp)⟩) ?_
  refine wpAnyE_take 3 (v := (.pointer (some ⟨g, 0, none⟩))) rfl (by kernel_rfl) (fun _ _ _ h => h) hI (fun w' hw' => Or.inl ⟨by rfl, Or.inl (by obtain ⟨i0, i1⟩ := hw'; go_simp)⟩) ?_
  refine wpAnyE_take 4 (v := (.slice A9 l.length k9)) rfl (by kernel_rfl) (fun _ _ _ h => h) hI (fun w' hw' => Or.inl ⟨by rfl, Or.inl (by obtain ⟨i0, i1⟩ := hw'; go_simp)⟩) ?_
  refine wpAnyE_take 5 (v := (.pointer (some ⟨w.heap.size, 1, none⟩))) rfl (by kernel_rfl) (fun _ _ _ h => h) hI (fun w' hw' => Or.inl ⟨by rfl, Or.inl (by obtain ⟨i0, i1⟩ := hw'; go_simp)⟩) ?_
  refine wpAnyE_take 6 (v := (.int .u32 n)) rfl (by kernel_rfl) (fun _ _ _ h => h) hI (fun w' hw' => Or.inl ⟨by rfl, Or.inl (by obtain ⟨i0, i1⟩ := hw'; go_simp)⟩) ?_
  refine wpAnyE_take 7 (v := (.int .u8 (IntKind.u8.wrap n))) rfl (by kernel_rfl) (fun _ _ _ h => h) hI (fun w' hw' => Or.inl ⟨by rfl, Or.inl (by obtain ⟨i0, i1⟩ := hw'; go_simp)⟩) ?_
  refine wpAnyE_tail 8 [8, 9] [10, 11, 12] rfl (by kernel_rfl) (by decide) hI ?_
  simp only [List.drop_succ_cons, List.drop_zero]
  refine wpListI_step (fun K hK => ?_)
  go_simp
  refine hK _ _ ⟨by go_simp, by go_simp⟩ ?_
  clear hK K
  refine wpListI_step (fun K hK => ?_)
  refine step_app0 (by rfl) _ _ (by rfl) base (.slice A9 l.length k9) l (by rfl) (hV.out _ (by repeat (first | exact Only.refl _ _ | apply Only.alloc | apply Only.drew))).1 (some ⟨w1.heap.size, 0, none⟩) 1 [n % 256] 1 rfl (by rfl) (rd_one _ _) (by simp; omega) (hV.out _ (by repeat (first | exact Only.refl _ _ | apply Only.alloc | apply Only.drew))).2 ?_
  intro g9 k9' w9 V9 P9 G9
  obtain ⟨cc, ff⟩ := cG.out _ w9 (by repeat (first | exact Only.refl _ _ | apply Only.alloc | apply Only.drew)) P9
  have cn := cellL P9 (b := w.heap.size) (o := 1) (v := (.int .u32 n)) (by simp; omega) NP (by go_simp)
  refine hK _ _ ⟨cc, cn⟩ ?_
  clear hK K
  refine wpListI_zero ?_
  go_wp2
  go_end0
  obtain ⟨r1, r2⟩ := wr_put R (by repeat (first | exact Only.refl _ _ | apply Only.alloc | apply Only.drew)) P9 V9.out G9.out
  exact ⟨rfl, _, r1, r2.from P1⟩

set_option maxRecDepth 100000 in
set_option maxHeartbeats 3200000 in
theorem wNumber_any (f : FD) (g base : Nat) (v : Value) (l : List Int) (w : World) (h : WrV w g base v l) (hn : 0 ≤ f.n ∧ f.n ≤ 4294967295) (hl : l.length ≤ 140737488355000) :
    Calls Tryd.prog 45 #[.pointer (some ⟨g, 0, none⟩), f.val] w (WPost w g base v (l ++ four f.n)) := by
  obtain ⟨kind, n, tA, tc, text, lA, lc, list⟩ := f
  unfold FD.val
  dsimp only at *
  obtain ⟨w1, hw1⟩ : ∃ w1, w1 = w.alloc (.cells #[.int .i64 kind, .int .u32 n, .slice tA text.length tc, .slice lA list.length lc] 35) := ⟨_, rfl⟩
  have P1 : Only [] w w1 := by rw [hw1]; exact (Only.refl _ _).alloc _
  have R := h.only P1 (by simp) (by simp)
  have K : Blk w1 w.heap.size 35 [.int .i64 kind, .int .u32 n, .slice tA text.length tc, .slice lA list.length lc] := by rw [hw1]; exact Blk.new w _ _
  have c1 : w1.cell? ⟨w.heap.size, 1, none⟩ = some (.int .u32 n) := K.cell 1
  have c2 : w1.cell? ⟨w.heap.size, 2, none⟩ = some (.slice tA text.length tc) := K.cell 2
  have c0 := R.blk.cell 0
  have f0 := R.blk.frozen 0
  have hgl := R.blk.lt
  have hpl := K.lt
  have hlow := R.low
  have htop := R.top
  obtain ⟨A9, k9, rfl, _, q9, m9, _⟩ := h.own.rd
  have c0 : w1.cell? ⟨g, 0, none⟩ = some (.slice A9 l.length k9) := c0
  go_enter Tryd.func45, Tryd.ntmps45
  go_wp2_with fail
  rw [← hw1]
  have NP : w.heap.size ∉ (Value.slice A9 l.length k9).ownBlock.toList := h.own.high _ (Nat.le_refl _)
  have NG : g ∉ (Value.slice A9 l.length k9).ownBlock.toList := h.own.low _ hlow
  have hV : ∀ w2, Only [] w1 w2 → OwnB w2 base (.slice A9 l.length k9) l ∧ base ≤ w2.heap.size := fun w2 P => ⟨R.own.only P (by simp), by have := P.size; omega⟩
  replace hV := hide hV
  replace hw1 := hide hw1
  have cG : ∀ w2 w9, Only [] w1 w2 → Only (Value.slice A9 l.length k9).ownBlock.toList w2 w9 → w9.cell? ⟨g, 0, none⟩ = some (.slice A9 l.length k9) ∧ w9.frozen? ⟨g, 0, none⟩ = false := fun w2 w9 P Q =>
    ⟨cellL Q (by have := P.size; omega) NG (cellL P hgl (by simp) c0), frozenL Q (by have := P.size; omega) NG (frozenL P hgl (by simp) f0)⟩
  replace cG := hide cG
  have hI : (fun w' : World => w'.cell? ⟨g, 0, none⟩ = some (.slice A9 l.length k9) ∧ w'.cell? ⟨w.heap.size, 1, none⟩ = some (.int .u32 n)) { w1 with drawn := w1.drawn + 1 } := ⟨c0, c1⟩
  refine wp_region_E (fun w' : World => w'.cell? ⟨g, 0, none⟩ = some (.slice A9 l.length k9) ∧ w'.cell? ⟨w.heap.size, 1, none⟩ = some (.int .u32 n)) [22, 23, 24] (by kernel_rfl) ?_
  refine wpAnyE_take 0 (v := (.pointer (some ⟨g, 0, none⟩))) rfl (by kernel_rfl) (fun _ _ _ h => h) hI (fun w' hw' => Or.inl ⟨by rfl, Or.inl (by obtain ⟨i0, i1⟩ := hw'; go_simp)⟩) ?_
  refine wpAnyE_take 1 (v := (.pointer (some ⟨g, 0, none⟩))) rfl (by kernel_rfl) (fun _ _ _ h => h) hI (fun w' hw' => Or.inl ⟨by rfl, Or.inl (by obtain ⟨i0, i1⟩ := hw'; go_simp)⟩) ?_
  refine wpAnyE_take 2 (v := (.pointer (some ⟨g, 0, none⟩))) rfl (by kernel_rfl) (fun _ _ _ h => h) hI (fun w' hw' => Or.inl ⟨by rfl, Or.inl (by obtain ⟨i0, i1⟩ := hw'; go_simp)⟩) ?_
  refine wpAnyE_take 3 (v := (.pointer (some ⟨g, 0, none⟩))) rfl (by kernel_rfl) (fun _ _ _ h => h) hI (fun w' hw' => Or.inl ⟨by rfl, Or.inl (by obtain ⟨i0, i1⟩ := hw'; go_simp)⟩) ?_
  refine wpAnyE_take 4 (v := (.slice A9 l.length k9)) rfl (by kernel_rfl) (fun _ _ _ h => h) hI (fun w' hw' => Or.inl ⟨by rfl, Or.inl (by obtain ⟨i0, i1⟩ := hw'; go_simp)⟩) ?_
  refine wpAnyE_take 5 (v := (.pointer (some ⟨w.heap.size, 1, none⟩))) rfl (by kernel_rfl) (fun _ _ _ h => h) hI (fun w' hw' => Or.inl ⟨by rfl, Or.inl (by obtain ⟨i0, i1⟩ := hw'; go_simp)⟩) ?_
  refine wpAnyE_take 6 (v := (.int .u32 n)) rfl (by kernel_rfl) (fun _ _ _ h => h) hI (fun w' hw' => Or.inl ⟨by rfl, Or.inl (by obtain ⟨i0, i1⟩ := hw'; go_simp)⟩) ?_
  refine wpAnyE_take 7 (v := (.int .u32 (n / 16777216))) rfl (by kernel_rfl) (fun _ _ _ h => h) hI (fun w' hw' => Or.inl ⟨by rfl, Or.inl (by obtain ⟨i0, i1⟩ := hw'; go_simp)⟩) ?_
  refine wpAnyE_take 8 (v := (.int .u8 (IntKind.u8.wrap (n / 16777216)))) rfl (by kernel_rfl) (fun _ _ _ h => h) hI (fun w' hw' => Or.inl ⟨by rfl, Or.inl (by obtain ⟨i0, i1⟩ := hw'; go_simp)⟩) ?_
  refine wpAnyE_take 9 (v := (.pointer (some ⟨w.heap.size, 1, none⟩))) rfl (by kernel_rfl) (fun _ _ _ h => h) hI (fun w' hw' => Or.inl ⟨by rfl, Or.inl (by obtain ⟨i0, i1⟩ := hw'; go_simp)⟩) ?_
  refine wpAnyE_take 10 (v := (.int .u32 n)) rfl (by kernel_rfl) (fun _ _ _ h => h) hI (fun w' hw' => Or.inl ⟨by rfl, Or.inl (by obtain ⟨i0, i1⟩ := hw'; go_simp)⟩) ?_
  refine wpAnyE_take 11 (v := (.int .u32 (n / 65536))) rfl (by kernel_rfl) (fun _ _ _ h => h) hI (fun w' hw' => Or.inl ⟨by rfl, Or.inl (by obtain ⟨i0, i1⟩ := hw'; go_simp)⟩) ?_
  refine wpAnyE_take 12 (v := (.int .u8 (IntKind.u8.wrap (n / 65536)))) rfl (by kernel_rfl) (fun _ _ _ h => h) hI (fun w' hw' => Or.inl ⟨by rfl, Or.inl (by obtain ⟨i0, i1⟩ := hw'; go_simp)⟩) ?_
  refine wpAnyE_take 13 (v := (.pointer (some ⟨w.heap.size, 1, none⟩))) rfl (by kernel_rfl) (fun _ _ _ h => h) hI (fun w' hw' => Or.inl ⟨by rfl, Or.inl (by obtain ⟨i0, i1⟩ := hw'; go_simp)⟩) ?_
  refine wpAnyE_take 14 (v := (.int .u32 n)) rfl (by kernel_rfl) (fun _ _ _ h => h) hI (fun w' hw' => Or.inl ⟨by rfl, Or.inl (by obtain ⟨i0, i1⟩ := hw'; go_simp)⟩) ?_
  refine wpAnyE_take 15 (v := (.int .u32 (n / 256))) rfl (by kernel_rfl) (fun _ _ _ h => h) hI (fun w' hw' => Or.inl ⟨by rfl, Or.inl (by obtain ⟨i0, i1⟩ := hw'; go_simp)⟩) ?_
  refine wpAnyE_take 16 (v := (.int .u8 (IntKind.u8.wrap (n / 256)))) rfl (by kernel_rfl) (fun _ _ _ h => h) hI (fun w' hw' => Or.inl ⟨by rfl, Or.inl (by obtain ⟨i0, i1⟩ := hw'; go_simp)⟩) ?_
  refine wpAnyE_take 17 (v := (.pointer (some ⟨w.heap.size, 1, none⟩))) rfl (by kernel_rfl) (fun _ _ _ h => h) hI (fun w' hw' => Or.inl ⟨by rfl, Or.inl (by obtain ⟨i0, i1⟩ := hw'; go_simp)⟩) ?_
  refine wpAnyE_take 18 (v := (.int .u32 n)) rfl (by kernel_rfl) (fun _ _ _ h => h) hI (fun w' hw' => Or.inl ⟨by rfl, Or.inl (by obtain ⟨i0, i1⟩ := hw'; go_simp)⟩) ?_
  refine wpAnyE_take 19 (v := (.int .u8 (IntKind.u8.wrap n))) rfl (by kernel_rfl) (fun _ _ _ h => h) hI (fun w' hw' => Or.inl ⟨by rfl, Or.inl (by obtain ⟨i0, i1⟩ := hw'; go_simp)⟩) ?_
  refine wpAnyE_tail 20 [20, 21] [22, 23, 24] rfl (by kernel_rfl) (by decide) hI ?_
  simp only [List.drop_succ_cons, List.drop_zero]
  refine wpListI_step (fun K hK => ?_)
  go_simp
  refine hK _ _ ⟨by go_simp, by go_simp⟩ ?_
  clear hK K
  refine wpListI_step (fun K hK => ?_)
  refine step_app0 (by rfl) _ _ (by rfl) base (.slice A9 l.length k9) l (by rfl) (hV.out _ (by repeat (first | exact Only.refl _ _ | apply Only.alloc | apply Only.drew))).1 (some ⟨w1.heap.size, 0, none⟩) 4 (four n) 4 rfl (by rfl) (rd_lit _ _ _ (by simp [u8s, four, IntKind.wrap_u8])) (by show l.length + 4 ≤ _; omega) (hV.out _ (by repeat (first | exact Only.refl _ _ | apply Only.alloc | apply Only.drew))).2 ?_
  intro g9 k9' w9 V9 P9 G9
  obtain ⟨cc, ff⟩ := cG.out _ w9 (by repeat (first | exact Only.refl _ _ | apply Only.alloc | apply Only.drew)) P9
  have cn := cellL P9 (b := w.heap.size) (o := 1) (v := (.int .u32 n)) (by simp; omega) NP (by go_simp)
  refine hK _ _ ⟨cc, cn⟩ ?_
  clear hK K
  refine wpListI_zero ?_
  go_wp2
  go_end0
  obtain ⟨r1, r2⟩ := wr_put R (by repeat (first | exact Only.refl _ _ | apply Only.alloc | apply Only.drew)) P9 V9.out G9.out
  exact ⟨rfl, _, r1, r2.from P1⟩

set_option maxRecDepth 100000 in
set_option maxHeartbeats 3200000 in
theorem wRest_any (f : FD) (g base : Nat) (v : Value) (l : List Int) (w : World) (h : WrV w g base v l) (hf : f.ok w) (hl : l.length + f.text.length ≤ 140737488355000) :
    Calls Tryd.prog 54 #[.pointer (some ⟨g, 0, none⟩), f.val] w (WPost w g base v (l ++ f.text)) := by
  obtain ⟨kind, n, tA, tc, text, lA, lc, list⟩ := f
  unfold FD.val
  dsimp only at *
  obtain ⟨w1, hw1⟩ : ∃ w1, w1 = w.alloc (.cells #[.int .i64 kind, .int .u32 n, .slice tA text.length tc, .slice lA list.length lc] 35) := ⟨_, rfl⟩
  have hT := hf.text
  dsimp only at hT
  have P1 : Only [] w w1 := by rw [hw1]; exact (Only.refl _ _).alloc _
  have R := h.only P1 (by simp) (by simp)
  have K : Blk w1 w.heap.size 35 [.int .i64 kind, .int .u32 n, .slice tA text.length tc, .slice lA list.length lc] := by rw [hw1]; exact Blk.new w _ _
  have c1 : w1.cell? ⟨w.heap.size, 1, none⟩ = some (.int .u32 n) := K.cell 1
  have c2 : w1.cell? ⟨w.heap.size, 2, none⟩ = some (.slice tA text.length tc) := K.cell 2
  have c0 := R.blk.cell 0
  have f0 := R.blk.frozen 0
  have hgl := R.blk.lt
  have hpl := K.lt
  have hlow := R.low
  have htop := R.top
  obtain ⟨A9, k9, rfl, _, q9, m9, _⟩ := h.own.rd
  have c0 : w1.cell? ⟨g, 0, none⟩ = some (.slice A9 l.length k9) := c0
  go_enter Tryd.func54, Tryd.ntmps54
  go_wp2_with fail
  rw [← hw1]
  have NP : w.heap.size ∉ (Value.slice A9 l.length k9).ownBlock.toList := h.own.high _ (Nat.le_refl _)
  have NG : g ∉ (Value.slice A9 l.length k9).ownBlock.toList := h.own.low _ hlow
  have hV : ∀ w2, Only [] w1 w2 → OwnB w2 base (.slice A9 l.length k9) l ∧ base ≤ w2.heap.size := fun w2 P => ⟨R.own.only P (by simp), by have := P.size; omega⟩
  replace hV := hide hV
  replace hw1 := hide hw1
  have cG : ∀ w2 w9, Only [] w1 w2 → Only (Value.slice A9 l.length k9).ownBlock.toList w2 w9 → w9.cell? ⟨g, 0, none⟩ = some (.slice A9 l.length k9) ∧ w9.frozen? ⟨g, 0, none⟩ = false := fun w2 w9 P Q =>
    ⟨cellL Q (by have := P.size; omega) NG (cellL P hgl (by simp) c0), frozenL Q (by have := P.size; omega) NG (frozenL P hgl (by simp) f0)⟩
  replace cG := hide cG
  have hI : (fun w' : World => w'.cell? ⟨g, 0, none⟩ = some (.slice A9 l.length k9) ∧ w'.cell? ⟨w.heap.size, 2, none⟩ = some (.slice tA text.length tc)) { w1 with drawn := w1.drawn + 1 } := ⟨c0, c2⟩
  refine wp_region_E (fun w' : World => w'.cell? ⟨g, 0, none⟩ = some (.slice A9 l.length k9) ∧ w'.cell? ⟨w.heap.size, 2, none⟩ = some (.slice tA text.length tc)) [8, 9, 10] (by kernel_rfl) ?_
  refine wpAnyE_take 0 (v := (.pointer (some ⟨g, 0, none⟩))) rfl (by kernel_rfl) (fun _ _ _ h => h) hI (fun w' hw' => Or.inl ⟨by rfl, Or.inl (by obtain ⟨i0, i1⟩ := hw'; go_simp)⟩) ?_
  refine wpAnyE_take 1 (v := (.pointer (some ⟨g, 0, none⟩))) rfl (by kernel_rfl) (fun _ _ _ h => h) hI (fun w' hw' => Or.inl ⟨by rfl, Or.inl (by obtain ⟨i0, i1⟩ := hw'; go_simp)⟩) ?_
  refine wpAnyE_take 2 (v := (.pointer (some ⟨g, 0, none⟩))) rfl (by kernel_rfl) (fun _ _ _ h => h) hI (fun w' hw' => Or.inl ⟨by rfl, Or.inl (by obtain ⟨i0, i1⟩ := hw'; go_simp)⟩) ?_
  refine wpAnyE_take 3 (v := (.pointer (some ⟨g, 0, none⟩))) rfl (by kernel_rfl) (fun _ _ _ h => h) hI (fun w' hw' => Or.inl ⟨by rfl, Or.inl (by obtain ⟨i0, i1⟩ := hw'; go_simp)⟩) ?_
  refine wpAnyE_take 4 (v := (.slice A9 l.length k9)) rfl (by kernel_rfl) (fun _ _ _ h => h) hI (fun w' hw' => Or.inl ⟨by rfl, Or.inl (by obtain ⟨i0, i1⟩ := hw'; go_simp)⟩) ?_
  refine wpAnyE_take 5 (v := (.pointer (some ⟨w.heap.size, 2, none⟩))) rfl (by kernel_rfl) (fun _ _ _ h => h) hI (fun w' hw' => Or.inl ⟨by rfl, Or.inl (by obtain ⟨i0, i1⟩ := hw'; go_simp)⟩) ?_
  refine wpAnyE_take 6 (v := (.slice tA text.length tc)) rfl (by kernel_rfl) (fun _ _ _ h => h) hI (fun w' hw' => Or.inl ⟨by rfl, Or.inl (by obtain ⟨i0, i1⟩ := hw'; go_simp)⟩) ?_
  refine wpAnyE_tail 7 [7] [8, 9, 10] rfl (by kernel_rfl) (by decide) hI ?_
  simp only [List.drop_succ_cons, List.drop_zero]
  refine wpListI_step (fun K hK => ?_)
  refine step_app0 (by rfl) _ _ (by rfl) base (.slice A9 l.length k9) l (by rfl) (hV.out _ (by repeat (first | exact Only.refl _ _ | apply Only.alloc | apply Only.drew))).1 tA tc text text.length rfl (by rfl) (hT.only (P1.trans (w2 := _) (by repeat (first | exact Only.refl [] _ | apply Only.alloc | apply Only.drew)) (by simp))) (by omega) (hV.out _ (by repeat (first | exact Only.refl _ _ | apply Only.alloc | apply Only.drew))).2 ?_
  intro g9 k9' w9 V9 P9 G9
  obtain ⟨cc, ff⟩ := cG.out _ w9 (by repeat (first | exact Only.refl _ _ | apply Only.alloc | apply Only.drew)) P9
  have cn := cellL P9 (b := w.heap.size) (o := 2) (v := (.slice tA text.length tc)) (by simp; omega) NP (by go_simp)
  refine hK _ _ ⟨cc, cn⟩ ?_
  clear hK K
  refine wpListI_zero ?_
  go_wp2
  go_end0
  obtain ⟨r1, r2⟩ := wr_put R (by repeat (first | exact Only.refl _ _ | apply Only.alloc | apply Only.drew)) P9 V9.out G9.out
  exact ⟨rfl, _, r1, r2.from P1⟩
end Go.Proofs.YtdmjabfjkkjhbaaDoor

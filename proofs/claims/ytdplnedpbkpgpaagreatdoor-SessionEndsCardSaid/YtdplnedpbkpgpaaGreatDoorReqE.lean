/- Layer 4: the putters; no condition but that the fields are there. -/
import Derived.Test.YtdplnedpbkpgpaaGreatDoorReqB
import Derived.Test.YtdplnedpbkpgpaaGreatDoorReqV
namespace Go.Proofs.YtdplnedpbkpgpaaGreatDoor
set_option linter.all false
open Go.RowKit

set_option maxRecDepth 100000 in
set_option maxHeartbeats 1600000 in
theorem putTextR_any (m : RQ) (g : Nat) (w0 w : World) (A : Option Addr) (a : FD) (r : List FD) (c : Nat) (hF : RdF w0 A (a :: r)) (hO : Only [] w0 w) (hlt : w0.heap.size ≤ g) (hg : Blk w g 119 m.cells) : Calls Tryz.prog 81 #[.pointer (some ⟨g, 0, none⟩), .slice A (r.length + 1) c] w fun e w' => e = .returned (.tuple #[]) ∧ Only [g] w w' ∧ Blk w' g 119 (RQ.cells { m with text := strOfNums a.text }) := by
  obtain ⟨b, off, rfl, hb, hc⟩ := hF.cells (by simp)
  have hbg : ¬ b = g := by omega
  have hgl := hg.lt
  obtain ⟨_, n0, t0, _⟩ := hc 0 a rfl
  simp only [Nat.zero_mul, Nat.one_mul, Nat.reduceMul, Nat.add_zero] at n0 t0
  have n0 := cellL hO hb (by simp) n0
  have t0 := cellL hO hb (by simp) t0
  have g1 : w.cell? ⟨g, 1, none⟩ = some (.string m.text) := hg.cell 1
  have z1 := hg.frozen 1
  have kc0 : (convert 32 9 (.slice a.tA a.text.length a.tc)).run Tryz.prog w = .ok (.string (strOfNums a.text)) w := conv_rd ((hF.ok a (by simp)).1.text.only hO)
  have hsl : (0 : Int) ≤ (r.length : Int) := Int.natCast_nonneg _
  clear hc
  have hb2 := hg.set_ 1 (.string (strOfNums a.text))
  have hO2 : Only [g] w (w.setCell ⟨g, 1, none⟩ (.string (strOfNums a.text))) := (Only.refl [g] w).setCell (p := ⟨g, 1, none⟩) (.inl (by simp)) _
  go_enter Tryz.func81, Tryz.ntmps81
  go_wp2
  go_end0
  exact ⟨rfl, hO2, hb2⟩
set_option maxRecDepth 100000 in
set_option maxHeartbeats 1600000 in
theorem putCodeR_any (m : RQ) (g : Nat) (w0 w : World) (A : Option Addr) (a : FD) (r : List FD) (c : Nat) (hF : RdF w0 A (a :: r)) (hO : Only [] w0 w) (hlt : w0.heap.size ≤ g) (hg : Blk w g 119 m.cells) : Calls Tryz.prog 89 #[.pointer (some ⟨g, 0, none⟩), .slice A (r.length + 1) c] w fun e w' => e = .returned (.tuple #[]) ∧ Only [g] w w' ∧ Blk w' g 119 (RQ.cells { m with code := a.n }) := by
  obtain ⟨b, off, rfl, hb, hc⟩ := hF.cells (by simp)
  have hbg : ¬ b = g := by omega
  have hgl := hg.lt
  obtain ⟨_, n0, t0, _⟩ := hc 0 a rfl
  simp only [Nat.zero_mul, Nat.one_mul, Nat.reduceMul, Nat.add_zero] at n0 t0
  have n0 := cellL hO hb (by simp) n0
  have t0 := cellL hO hb (by simp) t0
  have g10 : w.cell? ⟨g, 10, none⟩ = some (.int .u32 m.code) := hg.cell 10
  have z10 := hg.frozen 10
  have hsl : (0 : Int) ≤ (r.length : Int) := Int.natCast_nonneg _
  clear hc
  have hb2 := hg.set_ 10 (.int .u32 a.n)
  have hO2 : Only [g] w (w.setCell ⟨g, 10, none⟩ (.int .u32 a.n)) := (Only.refl [g] w).setCell (p := ⟨g, 10, none⟩) (.inl (by simp)) _
  go_enter Tryz.func89, Tryz.ntmps89
  go_wp2
  go_end0
  exact ⟨rfl, hO2, hb2⟩
set_option maxRecDepth 100000 in
set_option maxHeartbeats 1600000 in
theorem putOnR_any (m : RQ) (g : Nat) (w0 w : World) (A : Option Addr) (a : FD) (r : List FD) (c : Nat) (hF : RdF w0 A (a :: r)) (hO : Only [] w0 w) (hlt : w0.heap.size ≤ g) (hg : Blk w g 119 m.cells) : Calls Tryz.prog 87 #[.pointer (some ⟨g, 0, none⟩), .slice A (r.length + 1) c] w fun e w' => e = .returned (.tuple #[]) ∧ Only [g] w w' ∧ Blk w' g 119 (RQ.cells { m with on := decide (a.n = 1) }) := by
  obtain ⟨on, hon⟩ : ∃ on, decide (a.n = 1) = on := ⟨_, rfl⟩
  rw [hon]
  have hon2 : (a.n == 1) = on := hon
  clear hon
  obtain ⟨b, off, rfl, hb, hc⟩ := hF.cells (by simp)
  have hbg : ¬ b = g := by omega
  have hgl := hg.lt
  obtain ⟨_, n0, t0, _⟩ := hc 0 a rfl
  simp only [Nat.zero_mul, Nat.one_mul, Nat.reduceMul, Nat.add_zero] at n0 t0
  have n0 := cellL hO hb (by simp) n0
  have t0 := cellL hO hb (by simp) t0
  have g9 : w.cell? ⟨g, 9, none⟩ = some (.bool m.on) := hg.cell 9
  have z9 := hg.frozen 9
  have hsl : (0 : Int) ≤ (r.length : Int) := Int.natCast_nonneg _
  clear hc
  have hb2 := hg.set_ 9 (.bool on)
  have hO2 : Only [g] w (w.setCell ⟨g, 9, none⟩ (.bool on)) := (Only.refl [g] w).setCell (p := ⟨g, 9, none⟩) (.inl (by simp)) _
  go_enter Tryz.func87, Tryz.ntmps87
  go_wp2
  go_end0
  exact ⟨rfl, hO2, hb2⟩
theorem putNoneR_any (m : RQ) (g : Nat) (w : World) (v : Value) (hg : Blk w g 119 m.cells) : Calls Tryz.prog 78 #[.pointer (some ⟨g, 0, none⟩), v] w fun e w' => e = .returned (.tuple #[]) ∧ Only [g] w w' ∧ Blk w' g 119 m.cells := by
  go_enter Tryz.func78, Tryz.ntmps78
  go_wp2
  go_end0
  exact ⟨rfl, Only.refl _ _, hg⟩
set_option maxRecDepth 100000 in
set_option maxHeartbeats 1600000 in
theorem putEnvR_any (m : RQ) (g : Nat) (w0 w : World) (A : Option Addr) (a d : FD) (r : List FD) (c : Nat) (hF : RdF w0 A (a :: d :: r)) (hO : Only [] w0 w) (hlt : w0.heap.size ≤ g) (hg : Blk w g 119 m.cells) : Calls Tryz.prog 75 #[.pointer (some ⟨g, 0, none⟩), .slice A (r.length + 2) c] w fun e w' => e = .returned (.tuple #[]) ∧ Only [g] w w' ∧ Blk w' g 119 (RQ.cells { m with text := strOfNums a.text, value := strOfNums d.text }) := by
  obtain ⟨b, off, rfl, hb, hc⟩ := hF.cells (by simp)
  have hbg : ¬ b = g := by omega
  have hgl := hg.lt
  obtain ⟨_, n0, t0, _⟩ := hc 0 a rfl
  simp only [Nat.zero_mul, Nat.one_mul, Nat.reduceMul, Nat.add_zero] at n0 t0
  obtain ⟨_, n1, t1, _⟩ := hc 1 d rfl
  simp only [Nat.zero_mul, Nat.one_mul, Nat.reduceMul, Nat.add_zero] at n1 t1
  have hI0 : Only [] w0 { w with drawn := w.drawn + 1 } := hO.drew
  have g1 : w.cell? ⟨g, 1, none⟩ = some (.string m.text) := hg.cell 1
  have z1 := hg.frozen 1
  have g2 : w.cell? ⟨g, 2, none⟩ = some (.string m.value) := hg.cell 2
  have z2 := hg.frozen 2
  have hsl : (0 : Int) ≤ (r.length : Int) := Int.natCast_nonneg _
  clear hc
  go_enter Tryz.func75, Tryz.ntmps75
  go_wp2_with fail
  have hI : (fun w' : World => Only [] w0 w') { w with drawn := w.drawn + 1 } := hI0
  refine wp_region_E (fun w' : World => Only [] w0 w') [] (by kernel_rfl) ?_
  refine wpAnyE_take 0 (v := (.pointer (some ⟨g, 0, none⟩))) rfl (by kernel_rfl) (fun _ _ _ h => h) hI (fun w' hw' => Or.inl ⟨by kernel_rfl, Or.inl (by go_simp)⟩) ?_
  refine wpAnyE_take 1 (v := (.pointer (some ⟨g, 0, none⟩))) rfl (by kernel_rfl) (fun _ _ _ h => h) hI (fun w' hw' => Or.inl ⟨by kernel_rfl, Or.inl (by go_simp)⟩) ?_
  refine wpAnyE_take 2 (v := (.slice (some ⟨b, off, none⟩) (r.length + 2) c)) rfl (by kernel_rfl) (fun _ _ _ h => h) hI (fun w' hw' => Or.inl ⟨by kernel_rfl, Or.inl (by go_simp)⟩) ?_
  refine wpAnyE_take 3 (v := (.pointer (some ⟨b, off, none⟩))) rfl (by kernel_rfl) (fun _ _ _ h => h) hI (fun w' hw' => Or.inl ⟨by kernel_rfl, Or.inl (by go_simp; intro h7; exact absurd h7 (by omega))⟩) ?_
  refine wpAnyE_take 4 (v := (.pointer (some ⟨b, off + 2, none⟩))) rfl (by kernel_rfl) (fun _ _ _ h => h) hI (fun w' hw' => Or.inl ⟨by kernel_rfl, Or.inl (by go_simp)⟩) ?_
  refine wpAnyE_take 5 (v := (.slice a.tA a.text.length a.tc)) rfl (by kernel_rfl) (fun _ _ _ h => h) hI (fun w' hw' => Or.inl ⟨by kernel_rfl, Or.inl (by have y0 := cellL hw' hb (by simp) t0; go_simp)⟩) ?_
  refine wpAnyE_take 6 (v := (.string (strOfNums a.text))) rfl (by kernel_rfl) (fun _ _ _ h => h) hI (fun w' hw' => Or.inl ⟨by kernel_rfl, Or.inl (by have kc := conv_rd (c := a.tc) ((hF.ok a (by simp)).1.text.only hw'); go_simp)⟩) ?_
  refine wpAnyE_take 7 (v := (.slice (some ⟨b, off, none⟩) (r.length + 2) c)) rfl (by kernel_rfl) (fun _ _ _ h => h) hI (fun w' hw' => Or.inl ⟨by kernel_rfl, Or.inl (by go_simp)⟩) ?_
  refine wpAnyE_take 8 (v := (.pointer (some ⟨b, off + 4, none⟩))) rfl (by kernel_rfl) (fun _ _ _ h => h) hI (fun w' hw' => Or.inl ⟨by kernel_rfl, Or.inl (by go_simp; intro h7; exact absurd h7 (by omega))⟩) ?_
  refine wpAnyE_take 9 (v := (.pointer (some ⟨b, off + 4 + 2, none⟩))) rfl (by kernel_rfl) (fun _ _ _ h => h) hI (fun w' hw' => Or.inl ⟨by kernel_rfl, Or.inl (by go_simp)⟩) ?_
  refine wpAnyE_take 10 (v := (.slice d.tA d.text.length d.tc)) rfl (by kernel_rfl) (fun _ _ _ h => h) hI (fun w' hw' => Or.inl ⟨by kernel_rfl, Or.inl (by have y0 := cellL hw' hb (by simp) t1; go_simp)⟩) ?_
  refine wpAnyE_take 11 (v := (.string (strOfNums d.text))) rfl (by kernel_rfl) (fun _ _ _ h => h) hI (fun w' hw' => Or.inl ⟨by kernel_rfl, Or.inl (by have kc := conv_rd (c := d.tc) ((hF.ok d (by simp)).1.text.only hw'); go_simp)⟩) ?_
  refine wpAnyE_take 12 (v := (.pointer (some ⟨g, 0, none⟩))) rfl (by kernel_rfl) (fun _ _ _ h => h) hI (fun w' hw' => Or.inl ⟨by kernel_rfl, Or.inl (by go_simp)⟩) ?_
  refine wpAnyE_take 13 (v := (.pointer (some ⟨g, 0, none⟩))) rfl (by kernel_rfl) (fun _ _ _ h => h) hI (fun w' hw' => Or.inl ⟨by kernel_rfl, Or.inl (by go_simp)⟩) ?_
  refine wpAnyE_take 14 (v := (.pointer (some ⟨g, 1, none⟩))) rfl (by kernel_rfl) (fun _ _ _ h => h) hI (fun w' hw' => Or.inl ⟨by kernel_rfl, Or.inl (by go_simp)⟩) ?_
  refine wpAnyE_one 15 rfl (by kernel_rfl) hI (fun K hK => ?_)
  rw [if_pos (by kernel_rfl)]
  go_simp
  refine hK _ _ ?_
  clear hK K
  have hI := Only.setCell (p := ⟨g, 1, none⟩) hI (.inr hlt) (.string (strOfNums a.text))
  refine wpAnyE_take 16 (v := (.pointer (some ⟨g, 0, none⟩))) rfl (by kernel_rfl) (fun _ _ _ h => h) hI (fun w' hw' => Or.inl ⟨by kernel_rfl, Or.inl (by go_simp)⟩) ?_
  refine wpAnyE_take 17 (v := (.pointer (some ⟨g, 0, none⟩))) rfl (by kernel_rfl) (fun _ _ _ h => h) hI (fun w' hw' => Or.inl ⟨by kernel_rfl, Or.inl (by go_simp)⟩) ?_
  refine wpAnyE_take 18 (v := (.pointer (some ⟨g, 2, none⟩))) rfl (by kernel_rfl) (fun _ _ _ h => h) hI (fun w' hw' => Or.inl ⟨by kernel_rfl, Or.inl (by go_simp)⟩) ?_
  refine wpAnyE_one 19 rfl (by kernel_rfl) hI (fun K hK => ?_)
  rw [if_pos (by kernel_rfl)]
  go_simp
  refine hK _ _ ?_
  clear hK K
  have hI := Only.setCell (p := ⟨g, 2, none⟩) hI (.inr hlt) (.string (strOfNums d.text))
  refine wpAnyE_end (by kernel_rfl) hI ?_
  (try simp only [Exit.inBlock, Exit.then])
  (try go_wp2_with fail)
  go_end0
  exact ⟨rfl, ((((((Only.refl [g] w).drew)).setCell (p := ⟨g, 1, none⟩) (.inl (by simp)) (.string (strOfNums a.text)))).setCell (p := ⟨g, 2, none⟩) (.inl (by simp)) (.string (strOfNums d.text))), ((hg.drew).set_ 1 (.string (strOfNums a.text))).set_ 2 (.string (strOfNums d.text))⟩
set_option maxRecDepth 100000 in
set_option maxHeartbeats 1600000 in
theorem putSizeR_any (m : RQ) (g : Nat) (w0 w : World) (A : Option Addr) (a d u v : FD) (r : List FD) (c : Nat) (hF : RdF w0 A (a :: d :: u :: v :: r)) (hO : Only [] w0 w) (hlt : w0.heap.size ≤ g) (hg : Blk w g 119 m.cells) : Calls Tryz.prog 85 #[.pointer (some ⟨g, 0, none⟩), .slice A (r.length + 4) c] w fun e w' => e = .returned (.tuple #[]) ∧ Only [g] w w' ∧ Blk w' g 119 (RQ.cells { m with cols := a.n, rows := d.n, width := u.n, height := v.n }) := by
  obtain ⟨b, off, rfl, hb, hc⟩ := hF.cells (by simp)
  have hbg : ¬ b = g := by omega
  have hgl := hg.lt
  obtain ⟨_, n0, t0, _⟩ := hc 0 a rfl
  simp only [Nat.zero_mul, Nat.one_mul, Nat.reduceMul, Nat.add_zero] at n0 t0
  obtain ⟨_, n1, t1, _⟩ := hc 1 d rfl
  simp only [Nat.zero_mul, Nat.one_mul, Nat.reduceMul, Nat.add_zero] at n1 t1
  obtain ⟨_, n2, t2, _⟩ := hc 2 u rfl
  simp only [Nat.zero_mul, Nat.one_mul, Nat.reduceMul, Nat.add_zero] at n2 t2
  obtain ⟨_, n3, t3, _⟩ := hc 3 v rfl
  simp only [Nat.zero_mul, Nat.one_mul, Nat.reduceMul, Nat.add_zero] at n3 t3
  have hI0 : Only [] w0 { w with drawn := w.drawn + 1 } := hO.drew
  have g4 : w.cell? ⟨g, 4, none⟩ = some (.int .u32 m.cols) := hg.cell 4
  have z4 := hg.frozen 4
  have g5 : w.cell? ⟨g, 5, none⟩ = some (.int .u32 m.rows) := hg.cell 5
  have z5 := hg.frozen 5
  have g6 : w.cell? ⟨g, 6, none⟩ = some (.int .u32 m.width) := hg.cell 6
  have z6 := hg.frozen 6
  have g7 : w.cell? ⟨g, 7, none⟩ = some (.int .u32 m.height) := hg.cell 7
  have z7 := hg.frozen 7
  have hsl : (0 : Int) ≤ (r.length : Int) := Int.natCast_nonneg _
  clear hc
  go_enter Tryz.func85, Tryz.ntmps85
  go_wp2_with fail
  have hI : (fun w' : World => Only [] w0 w') { w with drawn := w.drawn + 1 } := hI0
  refine wp_region_E (fun w' : World => Only [] w0 w') [] (by kernel_rfl) ?_
  refine wpAnyE_take 0 (v := (.pointer (some ⟨g, 0, none⟩))) rfl (by kernel_rfl) (fun _ _ _ h => h) hI (fun w' hw' => Or.inl ⟨by kernel_rfl, Or.inl (by go_simp)⟩) ?_
  refine wpAnyE_take 1 (v := (.slice (some ⟨b, off, none⟩) (r.length + 4) c)) rfl (by kernel_rfl) (fun _ _ _ h => h) hI (fun w' hw' => Or.inl ⟨by kernel_rfl, Or.inl (by go_simp)⟩) ?_
  refine wpAnyE_take 2 (v := (.pointer (some ⟨b, off, none⟩))) rfl (by kernel_rfl) (fun _ _ _ h => h) hI (fun w' hw' => Or.inl ⟨by kernel_rfl, Or.inl (by go_simp; intro h7; exact absurd h7 (by omega))⟩) ?_
  refine wpAnyE_take 3 (v := (.pointer (some ⟨b, off + 1, none⟩))) rfl (by kernel_rfl) (fun _ _ _ h => h) hI (fun w' hw' => Or.inl ⟨by kernel_rfl, Or.inl (by go_simp)⟩) ?_
  refine wpAnyE_take 4 (v := (.int .u32 a.n)) rfl (by kernel_rfl) (fun _ _ _ h => h) hI (fun w' hw' => Or.inl ⟨by kernel_rfl, Or.inl (by have y0 := cellL hw' hb (by simp) n0; go_simp)⟩) ?_
  refine wpAnyE_take 5 (v := (.slice (some ⟨b, off, none⟩) (r.length + 4) c)) rfl (by kernel_rfl) (fun _ _ _ h => h) hI (fun w' hw' => Or.inl ⟨by kernel_rfl, Or.inl (by go_simp)⟩) ?_
  refine wpAnyE_take 6 (v := (.pointer (some ⟨b, off + 4, none⟩))) rfl (by kernel_rfl) (fun _ _ _ h => h) hI (fun w' hw' => Or.inl ⟨by kernel_rfl, Or.inl (by go_simp; intro h7; exact absurd h7 (by omega))⟩) ?_
  refine wpAnyE_take 7 (v := (.pointer (some ⟨b, off + 4 + 1, none⟩))) rfl (by kernel_rfl) (fun _ _ _ h => h) hI (fun w' hw' => Or.inl ⟨by kernel_rfl, Or.inl (by go_simp)⟩) ?_
  refine wpAnyE_take 8 (v := (.int .u32 d.n)) rfl (by kernel_rfl) (fun _ _ _ h => h) hI (fun w' hw' => Or.inl ⟨by kernel_rfl, Or.inl (by have y0 := cellL hw' hb (by simp) n1; go_simp)⟩) ?_
  refine wpAnyE_take 9 (v := (.slice (some ⟨b, off, none⟩) (r.length + 4) c)) rfl (by kernel_rfl) (fun _ _ _ h => h) hI (fun w' hw' => Or.inl ⟨by kernel_rfl, Or.inl (by go_simp)⟩) ?_
  refine wpAnyE_take 10 (v := (.pointer (some ⟨b, off + 8, none⟩))) rfl (by kernel_rfl) (fun _ _ _ h => h) hI (fun w' hw' => Or.inl ⟨by kernel_rfl, Or.inl (by go_simp; intro h7; exact absurd h7 (by omega))⟩) ?_
  refine wpAnyE_take 11 (v := (.pointer (some ⟨b, off + 8 + 1, none⟩))) rfl (by kernel_rfl) (fun _ _ _ h => h) hI (fun w' hw' => Or.inl ⟨by kernel_rfl, Or.inl (by go_simp)⟩) ?_
  refine wpAnyE_take 12 (v := (.int .u32 u.n)) rfl (by kernel_rfl) (fun _ _ _ h => h) hI (fun w' hw' => Or.inl ⟨by kernel_rfl, Or.inl (by have y0 := cellL hw' hb (by simp) n2; go_simp)⟩) ?_
  refine wpAnyE_take 13 (v := (.slice (some ⟨b, off, none⟩) (r.length + 4) c)) rfl (by kernel_rfl) (fun _ _ _ h => h) hI (fun w' hw' => Or.inl ⟨by kernel_rfl, Or.inl (by go_simp)⟩) ?_
  refine wpAnyE_take 14 (v := (.pointer (some ⟨b, off + 12, none⟩))) rfl (by kernel_rfl) (fun _ _ _ h => h) hI (fun w' hw' => Or.inl ⟨by kernel_rfl, Or.inl (by go_simp; intro h7; exact absurd h7 (by omega))⟩) ?_
  refine wpAnyE_take 15 (v := (.pointer (some ⟨b, off + 12 + 1, none⟩))) rfl (by kernel_rfl) (fun _ _ _ h => h) hI (fun w' hw' => Or.inl ⟨by kernel_rfl, Or.inl (by go_simp)⟩) ?_
  refine wpAnyE_take 16 (v := (.int .u32 v.n)) rfl (by kernel_rfl) (fun _ _ _ h => h) hI (fun w' hw' => Or.inl ⟨by kernel_rfl, Or.inl (by have y0 := cellL hw' hb (by simp) n3; go_simp)⟩) ?_
  refine wpAnyE_take 17 (v := (.agg #[.int .u32 a.n, .int .u32 d.n, .int .u32 u.n, .int .u32 v.n])) rfl (by kernel_rfl) (fun _ _ _ h => h) hI (fun w' hw' => Or.inl ⟨by kernel_rfl, Or.inl (by go_simp)⟩) ?_
  refine wpAnyE_take 18 (v := (.pointer (some ⟨g, 0, none⟩))) rfl (by kernel_rfl) (fun _ _ _ h => h) hI (fun w' hw' => Or.inl ⟨by kernel_rfl, Or.inl (by go_simp)⟩) ?_
  refine wpAnyE_take 19 (v := (.pointer (some ⟨g, 0, none⟩))) rfl (by kernel_rfl) (fun _ _ _ h => h) hI (fun w' hw' => Or.inl ⟨by kernel_rfl, Or.inl (by go_simp)⟩) ?_
  refine wpAnyE_take 20 (v := (.pointer (some ⟨g, 4, none⟩))) rfl (by kernel_rfl) (fun _ _ _ h => h) hI (fun w' hw' => Or.inl ⟨by kernel_rfl, Or.inl (by go_simp)⟩) ?_
  refine wpAnyE_one 21 rfl (by kernel_rfl) hI (fun K hK => ?_)
  rw [if_pos (by kernel_rfl)]
  go_simp
  refine hK _ _ ?_
  clear hK K
  have hI := Only.setCell (p := ⟨g, 4, none⟩) hI (.inr hlt) (.int .u32 a.n)
  have hI := Only.setCell (p := ⟨g, 5, none⟩) hI (.inr hlt) (.int .u32 d.n)
  have hI := Only.setCell (p := ⟨g, 6, none⟩) hI (.inr hlt) (.int .u32 u.n)
  have hI := Only.setCell (p := ⟨g, 7, none⟩) hI (.inr hlt) (.int .u32 v.n)
  refine wpAnyE_end (by kernel_rfl) hI ?_
  (try simp only [Exit.inBlock, Exit.then])
  (try go_wp2_with fail)
  go_end0
  exact ⟨rfl, ((((((((((Only.refl [g] w).drew)).setCell (p := ⟨g, 4, none⟩) (.inl (by simp)) (.int .u32 a.n))).setCell (p := ⟨g, 5, none⟩) (.inl (by simp)) (.int .u32 d.n))).setCell (p := ⟨g, 6, none⟩) (.inl (by simp)) (.int .u32 u.n))).setCell (p := ⟨g, 7, none⟩) (.inl (by simp)) (.int .u32 v.n)), ((((hg.drew).set_ 4 (.int .u32 a.n)).set_ 5 (.int .u32 d.n)).set_ 6 (.int .u32 u.n)).set_ 7 (.int .u32 v.n)⟩
set_option maxRecDepth 100000 in
set_option maxHeartbeats 1600000 in
theorem putDeathR_any (m : RQ) (g : Nat) (w0 w : World) (A : Option Addr) (a d u v : FD) (r : List FD) (c : Nat) (hF : RdF w0 A (a :: d :: u :: v :: r)) (hO : Only [] w0 w) (hlt : w0.heap.size ≤ g) (hg : Blk w g 119 m.cells) : Calls Tryz.prog 91 #[.pointer (some ⟨g, 0, none⟩), .slice A (r.length + 4) c] w fun e w' => e = .returned (.tuple #[]) ∧ Only [g] w w' ∧ Blk w' g 119 (RQ.cells { m with text := strOfNums a.text, on := decide (d.n = 1), value := strOfNums u.text, lang := strOfNums v.text }) := by
  obtain ⟨on, hon⟩ : ∃ on, decide (d.n = 1) = on := ⟨_, rfl⟩
  rw [hon]
  have hon2 : (d.n == 1) = on := hon
  clear hon
  obtain ⟨b, off, rfl, hb, hc⟩ := hF.cells (by simp)
  have hbg : ¬ b = g := by omega
  have hgl := hg.lt
  obtain ⟨_, n0, t0, _⟩ := hc 0 a rfl
  simp only [Nat.zero_mul, Nat.one_mul, Nat.reduceMul, Nat.add_zero] at n0 t0
  obtain ⟨_, n1, t1, _⟩ := hc 1 d rfl
  simp only [Nat.zero_mul, Nat.one_mul, Nat.reduceMul, Nat.add_zero] at n1 t1
  obtain ⟨_, n2, t2, _⟩ := hc 2 u rfl
  simp only [Nat.zero_mul, Nat.one_mul, Nat.reduceMul, Nat.add_zero] at n2 t2
  obtain ⟨_, n3, t3, _⟩ := hc 3 v rfl
  simp only [Nat.zero_mul, Nat.one_mul, Nat.reduceMul, Nat.add_zero] at n3 t3
  have hI0 : Only [] w0 { w with drawn := w.drawn + 1 } := hO.drew
  have g1 : w.cell? ⟨g, 1, none⟩ = some (.string m.text) := hg.cell 1
  have z1 := hg.frozen 1
  have g9 : w.cell? ⟨g, 9, none⟩ = some (.bool m.on) := hg.cell 9
  have z9 := hg.frozen 9
  have g2 : w.cell? ⟨g, 2, none⟩ = some (.string m.value) := hg.cell 2
  have z2 := hg.frozen 2
  have g3 : w.cell? ⟨g, 3, none⟩ = some (.string m.lang) := hg.cell 3
  have z3 := hg.frozen 3
  have hsl : (0 : Int) ≤ (r.length : Int) := Int.natCast_nonneg _
  clear hc
  go_enter Tryz.func91, Tryz.ntmps91
  go_wp2_with fail
  have hI : (fun w' : World => Only [] w0 w') { w with drawn := w.drawn + 1 } := hI0
  refine wp_region_E (fun w' : World => Only [] w0 w') [] (by kernel_rfl) ?_
  refine wpAnyE_take 0 (v := (.pointer (some ⟨g, 0, none⟩))) rfl (by kernel_rfl) (fun _ _ _ h => h) hI (fun w' hw' => Or.inl ⟨by kernel_rfl, Or.inl (by go_simp)⟩) ?_
  refine wpAnyE_take 1 (v := (.pointer (some ⟨g, 0, none⟩))) rfl (by kernel_rfl) (fun _ _ _ h => h) hI (fun w' hw' => Or.inl ⟨by kernel_rfl, Or.inl (by go_simp)⟩) ?_
  refine wpAnyE_take 2 (v := (.pointer (some ⟨g, 0, none⟩))) rfl (by kernel_rfl) (fun _ _ _ h => h) hI (fun w' hw' => Or.inl ⟨by kernel_rfl, Or.inl (by go_simp)⟩) ?_
  refine wpAnyE_take 3 (v := (.pointer (some ⟨g, 0, none⟩))) rfl (by kernel_rfl) (fun _ _ _ h => h) hI (fun w' hw' => Or.inl ⟨by kernel_rfl, Or.inl (by go_simp)⟩) ?_
  refine wpAnyE_take 4 (v := (.slice (some ⟨b, off, none⟩) (r.length + 4) c)) rfl (by kernel_rfl) (fun _ _ _ h => h) hI (fun w' hw' => Or.inl ⟨by kernel_rfl, Or.inl (by go_simp)⟩) ?_
  refine wpAnyE_take 5 (v := (.pointer (some ⟨b, off, none⟩))) rfl (by kernel_rfl) (fun _ _ _ h => h) hI (fun w' hw' => Or.inl ⟨by kernel_rfl, Or.inl (by go_simp; intro h7; exact absurd h7 (by omega))⟩) ?_
  refine wpAnyE_take 6 (v := (.pointer (some ⟨b, off + 2, none⟩))) rfl (by kernel_rfl) (fun _ _ _ h => h) hI (fun w' hw' => Or.inl ⟨by kernel_rfl, Or.inl (by go_simp)⟩) ?_
  refine wpAnyE_take 7 (v := (.slice a.tA a.text.length a.tc)) rfl (by kernel_rfl) (fun _ _ _ h => h) hI (fun w' hw' => Or.inl ⟨by kernel_rfl, Or.inl (by have y0 := cellL hw' hb (by simp) t0; go_simp)⟩) ?_
  refine wpAnyE_take 8 (v := (.string (strOfNums a.text))) rfl (by kernel_rfl) (fun _ _ _ h => h) hI (fun w' hw' => Or.inl ⟨by kernel_rfl, Or.inl (by have kc := conv_rd (c := a.tc) ((hF.ok a (by simp)).1.text.only hw'); go_simp)⟩) ?_
  refine wpAnyE_take 9 (v := (.slice (some ⟨b, off, none⟩) (r.length + 4) c)) rfl (by kernel_rfl) (fun _ _ _ h => h) hI (fun w' hw' => Or.inl ⟨by kernel_rfl, Or.inl (by go_simp)⟩) ?_
  refine wpAnyE_take 10 (v := (.pointer (some ⟨b, off + 4, none⟩))) rfl (by kernel_rfl) (fun _ _ _ h => h) hI (fun w' hw' => Or.inl ⟨by kernel_rfl, Or.inl (by go_simp; intro h7; exact absurd h7 (by omega))⟩) ?_
  refine wpAnyE_take 11 (v := (.pointer (some ⟨b, off + 4 + 1, none⟩))) rfl (by kernel_rfl) (fun _ _ _ h => h) hI (fun w' hw' => Or.inl ⟨by kernel_rfl, Or.inl (by go_simp)⟩) ?_
  refine wpAnyE_take 12 (v := (.int .u32 d.n)) rfl (by kernel_rfl) (fun _ _ _ h => h) hI (fun w' hw' => Or.inl ⟨by kernel_rfl, Or.inl (by have y0 := cellL hw' hb (by simp) n1; go_simp)⟩) ?_
  refine wpAnyE_take 13 (v := (.bool on)) rfl (by kernel_rfl) (fun _ _ _ h => h) hI (fun w' hw' => Or.inl ⟨by kernel_rfl, Or.inl (by go_simp)⟩) ?_
  refine wpAnyE_take 14 (v := (.slice (some ⟨b, off, none⟩) (r.length + 4) c)) rfl (by kernel_rfl) (fun _ _ _ h => h) hI (fun w' hw' => Or.inl ⟨by kernel_rfl, Or.inl (by go_simp)⟩) ?_
  refine wpAnyE_take 15 (v := (.pointer (some ⟨b, off + 8, none⟩))) rfl (by kernel_rfl) (fun _ _ _ h => h) hI (fun w' hw' => Or.inl ⟨by kernel_rfl, Or.inl (by go_simp; intro h7; exact absurd h7 (by omega))⟩) ?_
  refine wpAnyE_take 16 (v := (.pointer (some ⟨b, off + 8 + 2, none⟩))) rfl (by kernel_rfl) (fun _ _ _ h => h) hI (fun w' hw' => Or.inl ⟨by kernel_rfl, Or.inl (by go_simp)⟩) ?_
  refine wpAnyE_take 17 (v := (.slice u.tA u.text.length u.tc)) rfl (by kernel_rfl) (fun _ _ _ h => h) hI (fun w' hw' => Or.inl ⟨by kernel_rfl, Or.inl (by have y0 := cellL hw' hb (by simp) t2; go_simp)⟩) ?_
  refine wpAnyE_take 18 (v := (.string (strOfNums u.text))) rfl (by kernel_rfl) (fun _ _ _ h => h) hI (fun w' hw' => Or.inl ⟨by kernel_rfl, Or.inl (by have kc := conv_rd (c := u.tc) ((hF.ok u (by simp)).1.text.only hw'); go_simp)⟩) ?_
  refine wpAnyE_take 19 (v := (.slice (some ⟨b, off, none⟩) (r.length + 4) c)) rfl (by kernel_rfl) (fun _ _ _ h => h) hI (fun w' hw' => Or.inl ⟨by kernel_rfl, Or.inl (by go_simp)⟩) ?_
  refine wpAnyE_take 20 (v := (.pointer (some ⟨b, off + 12, none⟩))) rfl (by kernel_rfl) (fun _ _ _ h => h) hI (fun w' hw' => Or.inl ⟨by kernel_rfl, Or.inl (by go_simp; intro h7; exact absurd h7 (by omega))⟩) ?_
  refine wpAnyE_take 21 (v := (.pointer (some ⟨b, off + 12 + 2, none⟩))) rfl (by kernel_rfl) (fun _ _ _ h => h) hI (fun w' hw' => Or.inl ⟨by kernel_rfl, Or.inl (by go_simp)⟩) ?_
  refine wpAnyE_take 22 (v := (.slice v.tA v.text.length v.tc)) rfl (by kernel_rfl) (fun _ _ _ h => h) hI (fun w' hw' => Or.inl ⟨by kernel_rfl, Or.inl (by have y0 := cellL hw' hb (by simp) t3; go_simp)⟩) ?_
  refine wpAnyE_take 23 (v := (.string (strOfNums v.text))) rfl (by kernel_rfl) (fun _ _ _ h => h) hI (fun w' hw' => Or.inl ⟨by kernel_rfl, Or.inl (by have kc := conv_rd (c := v.tc) ((hF.ok v (by simp)).1.text.only hw'); go_simp)⟩) ?_
  refine wpAnyE_take 24 (v := (.pointer (some ⟨g, 0, none⟩))) rfl (by kernel_rfl) (fun _ _ _ h => h) hI (fun w' hw' => Or.inl ⟨by kernel_rfl, Or.inl (by go_simp)⟩) ?_
  refine wpAnyE_take 25 (v := (.pointer (some ⟨g, 0, none⟩))) rfl (by kernel_rfl) (fun _ _ _ h => h) hI (fun w' hw' => Or.inl ⟨by kernel_rfl, Or.inl (by go_simp)⟩) ?_
  refine wpAnyE_take 26 (v := (.pointer (some ⟨g, 1, none⟩))) rfl (by kernel_rfl) (fun _ _ _ h => h) hI (fun w' hw' => Or.inl ⟨by kernel_rfl, Or.inl (by go_simp)⟩) ?_
  refine wpAnyE_one 27 rfl (by kernel_rfl) hI (fun K hK => ?_)
  rw [if_pos (by kernel_rfl)]
  go_simp
  refine hK _ _ ?_
  clear hK K
  have hI := Only.setCell (p := ⟨g, 1, none⟩) hI (.inr hlt) (.string (strOfNums a.text))
  refine wpAnyE_take 28 (v := (.pointer (some ⟨g, 0, none⟩))) rfl (by kernel_rfl) (fun _ _ _ h => h) hI (fun w' hw' => Or.inl ⟨by kernel_rfl, Or.inl (by go_simp)⟩) ?_
  refine wpAnyE_take 29 (v := (.pointer (some ⟨g, 0, none⟩))) rfl (by kernel_rfl) (fun _ _ _ h => h) hI (fun w' hw' => Or.inl ⟨by kernel_rfl, Or.inl (by go_simp)⟩) ?_
  refine wpAnyE_take 30 (v := (.pointer (some ⟨g, 9, none⟩))) rfl (by kernel_rfl) (fun _ _ _ h => h) hI (fun w' hw' => Or.inl ⟨by kernel_rfl, Or.inl (by go_simp)⟩) ?_
  refine wpAnyE_one 31 rfl (by kernel_rfl) hI (fun K hK => ?_)
  rw [if_pos (by kernel_rfl)]
  go_simp
  refine hK _ _ ?_
  clear hK K
  have hI := Only.setCell (p := ⟨g, 9, none⟩) hI (.inr hlt) (.bool on)
  refine wpAnyE_take 32 (v := (.pointer (some ⟨g, 0, none⟩))) rfl (by kernel_rfl) (fun _ _ _ h => h) hI (fun w' hw' => Or.inl ⟨by kernel_rfl, Or.inl (by go_simp)⟩) ?_
  refine wpAnyE_take 33 (v := (.pointer (some ⟨g, 0, none⟩))) rfl (by kernel_rfl) (fun _ _ _ h => h) hI (fun w' hw' => Or.inl ⟨by kernel_rfl, Or.inl (by go_simp)⟩) ?_
  refine wpAnyE_take 34 (v := (.pointer (some ⟨g, 2, none⟩))) rfl (by kernel_rfl) (fun _ _ _ h => h) hI (fun w' hw' => Or.inl ⟨by kernel_rfl, Or.inl (by go_simp)⟩) ?_
  refine wpAnyE_one 35 rfl (by kernel_rfl) hI (fun K hK => ?_)
  rw [if_pos (by kernel_rfl)]
  go_simp
  refine hK _ _ ?_
  clear hK K
  have hI := Only.setCell (p := ⟨g, 2, none⟩) hI (.inr hlt) (.string (strOfNums u.text))
  refine wpAnyE_take 36 (v := (.pointer (some ⟨g, 0, none⟩))) rfl (by kernel_rfl) (fun _ _ _ h => h) hI (fun w' hw' => Or.inl ⟨by kernel_rfl, Or.inl (by go_simp)⟩) ?_
  refine wpAnyE_take 37 (v := (.pointer (some ⟨g, 0, none⟩))) rfl (by kernel_rfl) (fun _ _ _ h => h) hI (fun w' hw' => Or.inl ⟨by kernel_rfl, Or.inl (by go_simp)⟩) ?_
  refine wpAnyE_take 38 (v := (.pointer (some ⟨g, 3, none⟩))) rfl (by kernel_rfl) (fun _ _ _ h => h) hI (fun w' hw' => Or.inl ⟨by kernel_rfl, Or.inl (by go_simp)⟩) ?_
  refine wpAnyE_one 39 rfl (by kernel_rfl) hI (fun K hK => ?_)
  rw [if_pos (by kernel_rfl)]
  go_simp
  refine hK _ _ ?_
  clear hK K
  have hI := Only.setCell (p := ⟨g, 3, none⟩) hI (.inr hlt) (.string (strOfNums v.text))
  refine wpAnyE_end (by kernel_rfl) hI ?_
  (try simp only [Exit.inBlock, Exit.then])
  (try go_wp2_with fail)
  go_end0
  exact ⟨rfl, ((((((((((Only.refl [g] w).drew)).setCell (p := ⟨g, 1, none⟩) (.inl (by simp)) (.string (strOfNums a.text)))).setCell (p := ⟨g, 9, none⟩) (.inl (by simp)) (.bool on))).setCell (p := ⟨g, 2, none⟩) (.inl (by simp)) (.string (strOfNums u.text)))).setCell (p := ⟨g, 3, none⟩) (.inl (by simp)) (.string (strOfNums v.text))), ((((hg.drew).set_ 1 (.string (strOfNums a.text))).set_ 9 (.bool on)).set_ 2 (.string (strOfNums u.text))).set_ 3 (.string (strOfNums v.text))⟩
set_option maxRecDepth 100000 in
set_option maxHeartbeats 1600000 in
theorem putPtyR_any (m : RQ) (g : Nat) (w0 w : World) (A : Option Addr) (a b1 c1 d1 e1 f1 : FD) (r : List FD) (c : Nat) (hF : RdF w0 A (a :: b1 :: c1 :: d1 :: e1 :: f1 :: r)) (hO : Only [] w0 w) (hlt : w0.heap.size ≤ g) (hg : Blk w g 119 m.cells) (h6 : r.length + 6 ≤ c) (hcm : c ≤ maxLen) : Calls Tryz.prog 72 #[.pointer (some ⟨g, 0, none⟩), .slice A (r.length + 6) c] w fun e w' => e = .returned (.tuple #[]) ∧ Only [g] w w' ∧ Blk w' g 119 (RQ.cells { m with text := strOfNums a.text, cols := b1.n, rows := c1.n, width := d1.n, height := e1.n, mA := f1.tA, mc := f1.tc, modes := f1.text }) := by
  have TX := putTextR_any m g w0 w A a (b1 :: c1 :: d1 :: e1 :: f1 :: r) c hF hO hlt hg
  obtain ⟨b, off, rfl, hb, hc⟩ := hF.cells (by simp)
  have hF2 : RdF w0 (some ⟨b, off + 4, none⟩) (b1 :: c1 :: d1 :: e1 :: f1 :: r) := ⟨fun _ => ⟨b, off + 4, rfl, hb, fun i f hi => by
    have := hc (i + 1) f (by simpa using hi)
    rw [show off + (i + 1) * 4 = off + 4 + i * 4 by omega] at this
    exact this⟩, fun f hf => hF.ok f (List.mem_cons_of_mem _ hf)⟩
  obtain ⟨_, _, t5, _⟩ := hc 5 f1 rfl
  simp only [Nat.reduceMul] at t5
  rw [show (b1 :: c1 :: d1 :: e1 :: f1 :: r).length + 1 = r.length + 6 by simp] at TX
  have i1 : (1 : Int) ≤ (r.length : Int) + 6 := by omega
  have i2 : (1 : Int) < (c : Int) := by omega
  have i3 : ((r.length : Int) + 6) ≤ (c : Int) := by omega
  have i5 : (5 : Int) < (r.length : Int) + 6 := by omega
  clear hc
  go_enter Tryz.func72, Tryz.ntmps72
  go_wp2_with fail
  go_call TX as e w1 ⟨rfl, P1, K1⟩
  clear TX
  have O1 : Only [] w0 w1 := hO.trans P1 (fun x hx => .inr (by simp at hx; omega))
  have TS := putSizeR_any _ g w0 w1 _ b1 c1 d1 e1 (f1 :: r) (c - 1) hF2 O1 hlt K1
  rw [show (f1 :: r).length + 4 = r.length + 5 by simp] at TS
  go_wp2_with fail
  go_call TS as e w2 ⟨rfl, P2, K2⟩
  clear TS
  have O2 : Only [] w0 w2 := O1.trans P2 (fun x hx => .inr (by simp at hx; omega))
  have t5 := cellL O2 hb (by simp) t5
  have c8 := K2.cell 8
  have z8 := K2.frozen 8
  have hb2 := K2.set_ 8 (.slice f1.tA f1.text.length f1.tc)
  have hO2 : Only [g] w (w2.setCell ⟨g, 8, none⟩ (.slice f1.tA f1.text.length f1.tc)) := ((P1.trans P2 (fun x hx => .inl hx)).setCell (p := ⟨g, 8, none⟩) (.inl (by simp)) _)
  go_wp2
  go_end0
  exact ⟨rfl, hO2, hb2⟩
end Go.Proofs.YtdplnedpbkpgpaaGreatDoor

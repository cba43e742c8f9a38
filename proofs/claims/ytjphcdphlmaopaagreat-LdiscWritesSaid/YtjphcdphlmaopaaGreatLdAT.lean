/- Layer 16: bytes written apart are written at once, and go out as they are made; for all settings and bytes; no condition. -/
import Derived.Test.YtjphcdphlmaopaaGreatLdAS
import Derived.Test.YtjphcdphlmaopaaGreatLdOpn
namespace Go.Proofs.YtjphcdphlmaopaaGreat
set_option linter.all false
set_option maxRecDepth 100000
open Go.RowKit

/-- What LdiscWrites is handed. -/
structure WD where
  t : TM
  A : Option Addr
  cap : Nat
  b : List Int
  cut : Int
  n : Int
def WD.sc (x : WD) : List SC := x.t.sc ++ [.v (.slice x.A x.b.length x.cap), .v (.int .u16 x.cut), .v (.int .u8 x.n)]
def WD.cells (x : WD) : List Value := x.t.cells ++ [.slice x.A x.b.length x.cap, .int .u16 x.cut, .int .u8 x.n]
theorem Nx.keepR {w w1 w2 : World} {L1 β : List Nat} {hp : List HB} {D1 : World → Prop} {A : Option Addr} {c : Nat} {l : List Int} (C : Nx w w1 L1 D1) (H : Mem w1 L1 β hp w2) {k g : Nat} {T : TypeId} {cs : List SC} (hβ : β[k]? = some g) (hk : hp[k]? = some (.b true T cs)) (h : RdU w A c l) : Keeps w2 [g] (fun w => RdU w A c l) := fun w3 O3 =>
  h.only (C.back w3 (H.only.trans O3 (fun x hx => by
    rw [List.mem_singleton.1 hx]
    exact Nx.key H g (wrN_mem.2 ⟨k, _, g, hk, hβ, rfl, rfl⟩))))
def outD (t : TM) (b : List Int) (r : List Int) : DM := { wroteD t b with out := r }
theorem out_some {t : TM} {b r : List Int} {k : Nat} : outputD (outD t b r) k = (outD t b (r.drop (min k r.length)), r.take (min k r.length)) := by
  have h : outN (outD t b r) k = min k r.length := by
    unfold outN
    show (max 0 (min (k : Int) (r.length : Int))).toNat = _
    omega
  unfold outputD
  rw [if_neg (show ¬ (outD t b r).st = true from fun h => by cases h), h]
  rfl
set_option maxHeartbeats 4000000 in
theorem writes_walk (x : WD) (w : World) (hb : RdU w x.A x.cap x.b) (hc : 0 ≤ x.cut ∧ x.cut < 65536) (hn : 0 ≤ x.n ∧ x.n < 256) : Calls Tryz.prog 7 #[.agg x.cells.toArray] w (fun e w' => e = .returned (.bool true) ∧ Only [] w w') := by
  obtain ⟨t, A, cap, b, cut, n⟩ := x
  have hb : RdU w A cap b := hb
  have hc : 0 ≤ cut ∧ cut < 65536 := hc
  have hn : 0 ≤ n ∧ n < 256 := hn
  have hlen : b.length ≤ maxLen := Nat.le_trans hb.2.1 hb.2.2
  obtain ⟨kk, hkk⟩ : ∃ kk : Nat, kk = n.toNat + 1 := ⟨_, rfl⟩
  have ek : IntKind.i64.wrap (1 + IntKind.i64.wrap n) = ((kk : Nat) : Int) := by rw [IntWalk.i64_in n (by omega), IntWalk.i64_in _ (by omega)]; omega
  have LO : b.length ≤ 1500 → ∀ (b0 b1 g b3 b4 : Nat) (A3 : Option Addr) (c3 : Nat) (m : Nat) (r : List Int), r.length ≤ m → ∀ (acc : List Int), acc ++ r = (postC t 0 b).2 → ∀ (n4 : Nat), acc.length = n4 → ∀ (s : DS) (A4 : Option Addr) (c4 : Nat) (w2 : World) (L2 : List Nat), Nx w w2 L2 (fun w => Data s (outD t b r) w ∧ True) → ∀ (u : Nat → Value), Hs Tryz.prog 7 (fun e w' => e = .returned (.bool true) ∧ Only [] w w') (Tryz.f7).ntmps w2 L2 [b0, b1, g, b3, b4] ⟨.no, loopAt Tryz.f7 0, pins [(6, .c (.v (.int .u8 n))), (8, .c (.p 2 0)), (10, .c (.v (.slice A3 (postC t 0 b).2.length c3))), (11, .c (.v (.int .i64 (postC t 0 b).1))), (12, .c (.v (.slice A4 n4 c4)))] (.vals u), [.b true 64 (WD.sc ⟨t, A, cap, b, cut, n⟩), .b true 26 t.sc, .b true 53 (discSC (outD t b r) s), .s A3 c3 (postC t 0 b).2.length 5 1 ((postC t 0 b).2.flatMap cu8), .s A4 c4 n4 5 1 (acc.flatMap cu8)]⟩ := by
    intro h1500 b0 b1 g b3 b4 A3 c3 m
    have hpl := (post_rng (t := t) (b := b) (col := 0) (by omega)).2
    have hfew : ∀ r acc, acc ++ r = (postC t 0 b).2 → Few (outD t b r) := fun r acc h => by
      have h2 : acc.length + r.length = (postC t 0 b).2.length := by rw [← h, List.length_append]
      exact ⟨Nat.zero_le _, Nat.zero_le _, by show r.length ≤ _; omega, Nat.zero_le _, Nat.zero_le _⟩
    have base : ∀ (acc : List Int), acc = (postC t 0 b).2 → ∀ (n4 : Nat), acc.length = n4 → ∀ (s : DS) (A4 : Option Addr) (c4 : Nat) (w2 : World) (L2 : List Nat), Nx w w2 L2 (fun w => Data s (outD t b []) w ∧ True) → ∀ (u : Nat → Value), Hs Tryz.prog 7 (fun e w' => e = .returned (.bool true) ∧ Only [] w w') (Tryz.f7).ntmps w2 L2 [b0, b1, g, b3, b4] ⟨.no, loopAt Tryz.f7 0, pins [(6, .c (.v (.int .u8 n))), (8, .c (.p 2 0)), (10, .c (.v (.slice A3 (postC t 0 b).2.length c3))), (11, .c (.v (.int .i64 (postC t 0 b).1))), (12, .c (.v (.slice A4 n4 c4)))] (.vals u), [.b true 64 (WD.sc ⟨t, A, cap, b, cut, n⟩), .b true 26 t.sc, .b true 53 (discSC (outD t b []) s), .s A3 c3 (postC t 0 b).2.length 5 1 ((postC t 0 b).2.flatMap cu8), .s A4 c4 n4 5 1 (acc.flatMap cu8)]⟩ := by
      intro acc hacc n4 hn4 s A4 c4 w2 L2 N u
      subst hn4
      subst hacc
      refine Hs.run0 300 (fun _ => by kernel_rfl) ?_
      refine Hs.condF (by kernel_rfl) ?_
      refine Hs.run0 300 (fun _ => by kernel_rfl) ?_
      refine Hs.callV (fun w' H => bytes16_true A4 A3 c4 c3 (postC t 0 b).2 (postC t 0 b).2.length (postC t 0 b).2.length rfl rfl w' (H.rdX (cf := cu8) (A := A4) (cap := c4) (E := 5) (size := 1) 4 rfl (by kernel_rfl)) (H.rdX (cf := cu8) (A := A3) (cap := c3) (E := 5) (size := 1) 3 rfl (by kernel_rfl)) (by unfold maxLen; omega)) (by kernel_rfl) ?_
      refine Hs.rung0 [3] 300 (fun _ => by kernel_rfl) ?_
      exact Hs.ret (v := .bool ((postC t 0 b).1 == (postC t 0 b).1)) Tryz.func7 (by kernel_rfl) fun w' H => ⟨by simp, N.only H⟩
    induction m with
    | zero =>
      intro r hr acc hacc n4 hn4 s A4 c4 w2 L2 N u
      have h0 : r = [] := List.length_eq_zero_iff.1 (by omega)
      subst h0
      exact base acc (by rw [← hacc, List.append_nil]) n4 hn4 s A4 c4 w2 L2 N u
    | succ m ihm =>
      intro r hr acc hacc n4 hn4 s A4 c4 w2 L2 N u
      by_cases h0 : r.length = 0
      · have h0 : r = [] := List.length_eq_zero_iff.1 h0
        subst h0
        exact base acc (by rw [← hacc, List.append_nil]) n4 hn4 s A4 c4 w2 L2 N u
      obtain ⟨q, hq⟩ : ∃ q, q = min kk r.length := ⟨_, rfl⟩
      have hql : q ≤ r.length := by omega
      have hq0 : 0 < q := by omega
      have htl : (r.take q).length = q := by rw [List.length_take, Nat.min_eq_left hql]
      have hdl : (r.drop q).length = r.length - q := List.length_drop
      have hll : acc.length + r.length = (postC t 0 b).2.length := by rw [← hacc, List.length_append]
      have hC := fun w' hD => output_any (outD t b r) s g kk w' hD (hfew r acc hacc)
      rw [out_some, ← hq] at hC
      refine Hs.run0 300 (fun _ => by kernel_rfl) ?_
      refine Hs.condP ((r.length : Int) > 0) (by kernel_rfl) (fun _ => ?_) (fun h => by omega)
      refine Hs.run0 300 (fun _ => by kernel_rfl) ?_
      refine Hs.slot 87 (.c (.v (.int .i64 (kk : Nat)))) rfl ((by kernel_rfl : _ = Value.int .i64 (IntKind.i64.wrap (1 + IntKind.i64.wrap n))).trans (by rw [ek]; rfl)) ?_
      refine Hs.callNR (s := s) (d := outD t b r) (d' := outD t b (r.drop q)) (l := r.take q) (v := fun A c => .slice A (r.take q).length c) 2 N rfl (by kernel_rfl) (fun w' H hD => hC w' hD) (by kernel_rfl) (by kernel_rfl) (fun _ => (by kernel_rfl)) fun s2 A5 c5 w3 L3 N3 => ?_
      refine Hs.run0 300 (fun _ => by kernel_rfl) ?_
      refine Hs.bool 92 (((r.take q).length : Int) == 0) (by kernel_rfl) (fun h => by rw [htl] at h; simp at h; omega) (fun _ => ?_)
      refine Hs.rung0 [3] 300 (fun _ => by kernel_rfl) ?_
      refine Hs.condP (((r.take q).length : Int) > IntKind.i64.wrap (1 + IntKind.i64.wrap n)) (by kernel_rfl) (fun h => by rw [ek, htl] at h; omega) (fun _ => ?_)
      refine Hs.run0 300 (fun _ => by kernel_rfl) ?_
      refine Hs.app (cf := cu8) (c := c5) (ty := 27) 4 elemU8 acc (r.take q) n4 (r.take q).length hn4 rfl cu8_one cu8_len (A := A4) (B := A5) (cap := c4) (by kernel_rfl) (by kernel_rfl) (by kernel_rfl) (fun w' H => (N3.now H).1.2.1) (by unfold maxLen; omega) (by rw [by_u8]; omega) fun A6 c6 h6 => ?_
      refine Hs.run0 300 (fun _ => by kernel_rfl) ?_
      refine Hs.loop (by kernel_rfl) ?_
      exact Hs.goto (loopAt Tryz.f7 0) [0, 1, 2, 3, 4] [.b true 64 (WD.sc ⟨t, A, cap, b, cut, n⟩), .b true 26 t.sc, .b true 53 (discSC (outD t b (r.drop q)) s2), .s A3 c3 (postC t 0 b).2.length 5 1 ((postC t 0 b).2.flatMap cu8), .s A6 c6 (n4 + (r.take q).length) 5 1 ((acc ++ r.take q).flatMap cu8)] [(6, .c (.v (.int .u8 n))), (8, .c (.p 2 0)), (10, .c (.v (.slice A3 (postC t 0 b).2.length c3))), (11, .c (.v (.int .i64 (postC t 0 b).1))), (12, .c (.v (.slice A6 (n4 + (r.take q).length) c6)))] (by kernel_rfl) (by decide) (by kernel_rfl) (by kernel_rfl) (fun _ => (by kernel_rfl)) (fun u => ihm (r.drop q) (by omega) (acc ++ r.take q) (by rw [List.append_assoc, List.take_append_drop]; exact hacc) _ (by rw [List.length_append, hn4]) s2 A6 c6 w3 L3 (N3.imp fun w h => ⟨h.1.1, trivial⟩) u)
  refine Hs.enter Tryz.func7 [] [] [] [.g (WD.sc ⟨t, A, cap, b, cut, n⟩)] (Mem.start0 w) (by kernel_rfl) (by kernel_rfl) ?_
  refine Hs.run1 300 (fun _ => by kernel_rfl) fun b0 => ?_
  refine Hs.callV (fun w' H => alive16_any w') (by kernel_rfl) ?_
  refine Hs.run0 300 (fun _ => by kernel_rfl) ?_
  refine Hs.condF (by kernel_rfl) ?_
  refine Hs.run0 300 (fun _ => by kernel_rfl) ?_
  refine Hs.any [0] (by kernel_rfl) ?_
  refine Hs.run1 300 (fun _ => by kernel_rfl) fun b1 => ?_
  refine Hs.condP ((b.length : Int) > 1500) (by kernel_rfl) (fun h => ?_) (fun h1500 => ?_)
  · refine Hs.run0 300 (fun _ => by kernel_rfl) ?_
    exact Hs.ret (v := .bool true) Tryz.func7 (by kernel_rfl) fun w' H => ⟨rfl, H.only⟩
  refine Hs.run0 8 (fun _ => by kernel_rfl) ?_
  have e31 : IntKind.i64.wrap ((b.length : Int) + 1) = ((b.length + 1 : Nat) : Int) := by rw [IntWalk.i64_in _ (by omega)]; omega
  have e28 : IntKind.i64.wrap cut = cut := IntWalk.i64_in _ (by omega)
  obtain ⟨k, hk⟩ : ∃ k : Nat, k = (cut.tmod ((b.length + 1 : Nat) : Int)).toNat := ⟨_, rfl⟩
  have hm : cut.tmod ((b.length + 1 : Nat) : Int) = cut % ((b.length + 1 : Nat) : Int) := Int.tmod_eq_emod_of_nonneg hc.1
  have hm2 : 0 ≤ cut % ((b.length + 1 : Nat) : Int) ∧ cut % ((b.length + 1 : Nat) : Int) < ((b.length + 1 : Nat) : Int) := ⟨Int.emod_nonneg _ (by omega), Int.emod_lt_of_pos _ (by omega)⟩
  have ekt : cut.tmod ((b.length + 1 : Nat) : Int) = (k : Int) := by rw [hk, hm]; omega
  have hkl : k ≤ b.length := by rw [hm] at ekt; omega
  refine Hs.slot 31 (.c (.v (.int .i64 (b.length + 1 : Nat)))) rfl ((by kernel_rfl : _ = Value.int .i64 (IntKind.i64.wrap ((b.length : Int) + 1))).trans (by rw [e31]; rfl)) ?_
  refine Hs.slot 28 (.c (.v (.int .i64 cut))) rfl ((by kernel_rfl : _ = Value.int .i64 (IntKind.i64.wrap cut)).trans (by rw [e28]; rfl)) ?_
  refine Hs.bin (op := .rem) (T := 3) (k := .i64) (k' := .i64) (a := cut) (b := ((b.length + 1 : Nat) : Int)) (.int .i64 (k : Nat)) (by kernel_rfl) (fun w => by rw [run_rem (by omega), ekt]) ?_
  clear hk hm hm2 ekt
  refine Hs.run0 300 (fun _ => by kernel_rfl) ?_
  refine Hs.any [1] (by kernel_rfl) ?_
  refine Hs.run0 300 (fun _ => by kernel_rfl) ?_
  refine Hs.callB0 2 (fun _ => discSC (newD t) nilS) (Nx.start w) (fun w' H => new16_any t w') (fun β x => rfl) (fun x j => disc_wf _ _ _) (by kernel_rfl) (by kernel_rfl) fun g _ w1 L1 N1 => ?_
  refine Hs.run0 300 (fun _ => by kernel_rfl) ?_
  refine Hs.callB0 3 (fun _ => discSC (newD t) nilS) N1 (fun w' H => new16_any t w') (fun β x => rfl) (fun x j => disc_wf _ _ _) (by kernel_rfl) (by kernel_rfl) fun g2 _ w2 L2 N2 => ?_
  refine Hs.run0 300 (fun _ => by kernel_rfl) ?_
  have hA1 := wrote_more (t := t) (a := []) (b := b) (by simp; omega)
  have hB1 := wrote_more (t := t) (a := []) (b := b.take k) (by simp; omega)
  have hB2 := wrote_more (t := t) (a := b.take k) (b := b.drop k) (by simp; omega)
  have htl : (b.take k).length = k := by rw [List.length_take, Nat.min_eq_left hkl]
  have hdl : (b.drop k).length = b.length - k := List.length_drop
  rw [List.nil_append, wrote_new] at hA1 hB1
  rw [List.take_append_drop] at hB2
  have N2' := N2.imp fun w _ => (⟨data_new t w, data_new t w⟩ : Data nilS (newD t) w ∧ Data nilS (newD t) w)
  refine Hs.callNP (s := nilS) (d := newD t) (d' := wroteD t b) (v := .int .i64 (b.length : Nat)) 2 N2' rfl (by kernel_rfl) (fun w' H hD => by
    have := write_any16 (newD t) nilS g A cap b w' hD (few_new t) (N2'.keepR H (k := 2) rfl (by kernel_rfl : _ = some (HB.b true 53 (discSC (newD t) nilS))) hb) (by omega)
    rw [hA1.1, hA1.2] at this
    exact this) (by kernel_rfl) (by kernel_rfl) (fun _ => (by kernel_rfl)) fun s1 w3 L3 N3 => ?_
  replace N3 := N3.imp fun w h => (⟨h.2, h.1⟩ : Data nilS (newD t) w ∧ Data s1 (wroteD t b) w)
  refine Hs.run0 300 (fun _ => by kernel_rfl) ?_
  refine Hs.bool 43 ((b.length : Int) != (b.length : Int)) (by kernel_rfl) (fun h => by simp at h) (fun _ => ?_)
  refine Hs.rung0 [6] 300 (fun _ => by kernel_rfl) ?_
  refine Hs.hi elemU8 (A := A) (len := b.length) (cap := cap) (i := k) (by have := hb.2.1; omega) (by kernel_rfl) ?_
  refine Hs.rung0 [6] 300 (fun _ => by kernel_rfl) ?_
  refine Hs.callNP (s := nilS) (d := newD t) (d' := wroteD t (b.take k)) (v := .int .i64 (k : Nat)) 3 N3 rfl (by kernel_rfl) (fun w' H hD => by
    have := write_any16 (newD t) nilS g2 (hiA 1 A cap) cap (b.take k) w' hD (few_new t) (N3.keepR H (k := 3) rfl (by kernel_rfl : _ = some (HB.b true 53 (discSC (newD t) nilS))) ⟨rdX_hi cu8_len hb.1 hkl, by rw [htl]; have := hb.2.1; omega, hb.2.2⟩) (by omega)
    rw [hB1.1, hB1.2, htl] at this
    exact this) (by kernel_rfl) (by kernel_rfl) (fun _ => (by kernel_rfl)) fun s2 w4 L4 N4 => ?_
  refine Hs.rung0 [6] 300 (fun _ => by kernel_rfl) ?_
  refine Hs.bool 52 ((k : Int) != (k : Int)) (by kernel_rfl) (fun h => by simp at h) (fun _ => ?_)
  refine Hs.rung0 [6, 15] 300 (fun _ => by kernel_rfl) ?_
  refine Hs.lo elemU8 (A := A) (len := b.length) (cap := cap) (i := k) hkl (by kernel_rfl) ?_
  refine Hs.rung0 [15] 300 (fun _ => by kernel_rfl) ?_
  refine Hs.callNP (s := s2) (d := wroteD t (b.take k)) (d' := wroteD t b) (v := .int .i64 (b.length - k : Nat)) 3 N4 rfl (by kernel_rfl) (fun w' H hD => by
    have := write_any16 (wroteD t (b.take k)) s2 g2 (loA 1 A k cap) (cap - k) (b.drop k) w' hD (wrote_few (by omega)) (N4.keepR H (k := 3) rfl (by kernel_rfl : _ = some (HB.b true 53 (discSC (wroteD t (b.take k)) s2))) ⟨rdX_lo cu8_len hb.1 hkl hb.2.1, by rw [hdl]; have := hb.2.1; omega, by have := hb.2.2; omega⟩) (by omega)
    rw [hB2.1, hB2.2, hdl] at this
    exact this) (by kernel_rfl) (by kernel_rfl) (fun _ => (by kernel_rfl)) fun s3 w5 L5 N5 => ?_
  refine Hs.rung0 [15] 300 (fun _ => by kernel_rfl) ?_
  refine Hs.bool 64 (((b.length - k : Nat) : Int) != IntKind.i64.wrap ((b.length : Int) - (k : Int))) (by kernel_rfl) (fun h => by rw [IntWalk.i64_in _ (by omega)] at h; simp at h; omega) (fun _ => ?_)
  refine Hs.rung0 [15, 27] 300 (fun _ => by kernel_rfl) ?_
  refine Hs.callV (fun w' H => from16_nil (wroteD t b) s1 g w' rfl (H.at (wr := true) (T := 53) (cs := discSC (wroteD t b) s1) 2 (by kernel_rfl))) (by kernel_rfl) ?_
  refine Hs.rung0 [27] 300 (fun _ => by kernel_rfl) ?_
  refine Hs.callV (fun w' H => from16_nil (wroteD t b) s3 g2 w' rfl (H.at (wr := true) (T := 53) (cs := discSC (wroteD t b) s3) 3 (by kernel_rfl))) (by kernel_rfl) ?_
  refine Hs.rung0 [27] 300 (fun _ => by kernel_rfl) ?_
  refine Hs.callV (fun w' H => same16_true (wroteD t b) s1 s3 w' rfl (N5.now H).2 (N5.now H).1) (by kernel_rfl) ?_
  refine Hs.rung0 [27] 300 (fun _ => by kernel_rfl) ?_
  refine Hs.condF (by kernel_rfl) ?_
  refine Hs.run0 300 (fun _ => by kernel_rfl) ?_
  refine Hs.callS (cf := cu8) (E := 5) (size := 1) (fun A cap => .tuple #[.slice A (postC t 0 b).2.length cap, .int .i64 (postC t 0 b).1]) (postC t 0 b).2 _ rfl (fun w' H => post_Bytes_any t 0 A cap b w' (hb.1.only (N5.only H)) hb.2.1 hb.2.2 (by omega)) (by kernel_rfl) (by kernel_rfl) fun A3 c3 h3 h4 => ?_
  refine Hs.run0 300 (fun _ => by kernel_rfl) ?_
  refine Hs.nilS 5 1 (by kernel_rfl) ?_ (by kernel_rfl)
  refine Hs.loop (by kernel_rfl) ?_
  exact Hs.goto (loopAt Tryz.f7 0) [0, 1, 2, 4, 5] [.b true 64 (WD.sc ⟨t, A, cap, b, cut, n⟩), .b true 26 t.sc, .b true 53 (discSC (outD t b (postC t 0 b).2) s1), .s A3 c3 (postC t 0 b).2.length 5 1 ((postC t 0 b).2.flatMap cu8), .s none 0 0 5 1 (([] : List Int).flatMap cu8)] [(6, .c (.v (.int .u8 n))), (8, .c (.p 2 0)), (10, .c (.v (.slice A3 (postC t 0 b).2.length c3))), (11, .c (.v (.int .i64 (postC t 0 b).1))), (12, .c (.v (.slice none 0 0)))] (by kernel_rfl) (by decide) (by kernel_rfl) (by kernel_rfl) (fun _ => (by kernel_rfl)) (fun u => LO (by omega) b0 b1 g 0 0 A3 c3 (postC t 0 b).2.length (postC t 0 b).2 (Nat.le_refl _) [] rfl 0 rfl s1 none 0 w5 L5 (N5.imp fun w h => ⟨h.2, trivial⟩) u)
end Go.Proofs.YtjphcdphlmaopaaGreat

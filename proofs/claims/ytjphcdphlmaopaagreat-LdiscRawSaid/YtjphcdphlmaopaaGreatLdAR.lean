/- Layer 16: what is typed without ICANON, ISIG and IXON is read as it is mapped; for all settings and texts; no condition. -/
import Derived.Test.YtjphcdphlmaopaaGreatLdAP
import Derived.Test.YtjphcdphlmaopaaGreatLdAM
namespace Go.Proofs.YtjphcdphlmaopaaGreat
set_option linter.all false
set_option maxRecDepth 100000
open Go.RowKit

set_option maxHeartbeats 4000000 in
theorem raw_walk (t : TM) (A : Option Addr) (cap : Nat) (text : List Int) (k : Int) (w : World) (hb : RdU w A cap text) (hk : 0 ≤ k ∧ k < 256) (hT : TOk t) : Calls Tryz.prog 6 #[t.val, .slice A text.length cap, .int .u8 k] w (fun e w' => e = .returned (.bool true) ∧ Only [] w w') := by
  obtain ⟨TT, hTT⟩ : ∃ TT, TT = rawT t := ⟨_, rfl⟩
  have hE : RawT TT := by rw [hTT]; exact rawT_has t
  have hlen : text.length ≤ maxLen := Nat.le_trans hb.2.1 hb.2.2
  obtain ⟨kk, hkk⟩ : ∃ kk : Nat, kk = k.toNat + 1 := ⟨_, rfl⟩
  have ek : IntKind.i64.wrap (1 + IntKind.i64.wrap k) = ((kk : Nat) : Int) := by rw [IntWalk.i64_in k (by omega), IntWalk.i64_in _ (by omega)]; omega
  have hrng : ∀ (d : DM) (l : List Int), RawI d TT l → Rng d := fun d l h => ⟨by rw [h.t, hE.mn]; decide, by rw [h.t, hE.tm]; decide, by rw [h.idle]; decide⟩
  have FIN : text.length ≤ 500 → ∀ (d : DM) (s : DS) (A1 : Option Addr) (c1 : Nat) (w2 : World) (L2 : List Nat), Nx w w2 L2 (fun w => Data s d w ∧ True) → ∀ (b0 g b2 : Nat) (u : Nat → Value), Hs Tryz.prog 6 (fun e w' => e = .returned (.bool true) ∧ Only [] w w') (Tryz.f6).ntmps w2 L2 [b0, g, b2] ⟨.no, atR Tryz.f6 25, pins [(1, .c (.v (.slice A text.length cap))), (3, .c (.p 0 0)), (12, .c (.v (.slice A1 (mapL TT text).length c1)))] (.vals u), [.b true 26 (TM.sc TT), .b true 53 (discSC d s), .s A1 c1 (mapL TT text).length 5 1 ((mapL TT text).flatMap cu8)]⟩ := by
    intro h500 d s A1 c1 w2 L2 N b0 g b2 u
    have hml := mapL_le TT text
    refine Hs.run0 300 (fun _ => by kernel_rfl) ?_
    refine Hs.callS (cf := cu8) (E := 5) (size := 1) (fun A cap => .slice A (mapL TT text).length cap) (mapL TT text) _ rfl (fun w' H => map_any TT A cap text w' (hb.1.only (N.only H)) hb.2.1 hb.2.2 (by omega)) (by kernel_rfl) (by kernel_rfl) fun A4 c4 h4 h5 => ?_
    refine Hs.run0 300 (fun _ => by kernel_rfl) ?_
    refine Hs.callV (fun w' H => bytes16_true A1 A4 c1 c4 (mapL TT text) (mapL TT text).length (mapL TT text).length rfl rfl w' (H.rdX (cf := cu8) (A := A1) (cap := c1) (E := 5) (size := 1) 2 rfl (by kernel_rfl)) (H.rdX (cf := cu8) (A := A4) (cap := c4) (E := 5) (size := 1) 3 rfl (by kernel_rfl)) (by unfold maxLen; omega)) (by kernel_rfl) ?_
    refine Hs.run0 300 (fun _ => by kernel_rfl) ?_
    exact Hs.ret (v := .bool true) Tryz.func6 (by kernel_rfl) fun w' H => ⟨rfl, N.only H⟩
  have RD : text.length ≤ 500 → ∀ (m : Nat) (lr l1 : List Int), lr.length ≤ m → l1 ++ lr = mapL TT text → ∀ (i : Nat), i + lr.length ≤ 1000 → ∀ (n1 : Nat), l1.length = n1 → ∀ (d : DM) (s : DS) (A1 : Option Addr) (c1 : Nat) (w2 : World) (L2 : List Nat), Nx w w2 L2 (fun w => Data s d w ∧ True) → Few d → RawI d TT lr → ∀ (b0 g b2 : Nat) (u : Nat → Value), Hs Tryz.prog 6 (fun e w' => e = .returned (.bool true) ∧ Only [] w w') (Tryz.f6).ntmps w2 L2 [b0, g, b2] ⟨.no, loopAt Tryz.f6 2, pins [(1, .c (.v (.slice A text.length cap))), (2, .c (.v (.int .u8 k))), (3, .c (.p 0 0)), (9, .c (.p 1 0)), (12, .c (.v (.slice A1 n1 c1))), (44, .c (.v (.int .i64 i)))] (.vals u), [.b true 26 (TM.sc TT), .b true 53 (discSC d s), .s A1 c1 n1 5 1 (l1.flatMap cu8)]⟩ := by
    intro h500 m
    have hml := mapL_le TT text
    induction m with
    | zero =>
      intro lr l1 hm hl i hi n1 hn1 d s A1 c1 w2 L2 N hf hR b0 g b2 u
      have h0 : lr = [] := List.length_eq_zero_iff.1 (by omega)
      subst h0
      rw [List.append_nil] at hl
      subst hl
      subst hn1
      refine Hs.run0 300 (fun _ => by kernel_rfl) ?_
      refine Hs.condP ((i : Int) < 1001) (by kernel_rfl) (fun _ => ?_) (fun h => by simp at hi; omega)
      refine Hs.run0 300 (fun _ => by kernel_rfl) ?_
      refine Hs.slot 50 (.c (.v (.int .i64 (kk : Nat)))) rfl ((by kernel_rfl : _ = Value.int .i64 (IntKind.i64.wrap (1 + IntKind.i64.wrap k))).trans (by rw [ek]; rfl)) ?_
      refine Hs.callNR (s := s) (d := d) (d' := d) (l := []) (v := fun A c => .tuple #[.slice A 0 c, .bool false]) 1 N rfl (by kernel_rfl) (fun w' H hD => by
        have := read_any16 d s g kk 0 w' hD hf (hrng d _ hR) (by omega) (by omega)
        rw [raw_none (k := kk) hE hR (by omega)] at this
        exact this) (by kernel_rfl) (by kernel_rfl) (fun _ => (by kernel_rfl)) fun s2 A3 c3 w3 L3 N3 => ?_
      refine Hs.run0 300 (fun _ => by kernel_rfl) ?_
      refine Hs.condT (by kernel_rfl) ?_
      refine Hs.runR0 25 [] 300 (fun _ => by kernel_rfl) ?_
      exact Hs.goto (atR Tryz.f6 25) [0, 1, 2] [.b true 26 (TM.sc TT), .b true 53 (discSC d s2), .s A1 c1 (mapL TT text).length 5 1 ((mapL TT text).flatMap cu8)] [(1, .c (.v (.slice A text.length cap))), (3, .c (.p 0 0)), (12, .c (.v (.slice A1 (mapL TT text).length c1)))] (by kernel_rfl) (by decide) (by kernel_rfl) (by kernel_rfl) (fun _ => (by kernel_rfl)) (fun u => FIN h500 d s2 A1 c1 w3 L3 (N3.imp fun w h => ⟨h.1.1, trivial⟩) b0 g b2 u)
    | succ m ihm =>
      intro lr l1 hm hl i hi n1 hn1 d s A1 c1 w2 L2 N hf hR b0 g b2 u
      by_cases h0 : lr.length = 0
      · exact ihm lr l1 (by omega) hl i hi n1 hn1 d s A1 c1 w2 L2 N hf hR b0 g b2 u
      obtain ⟨r1, r2, r3⟩ := raw_read (k := kk) hE hR (by omega) (by omega)
      obtain ⟨q, hq⟩ : ∃ q, q = min kk lr.length := ⟨_, rfl⟩
      rw [← hq] at r1 r3
      have hql : q ≤ lr.length := by omega
      have hq0 : 0 < q := by omega
      have htl : (lr.take q).length = q := by rw [List.length_take, Nat.min_eq_left hql]
      have hdl : (lr.drop q).length = lr.length - q := List.length_drop
      have hll : l1.length + lr.length = (mapL TT text).length := by rw [← hl, List.length_append]
      have hf2 := readD_few (n := (kk : Nat)) (q := 0) hf
      have hC := fun w' hD => read_any16 d s g kk 0 w' hD hf (hrng d _ hR) (by omega) (by omega)
      rw [r1, r2] at hC
      generalize (readD d (kk : Nat) 0).1 = d2 at r3 hf2 hC
      refine Hs.run0 300 (fun _ => by kernel_rfl) ?_
      refine Hs.condP ((i : Int) < 1001) (by kernel_rfl) (fun _ => ?_) (fun h => by omega)
      refine Hs.run0 300 (fun _ => by kernel_rfl) ?_
      refine Hs.slot 50 (.c (.v (.int .i64 (kk : Nat)))) rfl ((by kernel_rfl : _ = Value.int .i64 (IntKind.i64.wrap (1 + IntKind.i64.wrap k))).trans (by rw [ek]; rfl)) ?_
      refine Hs.callNR (s := s) (d := d) (d' := d2) (l := lr.take q) (v := fun A c => .tuple #[.slice A (lr.take q).length c, .bool true]) 1 N rfl (by kernel_rfl) (fun w' H hD => hC w' hD) (by kernel_rfl) (by kernel_rfl) (fun _ => (by kernel_rfl)) fun s2 A3 c3 w3 L3 N3 => ?_
      refine Hs.run0 300 (fun _ => by kernel_rfl) ?_
      refine Hs.condF (by kernel_rfl) ?_
      refine Hs.run0 300 (fun _ => by kernel_rfl) ?_
      refine Hs.app (cf := cu8) (c := c3) (ty := 27) 2 elemU8 l1 (lr.take q) n1 (lr.take q).length hn1 rfl cu8_one cu8_len (A := A1) (B := A3) (cap := c1) (by kernel_rfl) (by kernel_rfl) (by kernel_rfl) (fun w' H => (N3.now H).1.2.1) (by unfold maxLen; omega) (by rw [by_u8]; omega) fun A5 c5 h5 => ?_
      refine Hs.run0 300 (fun _ => by kernel_rfl) ?_
      refine Hs.slot 44 (.c (.v (.int .i64 (i + 1 : Nat)))) rfl ((by kernel_rfl : _ = Value.int .i64 (IntKind.i64.wrap ((i : Int) + 1))).trans (by rw [IntWalk.i64_in _ (by omega)]; show Value.int .i64 ((i : Int) + 1) = Value.int .i64 ((i + 1 : Nat) : Int); rfl)) ?_
      refine Hs.loop (by kernel_rfl) ?_
      exact Hs.goto (loopAt Tryz.f6 2) [0, 1, 2] [.b true 26 (TM.sc TT), .b true 53 (discSC d2 s2), .s A5 c5 (n1 + (lr.take q).length) 5 1 ((l1 ++ lr.take q).flatMap cu8)] [(1, .c (.v (.slice A text.length cap))), (2, .c (.v (.int .u8 k))), (3, .c (.p 0 0)), (9, .c (.p 1 0)), (12, .c (.v (.slice A5 (n1 + (lr.take q).length) c5))), (44, .c (.v (.int .i64 (i + 1 : Nat))))] (by kernel_rfl) (by decide) (by kernel_rfl) (by kernel_rfl) (fun _ => (by kernel_rfl)) (fun u => ihm (lr.drop q) (l1 ++ lr.take q) (by omega) (by rw [List.append_assoc, List.take_append_drop]; exact hl) (i + 1) (by omega) _ (by rw [List.length_append, hn1]) d2 s2 A5 c5 w3 L3 (N3.imp fun w h => ⟨h.1.1, trivial⟩) hf2 r3 b0 g b2 u)
  have TY : text.length ≤ 500 → ∀ (b0 g : Nat) (e i : Nat), text.length - i = e → i ≤ text.length → ∀ (d : DM) (s : DS) (w2 : World) (L2 : List Nat), Nx w w2 L2 (fun w => Data s d w ∧ True) → Few d → RawI d TT (mapL TT (text.take i)) → ∀ (u : Nat → Value), Hs Tryz.prog 6 (fun e w' => e = .returned (.bool true) ∧ Only [] w w') (Tryz.f6).ntmps w2 L2 [b0, g] ⟨.no, loopAt Tryz.f6 1, pins [(1, .c (.v (.slice A text.length cap))), (2, .c (.v (.int .u8 k))), (3, .c (.p 0 0)), (9, .c (.p 1 0)), (32, .c (.v (.slice A text.length cap))), (33, .c (.v (.int .i64 text.length))), (34, .c (.v (.int .i64 i)))] (.vals u), [.b true 26 (TM.sc TT), .b true 53 (discSC d s)]⟩ := by
    intro h500 b0 g e
    induction e with
    | zero =>
      intro i he hi d s w2 L2 N hf hR u
      obtain rfl : i = text.length := by omega
      rw [List.take_length] at hR
      have hml := mapL_le TT text
      refine Hs.run0 300 (fun _ => by kernel_rfl) ?_
      refine Hs.condP ((text.length : Int) < (text.length : Int)) (by kernel_rfl) (fun h => by omega) (fun _ => ?_)
      refine Hs.run0 300 (fun _ => by kernel_rfl) ?_
      refine Hs.nilS 5 1 (by kernel_rfl) ?_ (by kernel_rfl)
      refine Hs.loop (by kernel_rfl) ?_
      exact Hs.goto (loopAt Tryz.f6 2) [0, 1, 2] [.b true 26 (TM.sc TT), .b true 53 (discSC d s), .s none 0 0 5 1 (([] : List Int).flatMap cu8)] [(1, .c (.v (.slice A text.length cap))), (2, .c (.v (.int .u8 k))), (3, .c (.p 0 0)), (9, .c (.p 1 0)), (12, .c (.v (.slice none 0 0))), (44, .c (.v (.int .i64 (0 : Nat))))] (by kernel_rfl) (by decide) (by kernel_rfl) (by kernel_rfl) (fun _ => (by kernel_rfl)) (fun u => RD h500 (mapL TT text).length (mapL TT text) [] (Nat.le_refl _) rfl 0 (by omega) 0 rfl d s none 0 w2 L2 N hf hR b0 g 0 u)
    | succ e ihe =>
      intro i he hi d s w2 L2 N hf hR u
      have hil : i < text.length := by omega
      obtain ⟨x, hx⟩ : ∃ x, text[i]? = some x := ⟨_, List.getElem?_eq_getElem hil⟩
      have htk : text.take (i + 1) = text.take i ++ [x] := by rw [List.take_add_one, hx]; rfl
      obtain ⟨ab, aoff, hA, _, _⟩ := hb.1 (by omega)
      obtain ⟨r1, r2⟩ := raw_step (c := x) hE hR (by rw [List.length_take]; omega)
      rw [← htk] at r2
      have hin := fun w' hD => input_any d s g x w' hD hf
      rw [r1] at hin
      have hf2 : Few (inputD d x).1 := inputD_few hf
      have hih := fun s w2 L2 N u => ihe (i + 1) (by omega) (by omega) (inputD d x).1 s w2 L2 N hf2 r2 u
      clear r1
      generalize (inputD d x).1 = d2 at hin hih
      rw [hA] at hih ⊢
      refine Hs.run0 300 (fun _ => by kernel_rfl) ?_
      refine Hs.condP ((i : Int) < (text.length : Int)) (by kernel_rfl) (fun _ => ?_) (fun h => by omega)
      refine Hs.run0 300 (fun _ => by kernel_rfl) ?_
      refine Hs.idx (b := ab) (off := aoff) (len := text.length) (c := cap) (i := i) elemU8 hil (by kernel_rfl) ?_
      refine Hs.run0 300 (fun _ => by kernel_rfl) ?_
      refine Hs.ldc (E' := 5) (b := ab) (off := aoff + i * 1) (.int .u8 x) (by kernel_rfl) (fun w' H => u8_cell (by rw [← hA]; exact hb.1.only (N.only H)) hx) (by kernel_rfl) ?_
      refine Hs.run0 300 (fun _ => by kernel_rfl) ?_
      refine Hs.callNI (s := s) (d := d) (d' := d2) (l := []) 1 0 rfl N rfl (by kernel_rfl) (fun w' H hD => hin w' hD) (by kernel_rfl) (by kernel_rfl) (fun _ => (by kernel_rfl)) fun s2 A3 w3 L3 N3 => ?_
      refine Hs.run0 300 (fun _ => by kernel_rfl) ?_
      refine Hs.condF (by kernel_rfl) ?_
      refine Hs.run0 300 (fun _ => by kernel_rfl) ?_
      refine Hs.slot 34 (.c (.v (.int .i64 (i + 1 : Nat)))) rfl ((by kernel_rfl : _ = Value.int .i64 (IntKind.i64.wrap ((i : Int) + 1))).trans (wrap_nextJ hlen)) ?_
      refine Hs.loop (by kernel_rfl) ?_
      exact Hs.goto (loopAt Tryz.f6 1) [0, 1] [.b true 26 (TM.sc TT), .b true 53 (discSC d2 s2)] [(1, .c (.v (.slice (some ⟨ab, aoff, none⟩) text.length cap))), (2, .c (.v (.int .u8 k))), (3, .c (.p 0 0)), (9, .c (.p 1 0)), (32, .c (.v (.slice (some ⟨ab, aoff, none⟩) text.length cap))), (33, .c (.v (.int .i64 text.length))), (34, .c (.v (.int .i64 (i + 1 : Nat))))] (by kernel_rfl) (by decide) (by kernel_rfl) (by kernel_rfl) (fun _ => (by kernel_rfl)) (fun u => hih s2 w3 L3 (N3.imp fun w h => ⟨h.1.1, trivial⟩) u)
  refine Hs.enter Tryz.func6 [] [] [] [.g t.sc, .c (.v (.slice A text.length cap)), .c (.v (.int .u8 k))] (Mem.start0 w) (by kernel_rfl) (by kernel_rfl) ?_
  refine Hs.run1 300 (fun _ => by kernel_rfl) fun b0 => ?_
  refine Hs.callV (fun w' H => alive16_any w') (by kernel_rfl) ?_
  refine Hs.run0 300 (fun _ => by kernel_rfl) ?_
  refine Hs.condF (by kernel_rfl) ?_
  refine Hs.run0 300 (fun _ => by kernel_rfl) ?_
  refine Hs.loop (by kernel_rfl) ?_
  refine Hs.goto (loopAt Tryz.f6 0) [0] [.b true 26 (TM.sc t)] [(1, .c (.v (.slice A text.length cap))), (2, .c (.v (.int .u8 k))), (3, .c (.p 0 0)), (17, .c (.v (.agg #[.int .i64 51, .int .i64 50, .int .i64 38]))), (18, .c (.v (.int .i64 0)))] (by kernel_rfl) (by decide) (by kernel_rfl) (by kernel_rfl) (fun _ => (by kernel_rfl)) (fun u => ?_)
  refine Hs.run0 300 (fun _ => by kernel_rfl) ?_
  refine Hs.condT (by kernel_rfl) ?_
  refine Hs.run0 300 (fun _ => by kernel_rfl) ?_
  refine Hs.callV (fun w' H => set_any t 51 false w') (by kernel_rfl) ?_
  refine Hs.run0 300 (fun _ => by kernel_rfl) ?_
  refine Hs.loop (by kernel_rfl) ?_
  refine Hs.goto (loopAt Tryz.f6 0) [0] [.b true 26 (TM.sc (t.set 51 false))] [(1, .c (.v (.slice A text.length cap))), (2, .c (.v (.int .u8 k))), (3, .c (.p 0 0)), (17, .c (.v (.agg #[.int .i64 51, .int .i64 50, .int .i64 38]))), (18, .c (.v (.int .i64 1)))] (by kernel_rfl) (by decide) (by kernel_rfl) (by kernel_rfl) (fun _ => (by kernel_rfl)) (fun u => ?_)
  refine Hs.run0 300 (fun _ => by kernel_rfl) ?_
  refine Hs.condT (by kernel_rfl) ?_
  refine Hs.run0 300 (fun _ => by kernel_rfl) ?_
  refine Hs.callV (fun w' H => set_any (t.set 51 false) 50 false w') (by kernel_rfl) ?_
  refine Hs.run0 300 (fun _ => by kernel_rfl) ?_
  refine Hs.loop (by kernel_rfl) ?_
  refine Hs.goto (loopAt Tryz.f6 0) [0] [.b true 26 (TM.sc ((t.set 51 false).set 50 false))] [(1, .c (.v (.slice A text.length cap))), (2, .c (.v (.int .u8 k))), (3, .c (.p 0 0)), (17, .c (.v (.agg #[.int .i64 51, .int .i64 50, .int .i64 38]))), (18, .c (.v (.int .i64 2)))] (by kernel_rfl) (by decide) (by kernel_rfl) (by kernel_rfl) (fun _ => (by kernel_rfl)) (fun u => ?_)
  refine Hs.run0 300 (fun _ => by kernel_rfl) ?_
  refine Hs.condT (by kernel_rfl) ?_
  refine Hs.run0 300 (fun _ => by kernel_rfl) ?_
  refine Hs.callV (fun w' H => set_any ((t.set 51 false).set 50 false) 38 false w') (by kernel_rfl) ?_
  refine Hs.run0 300 (fun _ => by kernel_rfl) ?_
  refine Hs.loop (by kernel_rfl) ?_
  refine Hs.goto (loopAt Tryz.f6 0) [0] [.b true 26 (TM.sc (((t.set 51 false).set 50 false).set 38 false))] [(1, .c (.v (.slice A text.length cap))), (2, .c (.v (.int .u8 k))), (3, .c (.p 0 0)), (17, .c (.v (.agg #[.int .i64 51, .int .i64 50, .int .i64 38]))), (18, .c (.v (.int .i64 3)))] (by kernel_rfl) (by decide) (by kernel_rfl) (by kernel_rfl) (fun _ => (by kernel_rfl)) (fun u => ?_)
  refine Hs.run0 300 (fun _ => by kernel_rfl) ?_
  refine Hs.condF (by kernel_rfl) ?_
  refine Hs.run0 300 (fun _ => by kernel_rfl) ?_
  refine Hs.condP ((text.length : Int) > 500) (by kernel_rfl) (fun h => ?_) (fun h500 => ?_)
  · refine Hs.run0 300 (fun _ => by kernel_rfl) ?_
    exact Hs.ret (v := .bool true) Tryz.func6 (by kernel_rfl) fun w' H => ⟨rfl, H.only⟩
  refine Hs.run0 300 (fun _ => by kernel_rfl) ?_
  refine Hs.callB 1 (fun _ => discSC (newD (rawT t)) nilS) (Nx.start w) (fun w' H => new16_any (rawT t) w') (fun β x => rfl) (fun x j => disc_wf _ _ _) (by kernel_rfl) (by kernel_rfl) (by kernel_rfl) fun g _ w3 L3 N3 => ?_
  refine Hs.run0 300 (fun _ => by kernel_rfl) ?_
  refine Hs.loop (by kernel_rfl) ?_
  have hty := fun u => TY (by omega) b0 g text.length 0 rfl (by omega) (newD TT) nilS w3 L3 (N3.imp fun w h => ⟨data_new TT w, trivial⟩) (few_new TT) ⟨rfl, rfl, rfl, rfl⟩ u
  rw [hTT] at hty
  exact Hs.goto (loopAt Tryz.f6 1) [0, 1] [.b true 26 (TM.sc (rawT t)), .b true 53 (discSC (newD (rawT t)) nilS)] [(1, .c (.v (.slice A text.length cap))), (2, .c (.v (.int .u8 k))), (3, .c (.p 0 0)), (9, .c (.p 1 0)), (32, .c (.v (.slice A text.length cap))), (33, .c (.v (.int .i64 text.length))), (34, .c (.v (.int .i64 (0 : Nat))))] (by kernel_rfl) (by decide) (by kernel_rfl) (by kernel_rfl) (fun _ => (by kernel_rfl)) hty
end Go.Proofs.YtjphcdphlmaopaaGreat

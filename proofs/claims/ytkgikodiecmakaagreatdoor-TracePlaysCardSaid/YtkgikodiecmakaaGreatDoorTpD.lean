/- TracePlays: lemmas, from 'Go's own sort at []uint32: the kit's worked walks at int, tu' on; what each asks for stands in it. -/
import Derived.Sort.Walk13a
import Derived.Sort.LotD4
import Derived.Sort.LotB
import Derived.Test.YtkgikodiecmakaaGreatDoorTpB
import Derived.Deep.Cut
import Derived.Test.YtkgikodiecmakaaGreatDoorTpC
import Derived.Sort.AssemblyPlain
import Derived.Lib.AgreeW
import Derived.Lib.SlKeysI
import Derived.Shelf.SlIter.Keys
import Derived.Shelf.SlIter.Collect
import Derived.Shelf.SlIter.Sorted
import Derived.Shelf.AbstractIn
import Derived.RangeFuncSeq
import Derived.Sort.MapsRangeIn
import Derived.Sort.KeysCollected
import Derived.WalkKit
import Derived.OwnWalkIn
import Derived.TacticsInMore
import Derived.RegionIn
import Derived.LoopNIn
import Derived.LoopIn
import Derived.RangeFuncGives
import Derived.Maps.AppendAt
import Derived.Shelf.Abstract
import Derived.RangeFuncBound
import Derived.Sort.OwnSorted
import Derived.StillTailTactics
import Derived.Deep.QuietTactic
set_option linter.all false
set_option maxRecDepth 100000
set_option maxHeartbeats 64000000
namespace Go.Proofs.YtkgikodiecmakaaGreatDoor
open Go.Sort Go.RowKit Go.Lib
open Go.Sort Go.RowKit
structure Callees13 : Prop where
  ins : ∀ (blk off cap a b : Nat) (d : Array Int) (w : World), Holds AJ w blk off d → a ≤ b → b ≤ d.size → d.size < 4611686018427387904 →
    Calls Tryz.prog 59 #[.slice (some ⟨blk, off, none⟩) d.size cap, .int .i64 a, .int .i64 b] w fun e w' => e = .returned (.tuple #[]) ∧ ∃ n, w' = putRow AJ (Sort.ahead w n) blk off (insertionSort ltInt d a b)
  brk : ∀ (blk off cap a b : Nat) (d : Array Int) (w : World), Holds AJ w blk off d → blk < w.heap.size → a ≤ b → b ≤ d.size → d.size < 4611686018427387904 →
    Calls Tryz.prog 61 #[.slice (some ⟨blk, off, none⟩) d.size cap, .int .i64 a, .int .i64 b] w fun e w' => e = .returned (.tuple #[]) ∧ ∃ n os, w' = grow (putRow AJ (Sort.ahead w n) blk off (breakPatterns d a b)) os
  piv : ∀ (blk off cap a b : Nat) (d : Array Int) (w : World), Holds AJ w blk off d → blk < w.heap.size → a < b → b ≤ d.size → d.size < 4611686018427387904 →
    Calls Tryz.prog 62 #[.slice (some ⟨blk, off, none⟩) d.size cap, .int .i64 a, .int .i64 b] w fun e w' => e = .returned (.tuple #[.int .i64 (choosePivot ltInt d a b).1, .int .i64 (hintCode (choosePivot ltInt d a b).2)]) ∧ ∃ n os, w' = grow (Sort.ahead w n) os
  par : ∀ (blk off cap a b : Nat) (d : Array Int) (w : World), Holds AJ w blk off d → a < b → b ≤ d.size → d.size < 4611686018427387904 →
    Calls Tryz.prog 64 #[.slice (some ⟨blk, off, none⟩) d.size cap, .int .i64 a, .int .i64 b] w fun e w' => e = .returned (.bool (partialInsertionSort ltInt d a b).2) ∧ ∃ n, w' = putRow AJ (Sort.ahead w n) blk off (partialInsertionSort ltInt d a b).1
  peq : ∀ (blk off cap a b pivot : Nat) (d : Array Int) (w : World), Holds AJ w blk off d → a ≤ pivot → pivot < b → b ≤ d.size → d.size < 4611686018427387904 →
    Calls Tryz.prog 66 #[.slice (some ⟨blk, off, none⟩) d.size cap, .int .i64 a, .int .i64 b, .int .i64 pivot] w fun e w' => e = .returned (.int .i64 (partitionEqual ltInt d a b pivot).1) ∧ ∃ n, w' = putRow AJ (Sort.ahead w n) blk off (partitionEqual ltInt d a b pivot).2
  prt : ∀ (blk off cap a b pivot : Nat) (d : Array Int) (w : World), Holds AJ w blk off d → a ≤ pivot → pivot < b → b ≤ d.size → d.size < 4611686018427387904 →
    Calls Tryz.prog 67 #[.slice (some ⟨blk, off, none⟩) d.size cap, .int .i64 a, .int .i64 b, .int .i64 pivot] w fun e w' => e = .returned (.tuple #[.int .i64 (partition ltInt d a b pivot).1, .bool (partition ltInt d a b pivot).2.1]) ∧ ∃ n, w' = putRow AJ (Sort.ahead w n) blk off (partition ltInt d a b pivot).2.2
structure Plain13 : Prop where
  swo : SWO ltInt
  ins : insertionSort_stmt ltInt
  par : partialInsertionSort_stmt ltInt
  prt : partition_stmt ltInt
  peq : partitionEqual_stmt ltInt
  pdq : pdq_stmt ltInt
theorem XQ {h : Hint} (e : hintCode h = 2) : h = .decreasing := by cases h <;> simp [hintCode] at e ⊢
theorem eighth {x y p q : Nat} (h1 : q ≤ p) (h2 : y ≤ x) : decide (((x : Int) - (y : Int)) / 8 ≤ (p : Int) - (q : Int)) = decide (p - q ≥ (x - y) / 8) :=
  decide_eq_decide.2 ⟨fun h => by omega, fun h => by omega⟩
theorem Su.pdqsort_int (C : Callees13) (S : Plain13) : ∀ (N blk off cap a b limit : Nat) (d : Array Int) (w : World), b - a < N → Holds AJ w blk off d → blk < w.heap.size → a ≤ b → b ≤ d.size → d.size < 4611686018427387904 → limit < 4611686018427387904 → Below ltInt a b d →
    Calls Tryz.prog 53 #[.slice (some ⟨blk, off, none⟩) d.size cap, .int .i64 a, .int .i64 b, .int .i64 limit] w fun e w' => e = .returned (.tuple #[]) ∧ At AJ w blk off (pdq ltInt d a b limit true true) w' := by
  intro N
  induction N with
  | zero => intro _ _ _ _ _ _ _ _ h; exact absurd h (Nat.not_lt_zero _)
  | succ N ih =>
    intro blk off cap a b limit d w hN hH hblk hab hb hsz hlimit hBel0
    go_enter Tryz.func53, Tryz.ntmps53
    go_wp2
    go_loopg [1, 2, 3, 8, 9] (b - a) (fun k s1 s2 s3 s8 s9 wr => ∃ (a' b' lim : Nat) (wb wp : Bool) (dk : Array Int), s1 = .int .i64 a' ∧ s2 = .int .i64 b' ∧ s3 = .int .i64 lim ∧ s8 = .bool wb ∧ s9 = .bool wp ∧
      a' ≤ b' ∧ b' ≤ d.size ∧ b' - a' ≤ k ∧ k ≤ b - a ∧ lim ≤ limit ∧ dk.size = d.size ∧ Below ltInt a' b' dk ∧ At AJ w blk off dk wr ∧ pdq ltInt dk a' b' lim wb wp = pdq ltInt d a b limit true true)
    case atStart => exact ⟨a, b, limit, true, true, d, rfl, rfl, rfl, rfl, rfl, hab, hb, Nat.le_refl _, Nat.le_refl _, Nat.le_refl _, rfl, hBel0, At.refl hH, rfl⟩
    case round =>
      obtain ⟨a', b', lim, wb, wp, dk, rfl, rfl, rfl, rfl, rfl, hab', hb', hk, hkN, hlim, hds, hBel, hAt, heq⟩ := hrel
      obtain ⟨hHk, hblk'⟩ := hAt.holds hH hds hblk
      have A : Aside (pdq ltInt dk a' b' lim wb wp = pdq ltInt d a b limit true true) := heq
      clear heq
      by_cases h12 : b' - a' ≤ 12
      · -- 'if length <= maxInsertion'
        have h12z : (b' : Int) - (a' : Int) ≤ 12 := by omega
        have hc := C.ins blk off cap a' b' dk wr hHk hab' (by omega) (by omega)
        rw [hds] at hc
        go_wp2_with (go_at_call 59; refine hc.mono ?_; rintro e w1 ⟨rfl, hw1⟩)
        (try simp only [Exit.inBlock, Exit.then]); refine bodyPost_ret (results_none rfl _ _ _) rfl ?_
        refine ⟨rfl, ?_⟩
        rw [← A.out, pdq_small h12]
        exact hAt.step hblk (S.ins S.swo dk a' b' hab' (by omega)).1.1 hw1
      · have h12z : ¬ ((b' : Int) - (a' : Int) ≤ 12) := by omega
        by_cases hl0 : lim = 0
        · -- 'if limit == 0'
          subst hl0
          have hc := Su.heapSort_int blk off d.size cap dk hds a' b' wr hHk hab' (by omega) (by omega)
          go_wp2_with (go_at_call 60; refine hc.mono ?_; rintro e w1 ⟨rfl, hw1⟩)
          (try simp only [Exit.inBlock, Exit.then]); refine bodyPost_ret (results_none rfl _ _ _) rfl ?_
          refine ⟨rfl, ?_⟩
          rw [← A.out, pdq_heap h12 rfl]
          exact hAt.step hblk (heapSort_holds S.swo dk a' b' hab' (by omega)).1.1 hw1
        · have hl0z : ¬ ((lim : Int) = 0) := by omega
          -- THE ROUND's VALUES: sizes, ranges, 'Below', stage by stage
          obtain ⟨s1, B1, hc1, s2, B2, hpv, s3, B3⟩ := rd_facts (limit := lim) (wb := wb) (wp := wp) S.swo S.par reverseRange_holds (show a' < b' by omega) (show b' ≤ dk.size by omega) hBel
          -- ████ 'if !wasBalanced { breakPatterns; limit-- }': THE WAYS MEET
          go_upto_if 35 with fail
          go_cut [3] from 19 (fun s3 wc => s3 = .int .i64 (rd ltInt dk a' b' lim wb wp).lim ∧ At AJ w blk off (rd ltInt dk a' b' lim wb wp).d1 wc)
          case first =>
            cases wb
            · have hc := C.brk blk off cap a' b' dk wr hHk hblk' hab' (by omega) (by omega)
              rw [hds] at hc
              go_wp2_with (go_at_call 61; refine hc.mono ?_; rintro e w1 ⟨rfl, hw1⟩)
              go_meet
              case rel =>
                refine ⟨?_, hAt.stepG hblk s1 hw1⟩
                show Value.int .i64 ((lim : Int) - 1) = Value.int .i64 ((lim - 1 : Nat) : Int)
                congr 1
                omega
            · go_wp2_with fail
              go_meet
              case rel => exact ⟨rfl, hAt⟩
          case rest =>
            obtain ⟨rfl, hAt1⟩ := hcut
            obtain ⟨hH1, hblk1⟩ := hAt1.holds hH (s1.trans hds) hblk
            have hc17 : Calls Tryz.prog 62 #[.slice (some ⟨blk, off, none⟩) d.size cap, .int .i64 a', .int .i64 b'] wc fun e w' => e = .returned (.tuple #[.int .i64 (rd ltInt dk a' b' lim wb wp).c.1, .int .i64 (hintCode (rd ltInt dk a' b' lim wb wp).c.2)]) ∧ ∃ n os, w' = grow (Sort.ahead wc n) os := by
              have := C.piv blk off cap a' b' (rd ltInt dk a' b' lim wb wp).d1 wc hH1 hblk1 (by omega) (by omega) (by omega)
              rw [s1, hds] at this
              exact this
            go_upto_if 50 with (go_at_call 62; refine hc17.mono ?_; rintro e w2 ⟨rfl, hw2⟩)
            have hAt2 : At AJ w blk off (rd ltInt dk a' b' lim wb wp).d1 w2 := hAt1.same hH (s1.trans hds) hblk hw2
            obtain ⟨hH2, hblk2⟩ := hAt2.holds hH (s1.trans hds) hblk
            -- ████ 'if hint == decreasingHint { reverseRange; pivot = ..; hint = increasingHint }': THE WAYS MEET
            go_cut [11, 12] from 19 (fun s11 s12 wc => s11 = .int .i64 (rd ltInt dk a' b' lim wb wp).pivot ∧ s12 = .int .i64 (hintCode (rd ltInt dk a' b' lim wb wp).hint) ∧ At AJ w blk off (rd ltInt dk a' b' lim wb wp).d2 wc)
            case first =>
              by_cases hh : (rd ltInt dk a' b' lim wb wp).c.2 = .decreasing
              · have hcode : hintCode (rd ltInt dk a' b' lim wb wp).c.2 = 2 := by rw [hh]; rfl
                obtain ⟨e2, epv, eht⟩ := rd_dec hh
                have hc18 := Su.reverseRange_int blk off cap (rd ltInt dk a' b' lim wb wp).d1 a' b' w2 hH2 hab' (by omega) (by omega)
                rw [s1, hds] at hc18
                go_wp2_with (go_at_call 63; refine hc18.mono ?_; rintro e w3 ⟨rfl, hw3⟩)
                go_meet
                case rel =>
                  refine ⟨?_, by rw [eht]; rfl, by rw [e2]; exact hAt2.step hblk (by rw [← e2, s2, s1]) hw3⟩
                  rw [epv]
                  congr 1
                  omega
              · have hcode : ¬ (hintCode (rd ltInt dk a' b' lim wb wp).c.2 = 2) := fun h => hh (XQ h)
                obtain ⟨e2, epv, eht⟩ := rd_not hh
                go_wp2_with fail
                go_meet
                case rel => exact ⟨by rw [epv], by rw [eht], by rw [e2]; exact hAt2⟩
            case rest =>
              obtain ⟨rfl, rfl, hAt3⟩ := hcut
              obtain ⟨hH3, hblk3⟩ := hAt3.holds hH (s2.trans hds) hblk
              -- ████ THE TEST 'wasBalanced && wasPartitioned && hint == increasingHint', LG Booleans that are variables: THE WAYS THROUGH THE REGION MEET
              go_upto_region 15 with fail
              go_cut [12, 68] from 19 (fun s12 s68 wx => s12 = .int .i64 (hintCode (rd ltInt dk a' b' lim wb wp).hint) ∧ s68 = .bool (wb && wp && decide ((rd ltInt dk a' b' lim wb wp).hint = .increasing)) ∧ wx = wc)
              case first =>
                cases wb <;> cases wp <;> cases hh3 : (rd ltInt dk a' b' lim _ _).hint <;>
                  (have hcode3 := congrArg hintCode hh3
                   simp only [hintCode] at hcode3
                   go_wp2_with fail
                   go_meet
                   exact ⟨by simp [hh3, hintCode], by simp [hh3, hintCode], rfl⟩)
              case rest =>
                obtain ⟨rfl, rfl, rfl⟩ := hcut
                -- ████ 'if .. { if partialInsertionSort(..) { return } }': THE WAYS MEET (one returns)
                go_upto_if 68 with fail
                go_cut [] from 19 (fun wx => (rd ltInt dk a' b' lim wb wp).pi.2 = false ∧ At AJ w blk off (rd ltInt dk a' b' lim wb wp).pi.1 wx)
                case first =>
                  cases h68 : (wb && wp && decide ((rd ltInt dk a' b' lim wb wp).hint = .increasing))
                  · have epi := rd_pi_no h68
                    go_wp2_with fail
                    go_meet
                    case rel => exact ⟨by rw [epi], by rw [epi]; exact hAt3⟩
                  · have epi := rd_pi_yes h68
                    have hc19 := C.par blk off cap a' b' (rd ltInt dk a' b' lim wb wp).d2 wc hH3 (by omega) (by omega) (by omega)
                    rw [s2, hds, ← epi] at hc19
                    go_wp2_with (go_at_call 64; refine hc19.mono ?_; rintro e w4 ⟨rfl, hw4⟩)
                    -- (the walk parts on what the callee says: each way is closed by the script that fits it)
                    all_goals first
                      | (have hp2 : (rd ltInt dk a' b' lim wb wp).pi.2 = false := by rw [epi]; assumption
                         go_meet
                         exact ⟨hp2, hAt3.step hblk (by rw [s3, s2]) hw4⟩)
                      | (have hp2 : (rd ltInt dk a' b' lim wb wp).pi.2 = true := by rw [epi]; assumption
                         (try simp only [Exit.inBlock, Exit.then]); refine bodyPost_ret (results_none rfl _ _ _) rfl ?_
                         refine ⟨rfl, ?_⟩
                         rw [← A.out, pdq_done h12 hl0 hp2]
                         exact hAt3.step hblk (by rw [s3, s2]) hw4)
                case rest =>
                  obtain ⟨hp2, hAt5⟩ := hcut
                  obtain ⟨hH5, hblk5⟩ := hAt5.holds hH (s3.trans hds) hblk
                  -- THE ROW's TWO FAMILIES (the authors' Derived/CellFam.lean)
                  have hcw : ∀ t, t < d.size → wc.cell? ⟨blk, off + t, none⟩ = some (.int .u32 (rd ltInt dk a' b' lim wb wp).pi.1[t]!) := fun t ht => (hH5 t (by omega)).1
                  have hfw : ∀ t, t < d.size → wc.frozen? ⟨blk, off + t, none⟩ = false := fun t ht => (hH5 t (by omega)).2
                  -- ████ THE TEST 'a > 0 && !cmp.Less(data[a-1], data[pivot])': it draws; its guard must be parted on: THE WAYS THROUGH THE REGION MEET
                  go_upto_region 17 with fail
                  go_cut [87] from 19 (fun s87 wx => s87 = .bool (decide (a' > 0) && !ltInt (rd ltInt dk a' b' lim wb wp).pi.1[a' - 1]! (rd ltInt dk a' b' lim wb wp).pi.1[(rd ltInt dk a' b' lim wb wp).pivot]!) ∧ At AJ w blk off (rd ltInt dk a' b' lim wb wp).pi.1 wx)
                  case first =>
                    rcases Nat.eq_zero_or_pos a' with ha0 | ha0
                    · have ha0z : decide ((a' : Int) > 0) = false := decide_eq_false (by omega)
                      go_big_quiet (first | (go_at_call 65; refine Calls.quiet_of_same (Su.cmp_Less_int _ _ _)))
                      go_wp2_with fail
                      go_meet
                      case rel => exact ⟨by simp [ha0], hAt5.ahead nq⟩
                    · have ha0z : (a' : Int) > 0 := by omega
                      go_big_quiet (first | (go_at_call 65; refine Calls.quiet_of_same (Su.cmp_Less_int _ _ _)))
                      go_wp2_with fail
                      go_meet
                      case rel => exact ⟨by simp [ha0], hAt5.ahead nq⟩
                  case rest =>
                    obtain ⟨rfl, hAt6⟩ := hcut
                    obtain ⟨hH6, hblk6⟩ := hAt6.holds hH (s3.trans hds) hblk
                    clear hcw hfw
                    cases h87 : (decide (a' > 0) && !ltInt (rd ltInt dk a' b' lim wb wp).pi.1[a' - 1]! (rd ltInt dk a' b' lim wb wp).pi.1[(rd ltInt dk a' b' lim wb wp).pivot]!)
                    · -- ████ 'mid, alreadyPartitioned := partitionOrdered(..)'; THE SMALLER SIDE BY A CALL OF ITSELF, the other by the next round
                      -- (✋ WHAT THE PARTITION GIVES, AS VARIABLES WITH ONE EQUATION: handed 'rfl' for it, the unifier UNFOLDED 'partition' to find the triple's parts, and the ranges came back LG 'partLoop ..': nothing met them any more)
                      obtain ⟨mid, ap, d4, hx⟩ : ∃ mid ap d4, partition ltInt (rd ltInt dk a' b' lim wb wp).pi.1 a' b' (rd ltInt dk a' b' lim wb wp).pivot = (mid, ap, d4) := ⟨(partition ltInt (rd ltInt dk a' b' lim wb wp).pi.1 a' b' (rd ltInt dk a' b' lim wb wp).pivot).1, (partition ltInt (rd ltInt dk a' b' lim wb wp).pi.1 a' b' (rd ltInt dk a' b' lim wb wp).pivot).2.1, (partition ltInt (rd ltInt dk a' b' lim wb wp).pi.1 a' b' (rd ltInt dk a' b' lim wb wp).pivot).2.2, rfl⟩
                      obtain ⟨r1, r2, r3, r4, r5, r6, r7⟩ := round_part S.swo S.prt hpv.1 hpv.2 (show b' ≤ (rd ltInt dk a' b' lim wb wp).pi.1.size by omega) B3 hx
                      have hc22 := C.prt blk off cap a' b' (rd ltInt dk a' b' lim wb wp).pivot (rd ltInt dk a' b' lim wb wp).pi.1 wc hH6 hpv.1 hpv.2 (by omega) (by omega)
                      rw [s3, hds, hx] at hc22
                      have X : Aside (partition ltInt (rd ltInt dk a' b' lim wb wp).pi.1 a' b' (rd ltInt dk a' b' lim wb wp).pivot = (mid, ap, d4)) := hx
                      clear hx
                      go_upto_if 113 with (go_at_call 67; refine hc22.mono ?_; rintro e w7 ⟨rfl, hw7⟩)
                      have hx := X.out
                      have hAt7 : At AJ w blk off d4 w7 := hAt6.step hblk r3 hw7
                      obtain ⟨hH7, hblk7⟩ := hAt7.holds hH (r3.trans (s3.trans hds)) hblk
                      by_cases h4 : mid - a' < b' - mid
                      · have h4z : (mid : Int) - (a' : Int) < (b' : Int) - (mid : Int) := by omega
                        have hih := ih blk off cap a' mid (rd ltInt dk a' b' lim wb wp).lim d4 w7 (by omega) hH7 hblk7 (by omega) (by omega) (by omega) (Nat.lt_of_le_of_lt (Nat.le_trans rd_lim_le hlim) hlimit) r4
                        rw [r3, s3, hds] at hih
                        obtain ⟨pL, sL⟩ := S.pdq S.swo d4 a' mid (rd ltInt dk a' b' lim wb wp).lim true true (by omega) (by omega) r4
                        go_wp2_with (go_at_call 53; refine hih.mono ?_; rintro e w8 ⟨rfl, hw8⟩)
                        go_roundg (b' - (mid + 1))
                        case measure => omega
                        case rel =>
                          refine ⟨mid + 1, b', (rd ltInt dk a' b' lim wb wp).lim, decide (mid - a' ≥ (b' - a') / 8), ap, pdq ltInt d4 a' mid (rd ltInt dk a' b' lim wb wp).lim true true, by simp, rfl, rfl, ?_, rfl, by omega, by omega, Nat.le_refl _, by omega, Nat.le_trans rd_lim_le hlim, by rw [pL.1, r3, s3, hds], (r6 _ pL sL).1, hAt7.stepG hblk pL.1 hw8, ?_⟩
                          · exact congrArg Value.bool (eighth (by omega) (by omega))
                          · rw [← A.out, pdq_left h12 hl0 hp2 h87 (by rw [hx]; exact ⟨r1, r2⟩) (by rw [hx]; exact h4), hx]
                      · have h4z : ¬ ((mid : Int) - (a' : Int) < (b' : Int) - (mid : Int)) := by omega
                        have hih := ih blk off cap (mid + 1) b' (rd ltInt dk a' b' lim wb wp).lim d4 w7 (by omega) hH7 hblk7 (by omega) (by omega) (by omega) (Nat.lt_of_le_of_lt (Nat.le_trans rd_lim_le hlim) hlimit) r5
                        rw [r3, s3, hds] at hih
                        obtain ⟨pL, sL⟩ := S.pdq S.swo d4 (mid + 1) b' (rd ltInt dk a' b' lim wb wp).lim true true (by omega) (by omega) r5
                        go_wp2_with (go_at_call 53; refine hih.mono ?_; rintro e w8 ⟨rfl, hw8⟩)
                        go_roundg (mid - a')
                        case measure => omega
                        case rel =>
                          refine ⟨a', mid, (rd ltInt dk a' b' lim wb wp).lim, decide (b' - mid ≥ (b' - a') / 8), ap, pdq ltInt d4 (mid + 1) b' (rd ltInt dk a' b' lim wb wp).lim true true, rfl, rfl, rfl, ?_, rfl, by omega, by omega, Nat.le_refl _, by omega, Nat.le_trans rd_lim_le hlim, by rw [pL.1, r3, s3, hds], (r7 _ pL sL).1, hAt7.stepG hblk pL.1 hw8, ?_⟩
                          · exact congrArg Value.bool (eighth (by omega) (by omega))
                          · rw [← A.out, pdq_right h12 hl0 hp2 h87 (by rw [hx]; exact ⟨r1, r2⟩) (by rw [hx]; exact h4), hx]
                    · -- ████ 'mid := partitionEqualOrdered(..); a = mid; continue'
                      have h87' := h87
                      simp only [Bool.and_eq_true, decide_eq_true_eq, Bool.not_eq_true'] at h87'
                      obtain ⟨mid, d4, hx⟩ : ∃ mid d4, partitionEqual ltInt (rd ltInt dk a' b' lim wb wp).pi.1 a' b' (rd ltInt dk a' b' lim wb wp).pivot = (mid, d4) := ⟨(partitionEqual ltInt (rd ltInt dk a' b' lim wb wp).pi.1 a' b' (rd ltInt dk a' b' lim wb wp).pivot).1, (partitionEqual ltInt (rd ltInt dk a' b' lim wb wp).pi.1 a' b' (rd ltInt dk a' b' lim wb wp).pivot).2, rfl⟩
                      obtain ⟨r1, r2, r3, r4, _⟩ := round_eq S.swo S.peq h87'.1 hpv.1 hpv.2 (show b' ≤ (rd ltInt dk a' b' lim wb wp).pi.1.size by omega) B3 h87'.2 hx
                      have hc21 := C.peq blk off cap a' b' (rd ltInt dk a' b' lim wb wp).pivot (rd ltInt dk a' b' lim wb wp).pi.1 wc hH6 hpv.1 hpv.2 (by omega) (by omega)
                      rw [s3, hds, hx] at hc21
                      have X : Aside (partitionEqual ltInt (rd ltInt dk a' b' lim wb wp).pi.1 a' b' (rd ltInt dk a' b' lim wb wp).pivot = (mid, d4)) := hx
                      clear hx
                      go_wp2_with (go_at_call 66; refine hc21.mono ?_; rintro e w7 ⟨rfl, hw7⟩)
                      go_roundg (b' - mid)
                      case measure => omega
                      case rel =>
                        have hx := X.out
                        exact ⟨mid, b', (rd ltInt dk a' b' lim wb wp).lim, wb, wp, d4, rfl, rfl, rfl, rfl, rfl, r2, hb', Nat.le_refl _, by omega, Nat.le_trans rd_lim_le hlim, by rw [r3, s3, hds], r4, hAt6.step hblk r3 hw7, by rw [← A.out, pdq_eq h12 hl0 hp2 h87 (by rw [hx]; exact ⟨r1, r2⟩), hx]⟩
end Go.Proofs.YtkgikodiecmakaaGreatDoor
namespace Go.Proofs.YtkgikodiecmakaaGreatDoor
open Go.Sort Go.RowKit Go.Lib
open Go.RowKit Go.Sort
theorem Su.insertionSort_int_nil (p : Option Addr) (cap : Nat) (w : World) :
    Calls Tryz.prog 59 #[.slice p 0 cap, .int .i64 0, .int .i64 0] w fun e w' => e = .returned (.tuple #[]) ∧ w' = w := by
  go_enter Tryz.func59, Tryz.ntmps59
  go_wp2
  refine wp_loop_rounds 1 ?_
  rw [rounds_succ]
  go_wp2
  go_end0
  exact ⟨rfl, rfl⟩
theorem Su.pdqsort_int_nil (p : Option Addr) (cap : Nat) (w : World) :
    Calls Tryz.prog 53 #[.slice p 0 cap, .int .i64 0, .int .i64 0, .int .i64 0] w fun e w' => e = .returned (.tuple #[]) ∧ w' = w := by
  go_enter Tryz.func53, Tryz.ntmps53
  go_wp2
  refine wp_loop_rounds 1 ?_
  rw [rounds_succ]
  go_wp2_with (first | (go_at_call 59; refine (Su.insertionSort_int_nil p cap _).mono ?_; rintro e w' ⟨rfl, rfl⟩))
  refine bodyPost_ret (results_none rfl _ _ _) rfl ?_      -- an explicit 'return' in a function without results
  exact ⟨rfl, rfl⟩
theorem Su.Sort_int_nil (p : Option Addr) (cap : Nat) (w : World) :
    Calls Tryz.prog 41 #[.slice p 0 cap] w fun e w' => e = .returned (.tuple #[]) ∧ w' = w := by
  have hLen : ∀ w, Calls Tryz.prog 54 #[.int .u64 0] w fun e w' => e = .returned (.int .i64 0) ∧ w' = w := fun w => Su.bits_Len 0 w (by omega) (by omega)
  go_enter Tryz.func41, Tryz.ntmps41
  go_wp2_with (first
    | (go_at_call 54; refine (hLen _).mono ?_; rintro e w' ⟨rfl, rfl⟩)
    | (go_at_call 53; refine (Su.pdqsort_int_nil p cap _).mono ?_; rintro e w' ⟨rfl, rfl⟩))
  go_end0
  exact ⟨rfl, rfl⟩
end Go.Proofs.YtkgikodiecmakaaGreatDoor
namespace Go.Proofs.YtkgikodiecmakaaGreatDoor
open Go.Sort Go.RowKit Go.Lib
open Go.Sort
theorem callees13 : Callees13 where
  ins := Su.insertionSort_int
  brk := Su.breakPatterns_int
  piv := Su.choosePivot_int
  par := Su.partialInsertionSort_int
  peq := Su.partitionEqualOrdered_int
  prt := Su.partitionOrdered_int
theorem plain13 : Plain13 where
  swo := swo_ltInt
  ins := insertionSort_holds
  par := partialInsertionSort_holds
  prt := partition_holds _
  peq := partitionEqual_holds _
  pdq := pdq_sorts _
theorem cQ : QE := fun blk off cap a b limit d w hH hb hab hbd hsz hl hB =>
  Su.pdqsort_int callees13 plain13 (b - a + 1) blk off cap a b limit d w (by omega) hH hb hab hbd hsz hl hB
theorem bK (zs : List Int) : Sort.sort ltInt zs.toArray = (zs.mergeSort fun x y => decide (x ≤ y)).toArray := by
  rw [← sortInt zs]
theorem Su.slices_Sort_int (blk off cap : Nat) (zs : List Int) (w : World) (hH : Holds AJ w blk off zs.toArray) (hblk : blk < w.heap.size) (hsz : zs.length < 4611686018427387904) :
    Calls Tryz.prog 41 #[.slice (some ⟨blk, off, none⟩) zs.length cap] w fun e w' =>
      e = .returned (.tuple #[]) ∧ ∃ n os, w' = grow (putRow AJ (Sort.ahead w n) blk off (zs.mergeSort fun x y => decide (x ≤ y)).toArray) os := by
  have h := Su.Sort_int cQ blk off cap zs.toArray w hH hblk (by simpa using hsz)
  rw [bK] at h
  simpa using h
end Go.Proofs.YtkgikodiecmakaaGreatDoor
namespace Go.Proofs.YtkgikodiecmakaaGreatDoor
open Go.Maps Go.RowKit Go.Sort
def LT {H : Type} : DataW H → List Int
  | .map es => es.map fun p => Go.intOf p.1
  | _ => []
theorem encU_injU {x y : Int} (h : AJ x = AJ y) : x = y := by simpa [AJ] using h
theorem PB {P : Program} {k : TypeId} (hk : P.underlying k = some (.int .u32)) {key : Value} {kl : Lit} (h : keyOf P k key = some kl) : ∃ x : Int, key = AJ x ∧ kl = .int .u32 x ∧ (Lit.int .u32 x).wf = true := by
  cases key <;> simp [keyOf, hk, mapKey] at h
  rename_i q a
  obtain ⟨⟨rfl, hw⟩, rfl⟩ := h
  exact ⟨a, rfl, rfl, hw⟩
theorem YC {H : Type} {es : List (Lit × DataW H)} (hp : es.Pairwise (fun p q => p.1 ≠ q.1)) (hk : ∀ p ∈ es, ∃ x, p.1 = .int .u32 x) {ss : List Int} (hnd : ss.Nodup) (hm : ∀ x, x ∈ ss ↔ has (.map es) (.int .u32 x) = true) :
    ss.Perm (LT (.map es)) := by
  refine (List.perm_ext_iff_of_nodup hnd ?_).2 fun x => ?_
  · show (es.map fun p => Go.intOf p.1).Nodup
    refine List.pairwise_map.2 (hp.imp_of_mem fun {p q} hp' hq' hne e => hne ?_)
    obtain ⟨a, ha⟩ := hk p hp'
    obtain ⟨b, hb⟩ := hk q hq'
    rw [ha, hb] at e ⊢
    exact congrArg _ e
  · rw [hm x, has_eq, List.any_eq_true]
    show _ ↔ x ∈ es.map fun p => Go.intOf p.1
    rw [List.mem_map]
    constructor
    · rintro ⟨p, hp', hs⟩
      obtain ⟨a, ha⟩ := hk p hp'
      rw [ha] at hs
      exact ⟨p, hp', by rw [ha]; simpa [Lit.sameKey, Go.intOf] using hs⟩
    · rintro ⟨p, hp', rfl⟩
      obtain ⟨a, ha⟩ := hk p hp'
      exact ⟨p, hp', by rw [ha]; simp [Lit.sameKey, Go.intOf]⟩
def EM {H : Type} (D0 : DataW H) (left : Lit → Bool) (ss : List Int) : Prop := ss.Nodup ∧ ∀ x, x ∈ ss ↔ (has D0 (.int .u32 x) = true ∧ left (.int .u32 x) = false)
section
variable {H : Type} {D0 : DataW H} {left : Lit → Bool} {ss : List Int}
theorem EM.start (D0 : DataW H) : EM D0 (has D0) [] := ⟨List.nodup_nil, fun x => by cases has D0 (.int .u32 x) <;> simp⟩
theorem EM.step (h : EM D0 left ss) {x : Int} {y : DataW H} (hlk : left (.int .u32 x) = true) (hat : ∀ zd, D0.atKey (.int .u32 x) zd = y) : EM D0 (fun z => left z && !z.sameKey (.int .u32 x)) (ss ++ [x]) := by
  have hhas : has D0 (.int .u32 x) = true := has_true_of_atKey hat
  have hnew : x ∉ ss := fun hx => by have := ((h.2 x).1 hx).2; rw [hlk] at this; cases this
  refine ⟨List.nodup_append.2 ⟨h.1, by simp, fun a ha b hb => by simp at hb; subst hb; exact fun e => hnew (e ▸ ha)⟩, fun y => ?_⟩
  by_cases hy : y = x
  · subst hy; simp [hhas, Lit.sameKey]
  · simp [h.2 y, hy, Lit.sameKey]
variable {P : Program} {k : TypeId} {R : Value → Option (DataW H × List MemPlace)} {w : World} {b n : Nat}
theorem EM.perm (h : EM D0 left ss) (hown : w.ownsMap P k R b n D0) (K : Keyed P k) (hk : P.underlying k = some (.int .u32)) (hl : ∀ kl, left kl = false) : ss.Perm (LT D0) := by
  obtain ⟨es, hD, hpw, _⟩ := hown.entries K
  obtain ⟨es', hD', hko⟩ := hown.keysOf
  obtain rfl : es = es' := by rw [hD] at hD'; simpa using hD'
  subst hD
  exact YC hpw (fun p hp => by obtain ⟨v, hv⟩ := hko p hp; obtain ⟨x, _, hx, _⟩ := PB hk hv; exact ⟨x, hx⟩) h.1 (fun x => by rw [h.2 x, hl]; simp)
end
theorem NR {w : World} {g : Nat} {cur : Array Value} {e : TypeId} {ss : List Int} (hb : w.heap[g]? = some (.cells cur e (0, 0))) (ht : cur.toList.take ss.length = ss.map AJ) : Holds AJ w g 0 ss.toArray := by
  intro j hj
  have hj' : j < ss.length := by simpa using hj
  refine ⟨?_, by simp [World.frozen?, hb]⟩
  have h1 : (cur.toList.take ss.length)[j]? = (ss.map AJ)[j]? := by rw [ht]
  rw [List.getElem?_take_of_lt hj'] at h1
  simp only [World.cell?, hb, Nat.zero_add]
  simp only [Option.isSome_none, Bool.false_eq_true, if_false]
  rw [← Array.getElem?_toList, h1]
  simp [hj']
theorem RY {w : World} {g n : Nat} {os : Array Obj} {cur : Array Value} {e : TypeId} {fr : Nat × Nat} (d : Array Int) (hb : w.heap[g]? = some (.cells cur e fr)) :
    (grow (putRow AJ (Sort.ahead w n) g 0 d) os).heap[g]? = some (.cells (putCells AJ 0 d cur) e fr) := by
  have hg : g < w.heap.size := (Array.getElem?_eq_some_iff.1 hb).1
  rw [heap_grow_old _ _ (by simpa using hg)]
  simp [putRow, mapBlock, Sort.ahead, Array.getElem?_modify, hb, onCells]
theorem NQ {w : World} {g n : Nat} {os : Array Obj} (d : Array Int) : w.grownBy (grow (putRow AJ (Sort.ahead w n) g 0 d) os) (some g) := by
  refine ⟨rfl, rfl, rfl, by simp, fun k hk hne => ?_⟩
  rw [heap_grow_old _ _ (by simpa using hk)]
  have : g ≠ k := fun e => hne (by rw [e])
  simp [putRow, mapBlock, Sort.ahead, Array.getElem?_modify, this]
theorem PU (cur : Array Value) (ts : List Int) (h : ts.length ≤ cur.size) : (putCells AJ 0 ts.toArray cur).toList.take ts.length = ts.map AJ := by
  apply List.ext_getElem?
  intro j
  by_cases hj : j < ts.length
  · rw [List.getElem?_take_of_lt hj, Array.getElem?_toList]
    simp [putCells, hj, show j < cur.size by omega]
  · rw [List.getElem?_take_eq_none (by omega), List.getElem?_eq_none (by simp; omega)]
theorem NY {w : World} {base g cap n : Nat} {e : TypeId} {os : Array Obj} {cur : Array Value} {ss ts : List Int} (hl : ts.length = ss.length) (hbase : base ≤ g) (hb : w.heap[g]? = some (.cells cur e (0, 0)))
    (h1 : ss.length ≤ cap) (h2 : cap ≤ maxLen) (h3 : cur.size = cap * 1) :
    (grow (putRow AJ (Sort.ahead w n) g 0 ts.toArray) os).ownsRow base e 1 (.slice (some ⟨g, 0, none⟩) ss.length cap) ss.length (ts.map AJ) :=
  ⟨by simp [hl], .inr ⟨g, cap, _, rfl, hbase, RY _ hb, h1, h2, by simp [putCells, h3], by rw [Nat.mul_one, ← hl]; exact PU cur ts (by omega)⟩⟩
end Go.Proofs.YtkgikodiecmakaaGreatDoor
namespace Go.Proofs.YtkgikodiecmakaaGreatDoor
open Go.RowKit Go.Maps Go.Sort Go.Shelf
theorem JS : Tryz.prog.follows .mixedOrders = true := by kernel_rfl
theorem KW : Tryz.prog.underlying 0 = some (TypeDesc.tuple #[]) := by kernel_rfl
theorem WC : ∀ w, (isAgg 0).run Tryz.prog w = .ok false w := fun w => by kernel_rfl
theorem WE : ∀ w, (Go.sizeOf 0).run Tryz.prog w = .ok 1 w := fun w => by kernel_rfl
theorem WD : ∀ w, (zeroValue 0).run Tryz.prog w = .ok (Value.tuple #[]) w := fun w => by kernel_rfl
theorem kz_t4 : Tryz.prog.underlying 4 = some (TypeDesc.bool) := by kernel_rfl
theorem kz_a4 : ∀ w, (isAgg 4).run Tryz.prog w = .ok false w := fun w => by kernel_rfl
theorem kz_z4 : ∀ w, (Go.sizeOf 4).run Tryz.prog w = .ok 1 w := fun w => by kernel_rfl
theorem kz_v4 : ∀ w, (zeroValue 4).run Tryz.prog w = .ok (Value.bool false) w := fun w => by kernel_rfl
theorem SH : Tryz.prog.underlying 52 = some (TypeDesc.map 33 57) := by kernel_rfl
theorem kz_a23 : ∀ w, (isAgg 52).run Tryz.prog w = .ok false w := fun w => by kernel_rfl
theorem kz_z23 : ∀ w, (Go.sizeOf 52).run Tryz.prog w = .ok 1 w := fun w => by kernel_rfl
theorem kz_v23 : ∀ w, (zeroValue 52).run Tryz.prog w = .ok (Value.map none) w := fun w => by kernel_rfl
theorem IP : Tryz.prog.underlying 73 = some (TypeDesc.slice 33) := by kernel_rfl
theorem XU : ∀ w, (isAgg 73).run Tryz.prog w = .ok false w := fun w => by kernel_rfl
theorem XX : ∀ w, (Go.sizeOf 73).run Tryz.prog w = .ok 1 w := fun w => by kernel_rfl
theorem XW : ∀ w, (zeroValue 73).run Tryz.prog w = .ok (Value.slice none 0 0) w := fun w => by kernel_rfl
theorem EE : Tryz.prog.underlying 33 = some (TypeDesc.int IntKind.u32) := by kernel_rfl
theorem PC : ∀ w, (isAgg 33).run Tryz.prog w = .ok false w := fun w => by kernel_rfl
theorem PG : ∀ w, (Go.sizeOf 33).run Tryz.prog w = .ok 1 w := fun w => by kernel_rfl
theorem PD : ∀ w, (zeroValue 33).run Tryz.prog w = .ok (Value.int IntKind.u32 0) w := fun w => by kernel_rfl
theorem kz_t27 : Tryz.prog.underlying 76 = some (TypeDesc.func #[91] #[] false) := by kernel_rfl
theorem kz_a27 : ∀ w, (isAgg 76).run Tryz.prog w = .ok false w := fun w => by kernel_rfl
theorem kz_z27 : ∀ w, (Go.sizeOf 76).run Tryz.prog w = .ok 1 w := fun w => by kernel_rfl
theorem kz_v27 : ∀ w, (zeroValue 76).run Tryz.prog w = .ok Value.nilFunc w := fun w => by kernel_rfl
theorem JJ : Tryz.prog.underlying 76 = some (TypeDesc.func #[91] #[] false) := by kernel_rfl
theorem SG : ∀ w, (isAgg 76).run Tryz.prog w = .ok false w := fun w => by kernel_rfl
theorem SJ : ∀ w, (Go.sizeOf 76).run Tryz.prog w = .ok 1 w := fun w => by kernel_rfl
theorem SI : ∀ w, (zeroValue 76).run Tryz.prog w = .ok Value.nilFunc w := fun w => by kernel_rfl
theorem XV : Tryz.prog.underlying 91 = some (TypeDesc.func #[33] #[4] false) := by kernel_rfl
theorem kz_a33 : ∀ w, (isAgg 91).run Tryz.prog w = .ok false w := fun w => by kernel_rfl
theorem kz_z33 : ∀ w, (Go.sizeOf 91).run Tryz.prog w = .ok 1 w := fun w => by kernel_rfl
theorem kz_v33 : ∀ w, (zeroValue 91).run Tryz.prog w = .ok Value.nilFunc w := fun w => by kernel_rfl
theorem kz_i26 : (Tryz.prog.info? 33).map (fun i => (i.zero, i.size, i.bytes)) = some (some (.int .u32 0), 1, 4) := by kernel_rfl
theorem Ku.keys_in (F : Fence) (n : Nat) (h7 : F.fn (25)) (hro : F.round = none) (mb : Option Nat) (w : World) :
    CallsIn F n Tryz.prog (25) #[.map mb] w fun e w' => e = .returned (.func (.func (42)) #[] #[.pointer (some ⟨w.heap.size, 0, none⟩)]) ∧ w' = w.alloc (.cells #[.map mb] (52)) := by
  have mixed := JS; have t0 := KW; have a0 := WC; have z0 := WE; have v0 := WD; have t4 := kz_t4; have a4 := kz_a4; have z4 := kz_z4; have v4 := kz_v4; have t23 := SH; have a23 := kz_a23; have z23 := kz_z23; have v23 := kz_v23; have t26 := EE; have a26 := PC; have z26 := PG; have v26 := PD; have t27 := kz_t27; have a27 := kz_a27; have z27 := kz_z27; have v27 := kz_v27; have t28 := JJ; have a28 := SG; have z28 := SJ; have v28 := SI; have t33 := XV; have a33 := kz_a33; have z33 := kz_z33; have v33 := kz_v33
  have u0 := run_underlying KW; have u4 := run_underlying kz_t4; have u23 := run_underlying SH; have u26 := run_underlying EE; have u27 := run_underlying kz_t27; have u28 := run_underlying JJ; have u33 := run_underlying XV
  have FG := Tryz.func25
  refine callsIn_of_wp FG rfl h7 ?_ hro
  simp only [Tryz.ntmps25, List.size_toArray, List.length_cons, List.length_nil, Nat.reduceAdd, Nat.reduceSub, Array.replicate_succ, Array.replicate_zero, List.push_toArray, List.append_toArray, List.nil_append, List.cons_append]
  gi_wp2
  go_ret
  exact ⟨rfl, rfl⟩
theorem Ku.keys1N_in {H : Type} (F : Fence) (n : Nat) (h10 : F.fn (42)) (hro : F.round = none) (hn : 1 ≤ n) (l Bm b nn : Nat) (D0 : DataW H) {R : Value → Option (DataW H × List MemPlace)} (J : List Int → World → Prop)
    (hY : ∀ pre x W, J pre W → pre.length < Maps.size D0 → YieldAt F (n - 1) Tryz.prog l #[AJ x] W fun e W' => e = .returned (.bool true) ∧ J (pre ++ [x]) W' ∧ KeepsWalks W W')
    (W : World) (hJ : AbidesFrom W.heap.size J) (hm : W.cell? ⟨Bm, 0, none⟩ = some (.map (some b))) (hown : W.ownsMap Tryz.prog (33) R b nn D0) (h0 : J [] W) :
    CallsIn F n Tryz.prog (42) #[.func (.yield l) #[] #[], .pointer (some ⟨Bm, 0, none⟩)] W fun e W' => (∃ v, e = .returned v) ∧ ∃ ss : List Int, ss.Perm (LT D0) ∧ J ss W' := by
  have mixed := JS; have t0 := KW; have a0 := WC; have z0 := WE; have v0 := WD; have t4 := kz_t4; have a4 := kz_a4; have z4 := kz_z4; have v4 := kz_v4; have t23 := SH; have a23 := kz_a23; have z23 := kz_z23; have v23 := kz_v23; have t26 := EE; have a26 := PC; have z26 := PG; have v26 := PD; have t33 := XV; have a33 := kz_a33; have z33 := kz_z33; have v33 := kz_v33
  have u0 := run_underlying KW; have u4 := run_underlying kz_t4; have u23 := run_underlying SH; have u26 := run_underlying EE; have u33 := run_underlying XV
  have FG := Tryz.func42
  refine callsIn_of_wp FG rfl h10 ?_ hro
  simp only [Tryz.ntmps42, List.size_toArray, List.length_cons, List.length_nil, Nat.reduceAdd, Nat.reduceSub, Array.replicate_succ, Array.replicate_zero, List.push_toArray, List.append_toArray, List.nil_append, List.cons_append]
  gi_wp2_with (first
    | (gi_at_range; refine wpListIn_range_own _ rfl _ (52) rfl (33) (57) (int_keyed EE) SH _ b nn _ rfl hown ?_; intro w0 hrg0 hg0 hs0)
    | gi_in)
  go_frame
  gi_loopw [3] (fun _ wr => ∃ (left : Lit → Bool) (cnt : Nat) (ss : List Int), wr.ranges Tryz.prog (33) R b W.heap.size nn D0 left cnt ∧ ss.length + cnt ≤ Maps.size D0 ∧ EM D0 left ss ∧ J ss wr)
    (fun _ wr => wr.rangeLeft b W.heap.size)
  case atStart =>
    exact ⟨_, _, [], hrg0, by simp, EM.start D0, hJ [] W w0 none h0 hg0 (fun r e => by cases e)⟩
  case round =>
    obtain ⟨left, cnt, ss, hrg, hcs, hC, hJs⟩ := hrel
    gi_wp2_with (first
      | (gi_at_next; refine wpListIn_next_ranges _ rfl _ rfl (33) (int_keyed EE) R AJ id (fun key kl hk => by obtain ⟨x, hx, _⟩ := PB EE hk; exact ⟨x, hx⟩) (fun v _ _ => ⟨v, rfl⟩) b W.heap.size nn _ _ _ rfl hrg ?_ ?_)
      | gi_in)
    · -- NOTHING IS LEFT
      intro hc0 hl0
      gi_wp2
      go_end0
      exact ⟨⟨_, rfl⟩, ss, hC.perm hown (int_keyed EE) EE hl0, hJs⟩
    · -- AN ENTRY HAS COME: yield(k)
      intro x c kl yd yp w2 cnt2 hkey hlk hv hat hrg2 hlt hg2 hs2 hen
      obtain ⟨x', ex, rfl, _⟩ := PB EE hkey
      obtain rfl : x = x' := encU_injU ex
      have hJ2 : J ss w2 := hJ ss wr w2 (some W.heap.size) hJs hg2 (fun r e => by cases e; exact ⟨Nat.le_refl _, hrg.iter_walk⟩)
      obtain ⟨fn, tmps, assign, body, hy, hR⟩ := hY ss x w2 hJ2 (by omega)
      clear hs2
      gi_wp2
      refine hR.mono ?_
      rintro e W3 ⟨rfl, hJ3, hk3⟩
      gi_wp2
      have hrg3 := hrg2.of_walks hk3
      go_roundw
      case rel => exact ⟨_, cnt2, ss ++ [x], hrg3, by simp; omega, hC.step hlk hat, hJ3⟩
      case measure => rw [hrg3.left_eq, hrg.left_eq]; exact hlt
theorem Ku.keys_gives {H : Type} (F : Fence) (n : Nat) (h10 : F.fn (42)) (hro : F.round = none) (hn : 1 ≤ n) (Bm b nn : Nat) (D0 : DataW H) {R : Value → Option (DataW H × List MemPlace)} (w : World) (hBm : Bm < w.heap.size)
    (hm : w.cell? ⟨Bm, 0, none⟩ = some (.map (some b))) (hown : w.ownsMap Tryz.prog (33) R b nn D0) :
    SeqGives F n Tryz.prog (42) #[.pointer (some ⟨Bm, 0, none⟩)] AJ (fun ss => ss.Perm (LT D0)) (Maps.size D0) w := fun l J W hW hJ hY h0 => by
  have hown' : W.ownsMap Tryz.prog (33) R b nn D0 := by
    have hbl := hown.lt
    obtain ⟨es, clock, hb, Ft, hs, hD⟩ := hown
    exact ⟨es, clock, (hW.block b hbl).trans hb, Ft, hs, hD⟩
  exact Ku.keys1N_in F n h10 hro hn l Bm b nn D0 J hY W hJ ((hW.cell (p := ⟨Bm, 0, none⟩) hBm).trans hm) hown' h0
def Ku.apAssign : Code := (Code.region 2 #[{ dst := some 5, op := Op.assign (Operand.tmp 7), type := 33, pos := "iter.go:51", after := #[], guard := none }] false)
def Ku.apBody : Code := (Code.block 1 (Code.region 3 #[{ dst := some 8, op := Op.load (73) (Operand.tmp 2), type := 73, pos := "iter.go:52", after := #[], guard := none }, { dst := some 9, op := Op.move (Operand.tmp 5), type := 33, pos := "iter.go:52", after := #[], guard := none }, { dst := some 10, op := Op.buildSlice (73) 1 #[(0, Operand.tmp 9)], type := 73, pos := "iter.go:52", after := #[{ on := 1, ground := Ground.data }], guard := none }, { dst := some 11, op := Op.call { callee := Callee.builtin Builtin.append, args := #[Operand.tmp 8, Operand.tmp 10], argTypes := #[73, 73] }, type := 73, pos := "iter.go:52", after := #[{ on := 0, ground := Ground.data }, { on := 2, ground := Ground.data }], guard := none }, { dst := none, op := Op.store (73) (Operand.tmp 2) (Operand.tmp 11), type := 0, pos := "iter.go:52", after := #[{ on := 3, ground := Ground.data }, { on := 3, ground := Ground.chain }, { on := 0, ground := Ground.phase }, { on := 1, ground := Ground.phase }, { on := 2, ground := Ground.phase }, { on := 3, ground := Ground.phase }], guard := none }] false))
def Ku.apRec (fn : FuncId) (sv : Value) (Bs D : Nat) (st : LoopState) (pend : Option Code) : Loop :=
  { state := st, pending := pend, fn, tmps := #[.slice none 0 0, sv, .pointer (some ⟨Bs, 0, none⟩), undef, .slice none 0 0, undef, sv, undef, undef, undef, undef, undef, undef], params := #[7], assign := Ku.apAssign, body := Ku.apBody, defers := D }
structure Ku.ApAt (w0 : World) (fn : FuncId) (sv : Value) (Bs l D : Nat) (ss : List Int) (W : World) : Prop where
  box : ∃ v, W.heap[Bs]? = some (.cells #[v] (73) (0, 0)) ∧ W.ownsRow w0.heap.size (33) 1 v ss.length (ss.map AJ) ∧ (v = .slice none 0 0 ↔ ss = [])
  L : W.heap[l]? = some (.loop (Ku.apRec fn sv Bs D .ready none))
  K : W.heap[D]? = some (.deferred (some []))
  below : Below w0.heap.size w0 W
theorem Ku.ap_abides (w0 : World) (fn : FuncId) (sv : Value) (Bs l D B : Nat) (hB : w0.heap.size ≤ B) : AbidesFrom B (Ku.ApAt w0 fn sv Bs l D) := fun s W W' row h hg hrow => by
  have hrow' : ∀ r, row = some r → ∃ o : Obj, W.heap[r]? = some o ∧ o.isWalk = true := fun r e => (hrow r e).2
  obtain ⟨v, hv, hr, hn⟩ := h.box
  exact ⟨⟨v, (grownBy_keeps hg hrow' hv rfl).trans hv, ownsRow_abides_a hr hg hrow', hn⟩, (grownBy_keeps hg hrow' h.L rfl).trans h.L, (grownBy_keeps hg hrow' h.K rfl).trans h.K,
    h.below.grown hg h.below.size (fun k e => Nat.le_trans hB (hrow k e).1)⟩
theorem Ku.apYield (F : Fence) (m : Nat) (w0 : World) (fn : FuncId) (hfn : F.fn fn) (sv : Value) (Bs l D : Nat) (hBl : Bs ≠ l) (hDl : D ≠ l) (hDB : D ≠ Bs) (h0B : w0.heap.size ≤ Bs) (h0l : w0.heap.size ≤ l)
    (N : Nat) (hN : N ≤ maxLen) (hNb : N * 8 ≤ 140737488355328) (ss : List Int) (x : Int) (W : World) (h : Ku.ApAt w0 fn sv Bs l D ss W) (hlen : ss.length < N) :
    YieldAt F m Tryz.prog l #[AJ x] W fun e W' => e = .returned (.bool true) ∧ Ku.ApAt w0 fn sv Bs l D (ss ++ [x]) W' ∧ KeepsWalks W W' := by
  have mixed := JS; have t0 := KW; have a0 := WC; have z0 := WE; have v0 := WD; have t24 := IP; have a24 := XU; have z24 := XX; have v24 := XW; have t26 := EE; have a26 := PC; have z26 := PG; have v26 := PD; have t28 := JJ; have a28 := SG; have z28 := SJ; have v28 := SI
  have hne : 73 ≠ 33 := fun e => by have h := IP; rw [e, EE] at h; cases h
  have u0 := run_underlying KW; have u24 := run_underlying IP; have u26 := run_underlying EE; have u28 := run_underlying JJ
  obtain ⟨i0, hi, hz0, hz1, hz2⟩ := info_parts kz_i26
  obtain ⟨v, hv, hrow, _⟩ := h.box
  refine ⟨fn, #[.slice none 0 0, sv, .pointer (some ⟨Bs, 0, none⟩), undef, .slice none 0 0, undef, sv, AJ x, undef, undef, undef, undef, undef], Ku.apAssign, Ku.apBody, by simpa [Ku.apRec] using run_yield (P := Tryz.prog) (args := #[AJ x]) h.L rfl, roundIn_of_wpIn hfn ?_⟩
  have hl : l < W.heap.size := (Array.getElem?_eq_some_iff.1 h.L).1
  have hbr := run_beginRound (P := Tryz.prog) h.L rfl
  obtain ⟨W2, hW2⟩ : ∃ W2, W.putObj l (.loop { Ku.apRec fn sv Bs D .ready none with state := .busy }) = W2 := ⟨_, rfl⟩
  rw [hW2] at hbr
  have hg2 : W.grownBy W2 (some l) := by rw [← hW2]; exact grownBy_putObj_a _ _ _
  have hk2 : KeepsWalks W W2 := by rw [← hW2]; exact KeepsWalks.putObj _ h.L rfl
  have hv2 : W2.heap[Bs]? = some (.cells #[v] (73) (0, 0)) := by rw [← hW2]; exact (World.putObj_heap_other hBl).trans hv
  have hK2 : W2.heap[D]? = some (.deferred (some [])) := by rw [← hW2]; exact (World.putObj_heap_other hDl).trans h.K
  have hL2 : W2.heap[l]? = some (.loop { Ku.apRec fn sv Bs D .ready none with state := .busy }) := by rw [← hW2]; exact World.putObj_heap_same hl
  have hrow2 : W2.ownsRow w0.heap.size (33) 1 v ss.length (ss.map AJ) := hrow.kept hg2 (ownsRow_ne_a hrow h.L (fun cur e => by first | cases e | exact hne (Obj.cells.inj e).2.1))
  have hb2 : Below w0.heap.size w0 W2 := h.below.grown hg2 h.below.size (fun k e => by cases e; exact h0l)
  obtain ⟨hc2, hf2⟩ := cell_of_box_a hv2
  have hBlt : Bs < W2.heap.size := (Array.getElem?_eq_some_iff.1 hv2).1
  have hl2 : l < W2.heap.size := (Array.getElem?_eq_some_iff.1 hL2).1
  have hDlt : D < W2.heap.size := (Array.getElem?_eq_some_iff.1 hK2).1
  have ne_of : ∀ {j : Nat} {o : Obj}, W2.heap[j]? = some o → (∀ cur, o ≠ .cells cur (33) (0, 0)) → some j ≠ v.ownBlock := fun hj hno => by
    rcases ownsRow_ne_a hrow2 hj hno with e | e
    · rw [e]; simp
    · exact fun e' => e e'.symm
  clear hW2
  unfold Ku.apAssign
  gi_wp2_with gi_round_op_a
  unfold Ku.apBody
  gi_wp2_with (first
    | (gi_at_builtin; refine wpListIn_append_own _ rfl _ _ (73) rfl w0.heap.size (33) i0 (.int .u32 0) 1 4 IP hi hz0 hz1 hz2 rfl (by decide) _ _ _ rfl (hrow2.alloc _) ⟨W2.heap.size, 0, none⟩ 1 1 [AJ x] rfl rfl (cell_one_new _ _ _) (by simp [Value.oneCell', AJ]) (by omega) (by omega) (by have := hb2.size; simp; omega) ?_; intro v' w3 hown' hg3 hnil3
       have hv3 : w3.heap[Bs]? = some (.cells #[v] (73) (0, 0)) := (hg3.block Bs (by simp; omega) (ne_of hv2 (fun cur e => by first | cases e | exact hne (Obj.cells.inj e).2.1))).trans ((Below.heap_alloc _ _ Bs hBlt).trans hv2)
       obtain ⟨hc3, hf3⟩ := cell_of_box_a hv3
       obtain ⟨g', cap', cur', rfl, hbase', hgb', hr1, hr2, hr3, hr4⟩ : ∃ g' cap' cur', v' = .slice (some ⟨g', 0, none⟩) (ss.length + 1) cap' ∧ w0.heap.size ≤ g' ∧ w3.heap[g']? = some (.cells cur' (33) (0, 0)) ∧ ss.length + 1 ≤ cap' ∧ cap' ≤ maxLen ∧ cur'.size = cap' * 1 ∧ cur'.toList.take ((ss.length + 1) * 1) = ss.map AJ ++ [AJ x] := by
         rcases hown'.2 with ⟨_, h0⟩ | h'
         · exact absurd h0 (by omega)
         · exact h'
       go_frame)
    | gi_round_op_a)
  have hg3' : (W2.alloc (.cells #[AJ x] (33))).grownBy w3 v.ownBlock := hg3
  have hL3 : w3.heap[l]? = some (.loop { Ku.apRec fn sv Bs D .ready none with state := .busy }) := (hg3'.block l (by simp; omega) (ne_of hL2 (fun cur e => by first | cases e | exact hne (Obj.cells.inj e).2.1))).trans ((Below.heap_alloc _ _ l hl2).trans hL2)
  have hK3 : w3.heap[D]? = some (.deferred (some [])) := (hg3'.block D (by simp; omega) (ne_of hK2 (fun cur e => by first | cases e | exact hne (Obj.cells.inj e).2.1))).trans ((Below.heap_alloc _ _ D hDlt).trans hK2)
  obtain ⟨w4, hw4⟩ : ∃ w4, w3.setCell ⟨Bs, 0, none⟩ (.slice (some ⟨g', 0, none⟩) (ss.length + 1) cap') = w4 := ⟨_, rfl⟩
  rw [hw4]
  have hg4 : w3.grownBy w4 (some Bs) := by rw [← hw4]; exact grownBy_setCell0_a _ _ _
  have hv4 : w4.heap[Bs]? = some (.cells #[.slice (some ⟨g', 0, none⟩) (ss.length + 1) cap'] (73) (0, 0)) := by rw [← hw4]; exact heap_setCell_box_a _ hv3
  have hL4 : w4.heap[l]? = some (.loop { Ku.apRec fn sv Bs D .ready none with state := .busy }) := (hg4.block l (Array.getElem?_eq_some_iff.1 hL3).1 (fun e => hBl (by cases e; rfl))).trans hL3
  have hK4 : w4.heap[D]? = some (.deferred (some [])) := (hg4.block D (Array.getElem?_eq_some_iff.1 hK3).1 (fun e => hDB (by cases e; rfl))).trans hK3
  have hrow4 := hown'.kept hg4 (ownsRow_ne_a hown' hv3 (fun cur e => by first | cases e | exact hne (Obj.cells.inj e).2.1))
  have hl4 : l < w4.heap.size := (Array.getElem?_eq_some_iff.1 hL4).1
  have hb3 : Below w0.heap.size w0 w3 := (hb2.alloc hb2.size _).grown hg3' (by have := hb2.size; simp; omega) (fun k e => (hrow2.lt k e).1)
  have hb4 : Below w0.heap.size w0 w4 := hb3.grown hg4 hb3.size (fun k e => by cases e; exact h0B)
  have hk4 : KeepsWalks W w4 := ((hk2.trans (KeepsWalks.alloc _ _)).trans (KeepsWalks.of_grownBy hg3' (ownsRow_not_walk_a (hrow2.alloc _)))).trans (by rw [← hw4]; exact KeepsWalks.setCell _ _ _)
  clear hw4
  refine ⟨_, _, run_endRound none hL4, rfl, ⟨⟨_, (World.putObj_heap_other hBl).trans hv4, ?_, by simp⟩, World.putObj_heap_same hl4, (World.putObj_heap_other hDl).trans hK4, hb4.grown (grownBy_putObj_a _ _ _) hb4.size (fun k e => by cases e; exact h0l)⟩, hk4.trans (KeepsWalks.putObj _ hL4 rfl)⟩
  have := hrow4.kept (grownBy_putObj_a w4 l (.loop { { Ku.apRec fn sv Bs D .ready none with state := .busy } with state := if (none : Option Code).isNone then .ready else .done, pending := none })) (ownsRow_ne_a hrow4 hL4 (fun cur e => by first | cases e | exact hne (Obj.cells.inj e).2.1))
  simpa using this
theorem Ku.appendSeq_in (F : Fence) (n : Nat) (h11 : F.fn (52)) (hro : F.round = none) (hn : 2 ≤ n) (g : Nat) (lb : Array Value) (hFg : F.fn g) (eg : ∀ args w, (callFunc g args).run Tryz.prog w = .ok (.enter g args) w)
    (S : List Int → Prop) (N : Nat) (hN : N ≤ maxLen) (hNb : N * 8 ≤ 140737488355328) (w : World) (hseq : SeqGives F (n - 1) Tryz.prog g lb AJ S N w) :
    CallsIn F n Tryz.prog (52) #[.slice none 0 0, .func (.func g) #[] lb] w fun e w' => ∃ (v : Value) (ss : List Int), e = .returned v ∧ S ss ∧ w'.ownsRow w.heap.size (33) 1 v ss.length (ss.map AJ) ∧ (v = .slice none 0 0 ↔ ss = []) ∧ Below w.heap.size w w' := by
  have h1 : 1 ≤ n := by omega
  have mixed := JS; have t0 := KW; have a0 := WC; have z0 := WE; have v0 := WD; have t24 := IP; have a24 := XU; have z24 := XX; have v24 := XW; have t26 := EE; have a26 := PC; have z26 := PG; have v26 := PD; have t28 := JJ; have a28 := SG; have z28 := SJ; have v28 := SI
  have hne : 73 ≠ 33 := fun e => by have h := IP; rw [e, EE] at h; cases h
  have u0 := run_underlying KW; have u24 := run_underlying IP; have u26 := run_underlying EE; have u28 := run_underlying JJ
  have FG := Tryz.func52
  refine callsIn_of_wp_marks FG rfl h11 ?_ hro
  simp only [Tryz.ntmps52, List.size_toArray, List.length_cons, List.length_nil, Nat.reduceAdd, Nat.reduceSub, Array.replicate_succ, Array.replicate_zero, List.push_toArray, List.append_toArray, List.nil_append, List.cons_append]
  gi_wp2
  refine wpIn_rangeFunc ?_
  intro fn hfn
  rw [hro]
  obtain ⟨W0, hW0⟩ : ∃ W0, w.alloc (.cells #[.slice none 0 0] (73)) = W0 := ⟨_, rfl⟩
  have hs0 : W0.heap.size = w.heap.size + 1 := by rw [← hW0]; simp
  have hv0 : W0.heap[w.heap.size]? = some (.cells #[.slice none 0 0] (73) (0, 0)) := by rw [← hW0]; exact World.alloc_heap_new w _
  have hb0 : Below w.heap.size w W0 := by rw [← hW0]; exact (Below.refl _ w).alloc (Nat.le_refl _) _
  rw [hW0]
  obtain ⟨W1, hW1⟩ : ∃ W1, (W0.alloc (.deferred (some []))).alloc (.loop (Ku.apRec fn (.func (.func g) #[] lb) w.heap.size W0.heap.size .ready none)) = W1 := ⟨_, rfl⟩
  have hold : ∀ k, k < W0.heap.size → W1.heap[k]? = W0.heap[k]? := fun k hk => by
    rw [← hW1]; exact (Below.heap_alloc _ _ k (by simp; omega)).trans (Below.heap_alloc _ _ k hk)
  have hb1 : Below w.heap.size w W1 := by rw [← hW1]; exact (hb0.alloc hb0.size _).alloc (by have := hb0.size; simp; omega) _
  have hs1 : W1.heap.size = W0.heap.size + 2 := by rw [← hW1]; simp
  have hM : Ku.ApAt w fn (.func (.func g) #[] lb) w.heap.size (W0.heap.size + 1) W0.heap.size [] W1 :=
    ⟨⟨_, (hold w.heap.size (by omega)).trans hv0, ⟨rfl, .inl ⟨rfl, rfl⟩⟩, by simp⟩,
     by rw [← hW1]; have := World.alloc_heap_new (W0.alloc (.deferred (some []))) (.loop (Ku.apRec fn (.func (.func g) #[] lb) w.heap.size W0.heap.size .ready none)); rwa [World.size_alloc] at this,
     by rw [← hW1]; exact (Below.heap_alloc _ _ _ (by simp)).trans (World.alloc_heap_new W0 _), hb1⟩
  refine ⟨W0.heap.size + 1, [{ target := .collected W0.heap.size, args := #[] }], W1, { target := .fn (.func g) lb, args := #[.func (.yield (W0.heap.size + 1)) #[] #[]] }, W1, g,
    #[.func (.yield (W0.heap.size + 1)) #[] #[]] ++ lb, W1, ?_, ?_, ?_, ?_, fun _ => h1, ?_⟩
  · rw [← hW1]; exact run_enterLoop_outer _ _ _ _ _
  · simp [resolve, go_sem]
  · intro f' hf'; simp [Target.leads] at hf'; subst hf'; exact hFg
  · simp [invoke, go_sem, eg]
  · refine (hseq (W0.heap.size + 1) (Ku.ApAt w fn (.func (.func g) #[] lb) w.heap.size (W0.heap.size + 1) W0.heap.size) W1 hb1 (Ku.ap_abides _ _ _ _ _ _ _ hb1.size)
      (fun pre x W hJ hl => Ku.apYield F (n - 1 - 1) w fn hfn _ w.heap.size (W0.heap.size + 1) W0.heap.size (by omega) (by omega) (by omega) (Nat.le_refl _) (by omega) N hN hNb pre x W hJ hl) hM).mono ?_
    rintro e W2 ⟨⟨v0, rfl⟩, ss, hS, h2⟩
    obtain ⟨v, hv, hrow, hnil⟩ := h2.box
    have hend := run_endLoop (P := Tryz.prog) h2.L (by simp [Ku.apRec])
    obtain ⟨W3, hW3⟩ : ∃ W3, W2.putObj (W0.heap.size + 1) (.loop { Ku.apRec fn (.func (.func g) #[] lb) w.heap.size W0.heap.size .ready none with state := .exhausted }) = W3 := ⟨_, rfl⟩
    rw [hW3] at hend
    have hg3 : W2.grownBy W3 (some (W0.heap.size + 1)) := by rw [← hW3]; exact grownBy_putObj_a _ _ _
    have hv3 : W3.heap[w.heap.size]? = some (.cells #[v] (73) (0, 0)) := by rw [← hW3]; exact (World.putObj_heap_other (by omega)).trans hv
    have hK3 : W3.heap[W0.heap.size]? = some (.deferred (some [])) := by rw [← hW3]; exact (World.putObj_heap_other (by omega)).trans h2.K
    have hrow3 := hrow.kept hg3 (ownsRow_ne_a hrow h2.L (fun cur e => by first | cases e | exact hne (Obj.cells.inj e).2.1))
    have hb3 : Below w.heap.size w W3 := h2.below.grown hg3 h2.below.size (fun k e => by cases e; omega)
    obtain ⟨hc3, hf3⟩ := cell_of_box_a hv3
    clear hW3
    refine ⟨none, W3, hend, ?_⟩
    gi_wp2
    rw [← hs0]
    refine ⟨by simp, .inl ⟨_, _, rfl, run_takeDeferred hK3, ?_⟩⟩
    exact ⟨_, results_tmp rfl _ _ _, v, ss, rfl, hS, hrow3.kept (grownBy_putObj_a _ _ _) (ownsRow_ne_a hrow3 hK3 (fun cur e => by first | cases e | exact hne (Obj.cells.inj e).2.1)), hnil, hb3.grown (grownBy_putObj_a _ _ _) hb3.size (fun k e => by cases e; omega)⟩
theorem Ku.collect_in (F : Fence) (n : Nat) (h8 : F.fn (40)) (h11 : F.fn (52)) (hro : F.round = none) (hn : 3 ≤ n) (g : Nat) (lb : Array Value) (hFg : F.fn g) (eg : ∀ args w, (callFunc g args).run Tryz.prog w = .ok (.enter g args) w)
    (S : List Int → Prop) (N : Nat) (hN : N ≤ maxLen) (hNb : N * 8 ≤ 140737488355328) (w : World) (hseq : SeqGives F (n - 1 - 1) Tryz.prog g lb AJ S N w) :
    CallsIn F n Tryz.prog (40) #[.func (.func g) #[] lb] w fun e w' => ∃ (v : Value) (ss : List Int), e = .returned v ∧ S ss ∧ w'.ownsRow w.heap.size (33) 1 v ss.length (ss.map AJ) ∧ (v = .slice none 0 0 ↔ ss = []) ∧ Below w.heap.size w w' := by
  have h1 : 1 ≤ n := by omega
  have e11 : ∀ args w, (callFunc (52) args).run Tryz.prog w = .ok (.enter (52) args) w := fun args w => by kernel_rfl
  have mixed := JS; have t0 := KW; have a0 := WC; have z0 := WE; have v0 := WD; have t24 := IP; have a24 := XU; have z24 := XX; have v24 := XW; have t26 := EE; have a26 := PC; have z26 := PG; have v26 := PD; have t28 := JJ; have a28 := SG; have z28 := SJ; have v28 := SI
  have u0 := run_underlying KW; have u24 := run_underlying IP; have u26 := run_underlying EE; have u28 := run_underlying JJ
  have FG := Tryz.func40
  refine callsIn_of_wp FG rfl h8 ?_ hro
  simp only [Tryz.ntmps40, List.size_toArray, List.length_cons, List.length_nil, Nat.reduceAdd, Nat.reduceSub, Array.replicate_succ, Array.replicate_zero, List.push_toArray, List.append_toArray, List.nil_append, List.cons_append]
  gi_wp2_with (gi_at_fn (52); refine (Ku.appendSeq_in F (n - 1) h11 hro (by omega) g lb hFg eg S N hN hNb _ hseq).mono ?_; rintro e w' ⟨v, ss, rfl, hS, hrow, hnil, hb⟩)
  go_ret
  exact ⟨v, ss, rfl, hS, hrow, hnil, hb⟩
def Ku.SortsIn (F : Fence) (m : Nat) : Prop :=
  (∀ (blk off cap : Nat) (ss : List Int) (W : World), Holds AJ W blk off ss.toArray → blk < W.heap.size → ss.length < 4611686018427387904 →
    CallsIn F m Tryz.prog (41) #[.slice (some ⟨blk, off, none⟩) ss.length cap] W fun e w' => e = .returned (.tuple #[]) ∧ ∃ k os, w' = grow (putRow AJ (Sort.ahead W k) blk off (ss.mergeSort fun x y => decide (x ≤ y)).toArray) os) ∧
  (∀ (p : Option Addr) (cap : Nat) (W : World), CallsIn F m Tryz.prog (41) #[.slice p 0 cap] W fun e w' => e = .returned (.tuple #[]) ∧ w' = W)
theorem Ku.sorted_in (F : Fence) (n : Nat) (h6 : F.fn (24)) (h8 : F.fn (40)) (h9 : F.fn (41)) (h11 : F.fn (52)) (hro : F.round = none) (hn : 4 ≤ n) (hsort : Ku.SortsIn F (n - 1)) (e9 : ∀ args w, (callFunc (41) args).run Tryz.prog w = .ok (.enter (41) args) w) (g : Nat) (lb : Array Value) (hFg : F.fn g) (eg : ∀ args w, (callFunc g args).run Tryz.prog w = .ok (.enter g args) w)
    (S : List Int → Prop) (N : Nat) (hN : N ≤ maxLen) (hNb : N * 8 ≤ 140737488355328) (w : World) (hseq : SeqGives F (n - 1 - 1 - 1) Tryz.prog g lb AJ S N w) :
    CallsIn F n Tryz.prog (24) #[.func (.func g) #[] lb] w fun e w' => ∃ (v : Value) (ss : List Int), e = .returned v ∧ S ss ∧
      w'.ownsRow w.heap.size (33) 1 v ss.length ((ss.mergeSort (fun x y => decide (x ≤ y))).map AJ) ∧ (v = .slice none 0 0 ↔ ss = []) ∧ Below w.heap.size w w' := by
  have h1 : 1 ≤ n := by omega
  have e8 : ∀ args w, (callFunc (40) args).run Tryz.prog w = .ok (.enter (40) args) w := fun args w => by kernel_rfl
  have mixed := JS; have t0 := KW; have a0 := WC; have z0 := WE; have v0 := WD; have t24 := IP; have a24 := XU; have z24 := XX; have v24 := XW; have t26 := EE; have a26 := PC; have z26 := PG; have v26 := PD; have t28 := JJ; have a28 := SG; have z28 := SJ; have v28 := SI
  have u0 := run_underlying KW; have u24 := run_underlying IP; have u26 := run_underlying EE; have u28 := run_underlying JJ
  have FG := Tryz.func24
  refine callsIn_of_wp FG rfl h6 ?_ hro
  simp only [Tryz.ntmps24, List.size_toArray, List.length_cons, List.length_nil, Nat.reduceAdd, Nat.reduceSub, Array.replicate_succ, Array.replicate_zero, List.push_toArray, List.append_toArray, List.nil_append, List.cons_append]
  gi_wp2_with (gi_at_fn (40); refine (Ku.collect_in F (n - 1) h8 h11 hro (by omega) g lb hFg eg _ N hN hNb _ hseq.bounded).mono ?_; rintro e W ⟨v, ss, rfl, ⟨hS, hlen⟩, hrow, hnil, hb⟩)
  rcases hrow.2 with ⟨rfl, hz⟩ | ⟨gb, cap, cur, rfl, hbase, hgb, r1, r2, r3, r4⟩
  · -- nothing came: the nil slice is sorted and handed back
    have hss : ss = [] := List.eq_nil_of_length_eq_zero hz
    subst hss
    gi_wp2_with (gi_at_fn (41); refine (hsort.2 none 0 W).mono ?_; rintro e w' ⟨rfl, rfl⟩)
    go_ret
    exact ⟨.slice none 0 0, [], rfl, hS, by simpa using hrow, by simp, hb⟩
  · have hH : Holds AJ W gb 0 ss.toArray := NR hgb (by simpa using r4)
    have hgl : gb < W.heap.size := (Array.getElem?_eq_some_iff.1 hgb).1
    have hsz : ss.length < 4611686018427387904 := by omega
    have cS := hsort.1 gb 0 cap ss W hH hgl hsz
    gi_wp2_with (gi_at_fn (41); refine cS.mono ?_; rintro e w' ⟨rfl, nn, os, rfl⟩)
    go_ret
    exact ⟨_, ss, rfl, hS, NY (by simp) hbase hgb r1 r2 r3, hnil, hb.grown (NQ _) hb.size (fun j hj => by cases hj; exact hbase)⟩
end Go.Proofs.YtkgikodiecmakaaGreatDoor
namespace Go.Proofs.YtkgikodiecmakaaGreatDoor
section
variable {P : Program} {ops : Array Oper} {md : Region.Mode} {w : World}
def seqL (md:Region.Mode) (ops:Array Oper):List Nat→Array Bool→Bool
 |[],listed=>(Region.ready md ops listed).isEmpty
 |t::r,listed=>decide (Region.ready md ops listed=[t])&&seqL md ops r (listed.setIfInBounds t true)
def pick (ops:Array Oper) (is:List Nat):List Oper:=is.filterMap fun i=>ops[i]?
def closedL (md:Region.Mode) (ops:Array Oper) (listed:Array Bool):Bool:=
 (List.range ops.size).all fun j=>!listed.getD j false||match ops[j]? with
  |some oj=>oj.after.all fun e=>!Region.binds md e||listed.getD e.on false
  |none=>true
end
end Go.Proofs.YtkgikodiecmakaaGreatDoor
namespace Go.Proofs.YtkgikodiecmakaaGreatDoor
section
variable {P : Program} {ops : Array Oper} {md : Region.Mode} {Q : Exit → Act → World → Prop} {I : World → Prop} {es : List Nat}
def noE (es:List Nat) (listed:Array Bool):Prop:=∀e∈es,listed.getD e true=false
def AY (P:Program) (md:Region.Mode) (ops:Array Oper) (Q:Exit→Act→World→Prop) (I:World→Prop) (es:List Nat):Nat→Array Bool→Act→World→Prop
 |0,listed,a,w=>(noE es listed→I w)∧Region.ready md ops listed=[]∧Q .normal a w
 |f+1,listed,a,w=>(noE es listed→I w)∧(Region.ready md ops listed=[]→Q .normal a w)∧∀i∈Region.ready md ops listed,wpOp P ops Q i (AY P md ops Q I es f (listed.setIfInBounds i true)) a w
theorem AY.inv {f:Nat} {listed:Array Bool} {a:Act} {w:World} (h:AY P md ops Q I es f listed a w):noE es listed→I w:=by cases f<;>exact h.1
theorem UK: ∀(f:Nat) (listed:Array Bool) (a:Act) (w:World),AY P md ops Q I es f listed a w→wpAny P md ops Q f listed a w
 |0,_,_,_,h=>h.2
 |f+1,_,_,_,h=>⟨h.2.1,fun i hi=>wpOp_mono (fun a' w' h'=>UK f _ a' w' h') (h.2.2 i hi)⟩
theorem dI (Y:Act→Prop) {j:Nat} {oi oj:Oper} {v:Value} (hj:ops[j]? = some oj) (hap:oi.apart ops oj=true) (hsj: ∀cs b,oj.op≠.select cs b)
  (keep: ∀a,Y a→∀u,Y (a.put oj.dst u)) (keepD: ∀a,Y a→∀d,Y { a with defers:=d::a.defers })
  (hQ: ∀c a w,Q (.panic c) (a.put oi.dst v) w→Q (.panic c) a w) {K:Act→World→Prop} {a:Act} {w:World}
  (hy:Y a) (h:wpOp P ops Q j K (a.put oi.dst v) w):wpOp P ops Q j (fun a' w'=>Y a'∧K (a'.put oi.dst v) w') a w:=by
 obtain⟨h1,h2,_⟩:=Oper.apart_spec hap;unfold wpOp at *;simp only[hj] at *;rw[wanted_put oj a oi.dst v h1] at h;by_cases hw:Region.wanted oj (yielded ops a.tmps)=true
 ·simp only[hw,if_true] at h⊢;rcases h with h|⟨hasks,hlets⟩
  ·refine .inl ?_;unfold Oper.wp at *;rw[execOp_put oj hsj a oi.dst v h1] at h;generalize (execOp a.eval oj).run P w=r at *;cases r with
   |ok n w'=>
    cases n<;>simp only[Oper.upon] at h⊢
    case value u=>exact⟨keep a hy u,by rw[←Act.put_comm a v u h2];exact h⟩
    case skip=>exact⟨keep a hy _,by rw[←Act.put_comm a v undef h2];exact h⟩
    case defer d=>exact⟨keep _ (keepD a hy d) _,by rw[←Act.put_comm _ v undef h2,←Act.put_defers];exact h⟩
    case row row args=>exact Rows.mono h fun u w'' he=>⟨keep a hy u,by rw[←Act.put_comm a v u h2];exact he⟩
    case enter f args=>
     refine Calls.mono h fun e w'' he=>?_;cases e with
     |returned u=>exact⟨keep a hy u,by rw[←Act.put_comm a v u h2];exact he⟩
     |panicked c=>exact hQ _ _ _ he
     |outgrown=>exact he
   |halt x w'=>
    cases x<;>simp only[Oper.upon] at h⊢
    case panic u=>exact hQ _ _ _ h
  ·exact .inr ⟨by unfold Oper.asks at *;rw[execOp_put oj hsj a oi.dst v h1] at hasks;exact hasks,hlets⟩
 ·simp only[hw] at h⊢;exact⟨keep a hy _,by rw[←Act.put_comm a v undef h2];exact h⟩
def JK (md:Region.Mode) (ops:Array Oper):Nat→Nat→Nat→Bool
 |0,_,_=>false
 |f+1,j,i=>match ops[j]? with
  |some oj=>oj.after.any fun e=>Region.binds md e&&(e.on==i||JK md ops f e.on i)
  |none=>false
def EW (md:Region.Mode) (ops:Array Oper) (listed:Array Bool):Prop:=
 listed.size=ops.size∧∀j oj,ops[j]? = some oj→listed.getD j false=true→∀e∈oj.after,Region.binds md e=true→listed.getD e.on false=true
theorem EW.set {i:Nat} {listed:Array Bool} (inv:EW md ops listed) (hi:i∈Region.ready md ops listed):EW md ops (listed.setIfInBounds i true):=by
 obtain⟨_,oi,hoi,hall⟩:=mem_ready.1 hi;refine⟨by simp[inv.1],fun j oj hj hl e he hb=>?_⟩;by_cases hij:i=j
 ·subst hij;obtain rfl:oj=oi:=Option.some.inj (hj.symm.trans hoi);exact getD_set_true (hall e he hb)
 ·rw[getD_set_ne false hij] at hl;exact getD_set_true (inv.2 j oj hj hl e he hb)
theorem LZ {listed:Array Bool} (inv:EW md ops listed): ∀(f j i:Nat),JK md ops f j i=true→listed.getD j false=true→listed.getD i false=true
 |0,_,_,h,_=>by simp[JK] at h
 |f+1,j,i,h,hl=>by
  unfold JK at h;split at h
  ·rename_i oj hj;obtain⟨e,he,hb⟩:=Array.any_eq_true'.1 h;simp only[Bool.and_eq_true,Bool.or_eq_true,beq_iff_eq] at hb;have h1:=inv.2 j oj hj hl e he hb.1;rcases hb.2 with h2|h2;·rw[←h2];exact h1
   ·exact LZ inv f e.on i h2 h1
  ·cases h
theorem OB {listed:Array Bool} (inv:EW md ops listed) {f j i:Nat} (h:JK md ops f j i=true) (hr:j∈Region.ready md ops listed):listed.getD i false=true:=by
 obtain⟨_,oj,hoj,hall⟩:=mem_ready.1 hr;cases f with
 |zero=>simp[JK] at h
 |succ f=>
  simp only[JK,hoj] at h;obtain⟨e,he,hb⟩:=Array.any_eq_true'.1 h;simp only[Bool.and_eq_true,Bool.or_eq_true,beq_iff_eq] at hb;have h1:=hall e he hb.1;rcases hb.2 with h2|h2;·rw[←h2];exact h1
  ·exact LZ inv f e.on i h2 h1
theorem VG {w:World} {oi oj:Oper} {v:Value} {a:Act} (hap:oi.apart ops oj=true) (hsi: ∀cs b,oi.op≠.select cs b) (hy:YieldsAt P ops w oi v a) (u:Value):YieldsAt P ops w oi v (a.put oj.dst u):=by
 obtain⟨_,_,h3⟩:=Oper.apart_spec hap;exact hy.of_same (execOp_put oi hsi a oj.dst u h3) (wanted_put oi a oj.dst u h3)
theorem takeE {i:Nat} {oi:Oper} {v:Value} (hi:ops[i]? = some oi) (hsel: ∀(j:Nat) (o:Oper) cs b,ops[j]? = some o→o.op≠.select cs b)
  (hQ: ∀c a w,Q (.panic c) (a.put oi.dst v) w→Q (.panic c) a w) (F:Nat) (hb: ∀e∈es,JK md ops F e i=true) :
  ∀(f:Nat) (listed:Array Bool) (a:Act) (w:World),EW md ops listed→noE es listed→I w→
   (∀j oj,ops[j]? = some oj→j≠i→listed.getD j true=false→(∀e∈oj.after,Region.binds md e=true→e.on≠i)→oi.apart ops oj=true)→
   i∈Region.ready md ops listed→(∀w',I w'→YieldsAt P ops w' oi v a)→
   AY P md ops Q I es f (listed.setIfInBounds i true) (a.put oi.dst v) w→AY P md ops Q I es (f+1) listed a w:=by
 intro f;induction f with
 |zero=>
  intro listed a w inv hn hI _ hr hy H;refine⟨fun _=>hI,fun h=>(by rw[h] at hr;cases hr),fun j hj=>?_⟩;by_cases hji:j=i
  ·subst hji;exact wpOp_of_stOp (K:=fun a'=>AY P md ops Q I es 0 (listed.setIfInBounds j true) a' w) (fun _ h=>h) ((hy w hI).stOp hi H)
  ·have:=ready_mono hj hji;rw[H.2.1] at this;cases this
 |succ f ih=>
  intro listed a w inv hn hI hfree hr hy H;have hun:=(mem_ready.1 hr).1;refine⟨fun _=>hI,fun h=>(by rw[h] at hr;cases hr),fun j hj=>?_⟩;by_cases hji:j=i
  ·subst hji;exact wpOp_of_stOp (K:=fun a'=>AY P md ops Q I es (f+1) (listed.setIfInBounds j true) a' w) (fun _ h=>h) ((hy w hI).stOp hi H)
  ·have h1:=H.2.2 j (ready_mono hj hji);obtain⟨hjun,oj,hoj,hall⟩:=mem_ready.1 hj;have hjE:j∉es:=fun he=>by
    have:=OB inv (hb j he) hj;rw[getD_both hun] at this;cases this
   have hnot: ∀e∈oj.after,Region.binds md e=true→e.on≠i:=fun e he hbb heq=>by
    have h1:=hall e he hbb;rw[heq,getD_both hun] at h1;cases h1
   have hap:=hfree j oj hoj hji hjun hnot;have h2:=dI (Y:=fun a'=>∀w',I w'→YieldsAt P ops w' oi v a') hoj hap (fun cs b=>hsel j oj cs b hoj) (fun a' h u w' hw'=>VG hap (fun cs b=>hsel i oi cs b hi) (h w' hw') u)
    (fun a' h d w' hw'=>(h w' hw').of_same rfl rfl) hQ hy h1
   refine wpOp_mono (fun a' w' h3=>?_) h2;have hn2:noE es (listed.setIfInBounds j true):=fun e he=>by
    have:j≠e:=fun h=>hjE (h ▸ he);rw[getD_set_ne true this];exact hn e he
   have hI':I w':=h3.2.inv (fun e he=>by
    have h4:j≠e:=fun h=>hjE (h ▸ he);have h5:i≠e:=fun h=>by
     subst h;have:=hb i he;exact absurd (OB inv this hr) (by rw[getD_both hun];simp)
    rw[getD_set_ne true h4,getD_set_ne true h5];exact hn e he)
   refine ih (listed.setIfInBounds j true) a' w' (inv.set hj) hn2 hI' (fun k ok hk hki hun' hno=>?_) (ready_mono hr (Ne.symm hji)) h3.1 ?_
   ·refine hfree k ok hk hki ?_ hno;by_cases hjk:j=k
    ·subst hjk;exact hjun
    ·rw[getD_set_ne true hjk] at hun';exact hun'
   ·rw[Array.setIfInBounds_comm _ _ hji];exact h3.2
def takeB (md:Region.Mode) (ops:Array Oper) (es:List Nat) (listed:Array Bool) (i:Nat):Bool:=
 Region.noSelect ops&&decide (listed.size=ops.size)&&closedL md ops listed&&(es.all fun e=>!listed.getD e true)&&(es.all fun e=>JK md ops ops.size e i)&&(Region.ready md ops listed).contains i&&Region.free md ops listed i
theorem XJ {listed:Array Bool} (hsz:listed.size=ops.size) (hcl:closedL md ops listed=true):EW md ops listed:=by
 refine⟨hsz,fun j oj hj hl e he hb=>?_⟩;have hjl:j<ops.size:=(Array.getElem?_eq_some_iff.1 hj).1;have h1:=List.all_eq_true.1 hcl j (List.mem_range.2 hjl);simp only[hl,hj,Bool.not_true,Bool.false_or,Array.all_eq_true_iff_forall_mem,Bool.or_eq_true,Bool.not_eq_true'] at h1;rcases h1 e he with h2|h2;·rw[hb] at h2;cases h2
 ·exact h2
theorem AA {f:Nat} {listed:Array Bool} {a:Act} {w:World} (i:Nat) {oi:Oper} {v:Value} (hi:ops[i]? = some oi) (hB:takeB md ops es listed i=true) (hQ: ∀c a w,Q (.panic c) (a.put oi.dst v) w→Q (.panic c) a w) (hI:I w)
  (hy: ∀w',I w'→YieldsAt P ops w' oi v a) (h:AY P md ops Q I es f (listed.setIfInBounds i true) (a.put oi.dst v) w):AY P md ops Q I es (f+1) listed a w:=by
 simp only[takeB,Bool.and_eq_true,decide_eq_true_eq] at hB;obtain⟨⟨⟨⟨⟨⟨hsel,hsz⟩,hcl⟩,hn⟩,hb⟩,hr⟩,hf⟩:=hB;exact takeE hi (Region.noSelect_spec hsel) hQ ops.size (fun e he=>List.all_eq_true.1 hb e he) f listed a w (XJ hsz hcl) (fun e he=>by simpa using List.all_eq_true.1 hn e he) hI (Region.free_spec hi hf) (by simpa using hr) hy h
def JG (P:Program) (ops:Array Oper) (Q:Exit→Act→World→Prop) (I:World→Prop):Nat→List Oper→Act→World→Prop
 |0,l,a,w=>wpList P ops Q l a w
 |_+1,[],a,w=>Q .normal a w
 |n+1,o::r,a,w=>if Region.wanted o (yielded ops a.tmps) then o.wp P a w (fun a' w'=>I w'∧JG P ops Q I n r a' w') Q else I w∧JG P ops Q I n r (a.put o.dst undef) w
theorem ZN {l:List Oper} {a:Act} {w:World} (h:wpList P ops Q l a w):JG P ops Q I 0 l a w:=h
theorem QN: ∀(ts:List Nat) (listed:Array Bool) (a:Act) (w:World),listed.size=ops.size→(noE es listed→I w)→(∀t∈ts,t∈es)→seqL md ops ts listed=true→wpList P ops Q (pick ops ts) a w→AY P md ops Q I es ts.length listed a w
 |[],listed,a,w,_,hI,_,hB,h=>⟨hI,by simpa[seqL] using hB,h⟩
 |t::r,listed,a,w,hsz,hI,hE,hB,h=>by
  simp only[seqL,Bool.and_eq_true,decide_eq_true_eq] at hB;refine⟨hI,fun h1=>(by rw[hB.1] at h1;cases h1),fun i hi=>?_⟩;rw[hB.1] at hi;obtain rfl:i=t:=by simpa using hi
  have hr:i∈Region.ready md ops listed:=by rw[hB.1];simp
  obtain⟨_,o,ho,_⟩:=mem_ready.1 hr;have hil:i<ops.size:=(Array.getElem?_eq_some_iff.1 ho).1;have hp:pick ops (i::r)=o::pick ops r:=by simp[pick,ho]
  rw[hp] at h;have hw:wpOp P ops Q i (wpList P ops Q (pick ops r)) a w:=by unfold wpOp;simp only[ho];exact h
  refine wpOp_mono (fun a' w' h'=>QN r _ a' w' (by simp[hsz]) (fun hn=>?_) (fun t ht=>hE t (List.mem_cons_of_mem _ ht)) hB.2 h') hw;have:=hn i (hE i List.mem_cons_self);simp[hsz,hil] at this
theorem UJ (rest:List Nat) (hE: ∀t∈rest,t∈es): ∀(pre:List Nat) (listed:Array Bool) (a:Act) (w:World),listed.size=ops.size→I w→seqL md ops (pre++rest) listed=true→JG P ops Q I pre.length (pick ops (pre++rest)) a w→
  AY P md ops Q I es (pre.length+rest.length) listed a w
 |[],listed,a,w,hsz,hI,hB,h=>by
  have:=QN rest listed a w hsz (fun _=>hI) hE hB h;simpa using this
 |t::r,listed,a,w,hsz,hI,hB,h=>by
  simp only[List.cons_append,seqL,Bool.and_eq_true,decide_eq_true_eq] at hB;rw[show(t::r).length+rest.length=(r.length+rest.length)+1 by simp;omega];refine⟨fun _=>hI,fun h1=>(by rw[hB.1] at h1;cases h1),fun i hi=>?_⟩;rw[hB.1] at hi;obtain rfl:i=t:=by simpa using hi
  have hr:i∈Region.ready md ops listed:=by rw[hB.1];simp
  obtain⟨_,o,ho,_⟩:=mem_ready.1 hr;have hp:pick ops (i::r++rest)=o::pick ops (r++rest):=by simp[pick,ho]
  rw[hp] at h;have hw:wpOp P ops Q i (fun a' w'=>I w'∧JG P ops Q I r.length (pick ops (r++rest)) a' w') a w:=by
   unfold wpOp;simp only[ho];simp only[List.length_cons,JG] at h;split at h;·rename_i hw;simp only[hw,if_true];exact .inl h
   ·rename_i hw;simp only[hw];exact h
  exact wpOp_mono (fun a' w' h'=>UJ rest hE r _ a' w' (by simp[hsz]) h'.1 hB.2 h'.2) hw
theorem ZL {f:Nat} {listed:Array Bool} {a:Act} {w:World} (pre rest:List Nat) (hf:f=pre.length+rest.length) (hB:(decide (listed.size=ops.size)&&(rest.all fun t=>es.contains t)&&seqL md ops (pre++rest) listed)=true) (hI:I w)
  (h:JG P ops Q I pre.length (pick ops (pre++rest)) a w):AY P md ops Q I es f listed a w:=by
 subst hf;simp only[Bool.and_eq_true,decide_eq_true_eq] at hB;obtain⟨⟨h1,h2⟩,h3⟩:=hB;exact UJ rest (fun t ht=>by simpa using List.all_eq_true.1 h2 t ht) pre listed a w h1 hI h3 h
theorem TE (l:List Oper) (d:Nat): ∀m,d+m≤l.length→pick l.toArray ((List.range m).map (d + ·))=(l.drop d).take m
 |0,_=>by simp[pick]
 |m+1,h=>by
  have hx:l[d+m]? = some (l[d+m]'(by omega)):=List.getElem?_eq_getElem (by omega);have ih:=TE l d m (by omega);unfold pick at ih⊢;rw[List.range_succ,List.map_append,List.filterMap_append,ih,List.take_add_one,List.getElem?_drop,hx];simp[hx]
theorem bZ {l:List Oper} {f:Nat} {listed:Array Bool} {a:Act} {w:World} (d:Nat) (pre rest:List Nat) (hf:f=pre.length+rest.length) (hB:(decide (listed.size=l.toArray.size)&&(rest.all fun t=>es.contains t)&&seqL md l.toArray (pre++rest) listed)=true)
  (hd:pre++rest=(List.range (l.length-d)).map (d + ·)) (hI:I w) (h:JG P l.toArray Q I pre.length (l.drop d) a w):AY P md l.toArray Q I es f listed a w:=by
 refine ZL pre rest hf hB hI ?_;have e:pick l.toArray (pre++rest)=l.drop d:=by
  rw[hd];by_cases hdl:d≤l.length
  ·rw[TE l d _ (by omega),List.take_of_length_le (by simp)]
  ·rw[show l.length-d=0 by omega,List.drop_of_length_le (by omega)];rfl
 rw[e];exact h
theorem BJ {id:Nat} {a:Act} {w:World} (I:World→Prop) (es:List Nat) (hm:P.follows .mixedOrders=true) (h:AY P .any ops Q I es ops.size (Array.replicate ops.size false) a { w with drawn:=w.drawn+1 }):(Code.region id ops true).wp P Q a w:=
 wp_region_any hm (UK _ _ _ _ h)
end
theorem wpAnyE_tk {P:Program} {ops:Array Oper} {md:Region.Mode} {Q:Exit→Act→World→Prop} {I:World→Prop} {es:List Nat} {f:Nat} {listed:Array Bool} {a:Act} {w:World} (i:Nat) {oi:Oper} {v:Value} (hi:ops[i]? = some oi) (hI:I w) (hy: ∀w',I w'→(execOp a.eval oi).run P w' = .ok (.value v) w') (h:AY P md ops Q I es f (listed.setIfInBounds i true) (a.put oi.dst v) w) (hB:takeB md ops es listed i=true:=by kernel_rfl) (hQ: ∀c a w,Q (.panic c) (a.put oi.dst v) w→Q (.panic c) a w:=by exact fun _ _ _ h=>h) (hw:Region.wanted oi (yielded ops a.tmps)=true:=by kernel_rfl):AY P md ops Q I es (f+1) listed a w:=AA i hi hB hQ hI (fun w' hw'=>Or.inl ⟨hw,Or.inl (hy w' hw')⟩) h
theorem wpAnyE_tg {P:Program} {ops:Array Oper} {md:Region.Mode} {Q:Exit→Act→World→Prop} {I:World→Prop} {es:List Nat} {f:Nat} {listed:Array Bool} {a:Act} {w:World} (i:Nat) {oi:Oper} {v:Value} (hi:ops[i]? = some oi) (hI:I w) (h:AY P md ops Q I es f (listed.setIfInBounds i true) (a.put oi.dst v) w) (hB:takeB md ops es listed i=true:=by kernel_rfl) (hQ: ∀c a w,Q (.panic c) (a.put oi.dst v) w→Q (.panic c) a w:=by exact fun _ _ _ h=>h) (hw:Region.wanted oi (yielded ops a.tmps)=true:=by kernel_rfl) (hy: ∀w',I w'→(execOp a.eval oi).run P w' = .ok (.value v) w':=by intro _ _;go_simp):AY P md ops Q I es (f+1) listed a w:=AA i hi hB hQ hI (fun w' hw'=>Or.inl ⟨hw,Or.inl (hy w' hw')⟩) h
end Go.Proofs.YtkgikodiecmakaaGreatDoor
namespace Go.Proofs.YtkgikodiecmakaaGreatDoor
open Go.RowKit
section
variable {P : Program} {ops : Array Oper} {md : Region.Mode} {Q : Exit → Act → World → Prop} {I : World → Prop} {es : List Nat}
theorem AD {f:Nat} {listed:Array Bool} {a:Act} {w:World} (i:Nat) {o:Oper} (ho:ops[i]? = some o) (hB:decide (Region.ready md ops listed=[i])=true) (hI:I w)
  (h: ∀K:Act→World→Prop,(∀a w,AY P md ops Q I es f (listed.setIfInBounds i true) a w→K a w)→if Region.wanted o (yielded ops a.tmps) then o.wp P a w K Q else K (a.put o.dst undef) w):AY P md ops Q I es (f+1) listed a w:=by
 have hB:=of_decide_eq_true hB;refine⟨fun _=>hI,fun h1=>(by rw[hB] at h1;cases h1),fun j hj=>?_⟩;rw[hB] at hj;obtain rfl:j=i:=by simpa using hj
 have h2:=h (fun a' w'=>AY P md ops Q I es f (listed.setIfInBounds j true) a' w') (fun a w h=>h);unfold wpOp;simp only[ho];split at h2;·rename_i hw;simp only[hw,if_true];exact .inl h2
 ·rename_i hw;simp only[hw];exact h2
theorem FV {f:Nat} {listed:Array Bool} {a:Act} {w:World} (i j:Nat) {o p:Oper} (ho:ops[i]? = some o) (hp:ops[j]? = some p) (hB:decide (Region.ready md ops listed=[i,j])=true) (hI:I w)
  (h: ∀K:Act→World→Prop,(∀a w,AY P md ops Q I es f (listed.setIfInBounds i true) a w→K a w)→if Region.wanted o (yielded ops a.tmps) then o.wp P a w K Q else K (a.put o.dst undef) w)
  (g: ∀K:Act→World→Prop,(∀a w,AY P md ops Q I es f (listed.setIfInBounds j true) a w→K a w)→if Region.wanted p (yielded ops a.tmps) then p.wp P a w K Q else K (a.put p.dst undef) w):AY P md ops Q I es (f+1) listed a w:=by
 have hB:=of_decide_eq_true hB;refine⟨fun _=>hI,fun h1=>(by rw[hB] at h1;cases h1),fun q hq=>?_⟩;rw[hB] at hq;rcases List.mem_cons.1 hq with rfl|hq
 ·have h2:=h (fun a' w'=>AY P md ops Q I es f (listed.setIfInBounds q true) a' w') (fun a w h=>h);unfold wpOp;simp only[ho];split at h2;·rename_i hw;simp only[hw,if_true];exact .inl h2
  ·rename_i hw;simp only[hw];exact h2
 ·obtain rfl:q=j:=by simpa using hq
  have h2:=g (fun a' w'=>AY P md ops Q I es f (listed.setIfInBounds q true) a' w') (fun a w h=>h);unfold wpOp;simp only[hp];split at h2;·rename_i hw;simp only[hw,if_true];exact .inl h2
  ·rename_i hw;simp only[hw];exact h2
theorem AX {listed:Array Bool} {a:Act} {w:World} (hB:decide (Region.ready md ops listed=[])=true) (hI:I w) (h:Q .normal a w):AY P md ops Q I es 0 listed a w:=
 ⟨fun _=>hI,of_decide_eq_true hB,h⟩
end
end Go.Proofs.YtkgikodiecmakaaGreatDoor

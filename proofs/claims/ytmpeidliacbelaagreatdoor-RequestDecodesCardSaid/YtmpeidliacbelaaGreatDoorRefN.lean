/- The document's answer for layer 1: a text cut at its commas; no condition but its length. -/
import Derived.Test.YtmpeidliacbelaaGreatDoorOctV
import Derived.Test.YtmpeidliacbelaaGreatDoorAppI
import Derived.Test.YtmpeidliacbelaaGreatDoorRefB
import Derived.Laws.Concat
namespace Go.Proofs.YtmpeidliacbelaaGreatDoor
set_option linter.all false
open Go.RowKit

theorem cutL_snoc (x : List UInt8) (c : UInt8) : cutL (x ++ [c]) = if c = 44 then cutL x ++ [[]] else (cutL x).dropLast ++ [((cutL x).getLast?.getD []) ++ [c]] := by
  induction x with
  | nil =>
    show cutL [c] = _
    unfold cutL
    split <;> simp [cutL]
  | cons d x ih =>
    obtain ⟨h, t, e⟩ := cutL_ne x
    rw [e] at ih
    rw [List.cons_append]
    conv => lhs; unfold cutL
    conv => rhs; unfold cutL
    rw [ih, e]
    by_cases hd : d = 44
    · simp only [hd, if_true]
      split
      · rfl
      · simp
    · simp only [hd, if_false]
      by_cases hc : c = 44
      · simp [hc]
      · simp only [hc, if_false]
        cases t with
        | nil => simp
        | cons t0 ts => simp [List.dropLast]
theorem cutL_len (s : List UInt8) : ∀ y ∈ cutL s, y.length ≤ s.length := by
  induction s with
  | nil => intro y hy; simp [cutL] at hy; subst hy; simp
  | cons c s ih =>
    obtain ⟨h, t, e⟩ := cutL_ne s
    rw [e] at ih
    intro y hy
    unfold cutL at hy
    rw [e] at hy
    split at hy
    · rcases List.mem_cons.1 hy with rfl | hy
      · simp
      · have := ih y hy; simp; omega
    · rcases List.mem_cons.1 hy with rfl | hy
      · have := ih h (by simp); simp; omega
      · have := ih y (by simp at hy ⊢; exact .inr hy); simp; omega
theorem cutL_count (s : List UInt8) : (cutL s).length ≤ s.length + 1 := by
  induction s with
  | nil => simp [cutL]
  | cons c s ih =>
    obtain ⟨h, t, e⟩ := cutL_ne s
    unfold cutL
    rw [e] at ih ⊢
    split <;> simp at ih ⊢ <;> omega
/-- The bytes of numbers. -/
def bsOf (l : List Int) : List UInt8 := (strOfNums l).data.toList
theorem bsOf_snoc (l : List Int) (x : Int) : bsOf (l ++ [x]) = bsOf l ++ [UInt8.ofNat x.toNat] := by
  unfold bsOf
  rw [strOfNums_data, strOfNums_data, List.map_append]
  rfl
theorem bsOf_len (l : List Int) : (bsOf l).length = l.length := by
  unfold bsOf
  rw [strOfNums_data, List.length_map]
/-- What split answers. -/
def splitR (l : List Int) : Int × List ByteArray := if l = [] then (0, []) else if namesBad (pieces (strOfNums l)) = 0 then (0, pieces (strOfNums l)) else (namesBad (pieces (strOfNums l)), [])
def SplitPost (w : World) (r : Int × List ByteArray) : Ending → World → Prop := fun e w' => Only [] w w' ∧ ∃ v, e = .returned (.tuple #[v, .int .i64 r.1]) ∧ OwnS w' w.heap.size v r.2
theorem OwnS.wrote {w : World} {base g n cap : Nat} {l : List ByteArray} (h : OwnS w base (.slice (some ⟨g, 0, none⟩) n cap) l) (i : Nat) (hi : i < l.length) (x : ByteArray) : OwnS (w.setCell ⟨g, i, none⟩ (.string x)) base (.slice (some ⟨g, 0, none⟩) n cap) (l.set i x) := by
  rcases h.2 with ⟨h', _⟩ | ⟨g', cap', cur, h', hb, hg, hn, hc, hs, ht⟩
  · simp at h'
  · simp only [Value.slice.injEq, Option.some.injEq, Addr.mk.injEq, and_true, true_and] at h'
    obtain ⟨rfl, rfl, rfl⟩ := h'
    refine ⟨by simp [strs'], .inr ⟨g, cap, cur.set! i (.string x), by simp, hb, ?_, by simpa using hn, hc, by simpa using hs, ?_⟩⟩
    · simp [World.setCell, Array.getElem?_modify, hg]
    · simp at ht hs ⊢
      rw [List.take_set, ht]
      simp [strs', List.map_set]
theorem OwnS.frozenAt {w : World} {base g n cap : Nat} {l : List ByteArray} (h : OwnS w base (.slice (some ⟨g, 0, none⟩) n cap) l) (j : Nat) : w.frozen? ⟨g, j, none⟩ = false := by
  rcases h.2 with ⟨h', _⟩ | ⟨g', cap', cur, h', hb, hg, _⟩
  · simp at h'
  · simp only [Value.slice.injEq, Option.some.injEq, Addr.mk.injEq, and_true, true_and] at h'
    obtain ⟨rfl, rfl, rfl⟩ := h'
    simp [World.frozen?, hg]
theorem OwnS.form {w : World} {base : Nat} {v : Value} {l : List ByteArray} (h : OwnS w base v l) (h0 : 0 < l.length) : ∃ g cap, v = .slice (some ⟨g, 0, none⟩) l.length cap ∧ base ≤ g ∧ g < w.heap.size ∧ ∀ j s, l[j]? = some s → w.cell? ⟨g, j, none⟩ = some (.string s) := by
  rcases h.2 with ⟨e, hn⟩ | ⟨g, cap, cur, e, hg, hh, _⟩
  · omega
  · refine ⟨g, cap, e, hg, (Array.getElem?_eq_some_iff.1 hh).1, fun j s hj => ?_⟩
    subst e
    have := World.ownsRow.cells h (g := g) rfl j (.string s) (by simp [strs', hj])
    simpa [Addr.add_lit] using this
theorem ownS_one (w : World) (s : ByteArray) : OwnS (w.alloc (.cells #[.string s] 9)) w.heap.size (.slice (some ⟨w.heap.size, 0, none⟩) 1 1) [s] := by
  refine ⟨by simp [strs'], .inr ⟨w.heap.size, 1, #[.string s], rfl, Nat.le_refl _, heap_alloc_new w (.cells #[.string s] 9), by simp, by simp [maxLen], by simp, by simp [strs']⟩⟩
theorem set_last {α : Type} (l : List α) (x : α) (h : 0 < l.length) : l.set (l.length - 1) x = l.dropLast ++ [x] := by
  rcases List.eq_nil_or_concat l with rfl | ⟨b, a, rfl⟩
  · simp at h
  · simp
theorem conv_one (w : World) (x : Int) : (convert 22 9 (.slice (some ⟨w.heap.size, 0, none⟩) 1 1)).run Tryz.prog (w.alloc (.cells #[.int .u8 x] 5)).drew = .ok (.string (strOfNums [x])) (w.alloc (.cells #[.int .u8 x] 5)).drew :=
  run_convert_bytes_arg (P := Tryz.prog) (w := (w.alloc (.cells #[.int .u8 x] 5)).drew) 22 5 (by kernel_rfl) (by kernel_rfl) w.heap.size 0 1 1 [x] rfl (fun i hi => by
    obtain rfl : i = 0 := by omega
    have : (w.alloc (.cells #[.int .u8 x] 5)).cell? ⟨w.heap.size, 0, none⟩ = some (.int .u8 x) := by rw [World.cell?_alloc_mark]; rfl
    exact this) 9 (by kernel_rfl)
theorem map_ext {os ps : List ByteArray} (h : os.map (·.data.toList) = ps.map (·.data.toList)) : os = ps := (List.map_inj_right (fun x y hxy => bytes_ext hxy)).1 h

set_option maxRecDepth 100000 in
set_option maxHeartbeats 6400000 in
theorem refSplit_any (A : Option Addr) (l : List Int) (c : Nat) (w : World) (h : Rd w A l) (hl : ∀ x ∈ l, 0 ≤ x ∧ x < 256) (hlen : l.length ≤ 32768) :
    Calls Tryz.prog 81 #[.slice A l.length c] w (SplitPost w (splitR l)) := by
  by_cases hnil : l = []
  · subst hnil
    rw [show splitR [] = (0, []) from if_pos rfl]
    go_enter Tryz.func81, Tryz.ntmps81
    go_wp2_with fail
    go_ret2
    exact ⟨Only.refl _ _, _, rfl, ownS_nil _ _⟩
  have h0 : 0 < l.length := Nat.pos_of_ne_zero (fun e => hnil (List.eq_nil_of_length_eq_zero e))
  obtain ⟨R, hR⟩ : ∃ R, splitR l = R := ⟨_, rfl⟩
  rw [hR]
  have hR2 : R = if namesBad (pieces (strOfNums l)) = 0 then (0, pieces (strOfNums l)) else (namesBad (pieces (strOfNums l)), []) := by
    rw [← hR]
    exact if_neg hnil
  obtain ⟨n, hn⟩ : ∃ n, n = l.length := ⟨_, rfl⟩
  rw [← hn] at hlen h0 ⊢
  have hn0 : ((n : Int) == 0) = false := by simp; omega
  replace hn := hide hn
  replace hR2 := hide hR2
  clear hnil hR
  go_enter Tryz.func81, Tryz.ntmps81
  go_wp2_with fail
  go_loopw [15, 4] (fun i o wr => ∃ (k : Nat) (v : Value) (os : List ByteArray), k ≤ n ∧ i = .int .i64 k ∧ v = o ∧ Hid (os.map (·.data.toList) = cutL (bsOf (l.take k))) ∧ OwnS wr w.heap.size v os ∧ Only [] w wr) (fun i _ _ => n - (intOf i).toNat)
  case atStart => exact ⟨0, _, [⟨#[]⟩], by omega, rfl, rfl, hide rfl, ownS_one w _, (Only.refl _ _).alloc _⟩
  case round =>
    obtain ⟨wo, rfl⟩ : ∃ wo : World, wo = wr := ⟨_, rfl⟩
    obtain ⟨k, v, os, hkn, rfl, rfl, hos, V, O⟩ := hrel
    have hob := V.block
    have z0 := O.size
    have hcount : os.length ≤ k + 1 := by
      have h1 := congrArg List.length hos.out
      rw [List.length_map] at h1
      have h2 := cutL_count (bsOf (l.take k))
      rw [bsOf_len, List.length_take] at h2
      omega
    have hpos : 0 < os.length := by
      obtain ⟨a, b, e⟩ := cutL_ne (bsOf (l.take k))
      have h1 := congrArg List.length hos.out
      rw [List.length_map, e] at h1
      simp at h1
      omega
    by_cases hlt : k < n
    · obtain ⟨b, off, x, rfl, hb, hx, cx⟩ := RdG.at (mk := .int .u8) (h.only O) k (by have := hn.out; omega)
      have hxr := hl x (List.mem_of_getElem? hx)
      have htk : bsOf (l.take (k + 1)) = bsOf (l.take k) ++ [UInt8.ofNat x.toNat] := by
        rw [take_snocG hx, bsOf_snoc]
      have hsn := cutL_snoc (bsOf (l.take k)) (UInt8.ofNat x.toNat)
      rw [← htk, ← hos.out] at hsn
      obtain ⟨g, cap, rfl, hg1, hg2, hgc⟩ := V.form hpos
      by_cases h44 : x = 44
      · subst h44
        rw [if_pos (by decide)] at hsn
        have V5 : OwnS (wo.alloc (.cells #[.string ⟨#[]⟩] 9)) w.heap.size (.slice (some ⟨g, 0, none⟩) os.length cap) os := V.far ((Only.refl [] wo).alloc _) (fun x hx => by simp at hx)
        have R5 : RdS (wo.alloc (.cells #[.string ⟨#[]⟩] 9)) (some ⟨wo.heap.size, 0, none⟩) [⟨#[]⟩] := rdS_new wo _ [⟨#[]⟩] _ rfl
        have hnew : (os ++ [(⟨#[]⟩ : ByteArray)]).map (fun z : ByteArray => z.data.toList) = cutL (bsOf (l.take (k + 1))) := by rw [hsn, List.map_append]; rfl
        obtain ⟨no, hno⟩ : ∃ no, os.length = no := ⟨_, rfl⟩
        rw [hno] at V5 hcount ⊢
        replace hno := hide hno
        replace hnew := hide hnew
        replace hx := hide hx
        replace htk := hide htk
        clear hsn hgc hos
        go_wp2_with (at_builtin; go_must (refine wpList_appS rfl (.tmp 21) (.tmp 22) rfl w.heap.size (.slice (some ⟨g, 0, none⟩) no cap) os rfl V5 (some ⟨wo.heap.size, 0, none⟩) 1 [⟨#[]⟩] _ rfl rfl R5 (by have := hno.out; simp; omega) (by simp; omega) ?_; intro v9 w9 V9 P9))
        go_roundw
        case rel => exact ⟨k + 1, _, os ++ [⟨#[]⟩], by omega, by go_num, rfl, hnew, V9.out, (O.alloc _).trans P9 (fun x hx => .inr (by simp [Value.ownBlock] at hx; rw [hx]; exact hg1))⟩
        case measure => simp [intOf]; omega
      · rw [if_neg (fun e => h44 (by
          have := congrArg UInt8.toNat e
          rw [UInt8.toNat_ofNat'] at this
          have e2 : x.toNat % 2 ^ 8 = 44 := this
          omega))] at hsn
        obtain ⟨s, hs⟩ : ∃ s, os[os.length - 1]? = some s := ⟨_, List.getElem?_eq_getElem (by omega)⟩
        have cs := hgc _ s hs
        have hlast : ((os.map (·.data.toList)).getLast?.getD []) = s.data.toList := by
          rw [List.getLast?_map, List.getLast?_eq_getElem?, hs]
          rfl
        rw [hlast] at hsn
        have hss : s.size ≤ 32768 := by
          have h1 : s.data.toList ∈ os.map (·.data.toList) := List.mem_map_of_mem (List.mem_of_getElem? hs)
          rw [hos.out] at h1
          have h2 := cutL_len _ _ h1
          rw [bsOf_len, List.length_take] at h2
          have h3 : s.size = s.data.toList.length := by simp
          omega
        have fz := OwnS.frozenAt V (os.length - 1)
        have hset := set_last os (s ++ strOfNums [x]) hpos
        have hnew : (os.set (os.length - 1) (s ++ strOfNums [x])).map (·.data.toList) = cutL (bsOf (l.take (k + 1))) := by
          rw [hset, List.map_append, hsn, List.map_dropLast]
          simp only [List.map_cons, List.map_nil]
          rw [Go.Joins.data_append]
          rfl
        have W := fun y => OwnS.wrote V (os.length - 1) (by omega) y
        obtain ⟨no, hno⟩ : ∃ no, os.length = no + 1 := ⟨os.length - 1, by omega⟩
        rw [hno, Nat.add_sub_cancel] at cs fz hnew W
        rw [hno] at hcount ⊢
        have x44 : (x == 44) = false := beq_eq_false_iff_ne.2 h44
        replace hno := hide hno
        replace hnew := hide hnew
        replace hx := hide hx
        replace htk := hide htk
        replace hs := hide hs
        replace W := hide W
        have hcv := conv_one wo x
        have hadd : ∀ W : World, (Op.stringOp .add s (strOfNums [x])).run Tryz.prog W = .ok (.string (s ++ strOfNums [x])) W := fun W => run_string_add_sum (P := Tryz.prog) (w := W) _ _ (by rw [show (strOfNums [x]).size = 1 by rfl]; omega)
        have hwr : IntKind.i64.wrap (no : Int) = (no : Int) := IntWalk.i64_in _ (by omega)
        have hgne : ¬ g = wo.heap.size := by omega
        have hgne2 : ¬ wo.heap.size = g := by omega
        clear hsn hgc hset hlast
        go_wp2_with fail
        go_region
        go_wp2_with fail
        go_roundw
        case rel => exact ⟨k + 1, _, os.set no (s ++ strOfNums [x]), by omega, by go_num, rfl, hnew, OwnS.far (W.out (s ++ strOfNums [x])) (((Only.refl [] _).alloc _).drew) (fun x hx => by simp at hx), ((O.setCell (p := ⟨g, no, none⟩) (.inr hg1) _).alloc _).drew⟩
        case measure => simp [intOf]; omega
    · obtain rfl : k = n := by omega
      have hos2 : os = pieces (strOfNums l) := map_ext (by
        rw [hos.out, pieces_data, List.take_of_length_le (by have := hn.out; omega)]
        rfl)
      have hsz : ∀ s ∈ os, s.size ≤ maxLen := fun s hs => by
        have h1 : s.data.toList ∈ os.map (·.data.toList) := List.mem_map_of_mem hs
        rw [hos.out] at h1
        have h2 := cutL_len _ _ h1
        rw [bsOf_len, List.length_take] at h2
        have h3 : s.size = s.data.toList.length := by simp
        unfold maxLen
        omega
      have hR3 := hR2.out
      rw [← hos2] at hR3
      obtain ⟨g, cap, rfl, hg1, hg2, hgc⟩ := V.form hpos
      obtain ⟨no, hno⟩ : ∃ no, os.length = no := ⟨_, rfl⟩
      rw [hno] at V ⊢
      have hno9 : no ≤ 32769 := by omega
      by_cases h64 : 64 < no
      · have hfin : R = (6, []) := by
          have e : namesBad os = 6 := by unfold namesBad; rw [if_pos (by omega)]
          rw [hR3, e]
          rfl
        have h64' : (64 : Int) < (no : Int) := by omega
        replace hfin := hide hfin
        clear hR3 hos2 hgc hsz hos
        go_wp2_with fail
        go_ret2
        rw [hfin.out]
        exact ⟨O, _, rfl, ownS_nil _ _⟩
      · have h64' : ¬ (64 : Int) < (no : Int) := by omega
        have e : namesBad os = if os.all nameOk then 0 else 4 := by unfold namesBad; rw [if_neg (by omega)]
        rw [e] at hR3
        replace hR3 := hide hR3
        replace hno := hide hno
        replace hsz := hide hsz
        clear e hos2 hos
        go_wp2_with fail
        go_loop [41] (fun i => ∃ j : Nat, j ≤ no ∧ i = .int .i64 j ∧ Hid ((os.take j).all nameOk = true)) (fun i => no - (intOf i).toNat)
        case atStart => exact ⟨0, by omega, rfl, hide rfl⟩
        case round =>
          obtain ⟨j, hj, rfl, hg⟩ := hrel
          by_cases hlt2 : j < no
          · obtain ⟨s, hs⟩ : ∃ s, os[j]? = some s := ⟨_, List.getElem?_eq_getElem (by have := hno.out; omega)⟩
            have cs := hgc j s hs
            have hmem : s ∈ os := List.mem_of_getElem? hs
            have hts := hide (take_snocG hs)
            have K := refName_any s wo (hsz.out s hmem)
            replace hs := hide hs
            by_cases ho : nameOk s = true
            · rw [ho] at K
              have ho := hide ho
              go_wp2_with fail
              go_call K as e w' ⟨rfl, rfl⟩
              clear K
              go_wp2
              go_round
              case rel => exact ⟨j + 1, by omega, by go_num, hide (by rw [hts.out, List.all_append, hg.out]; simp [ho.out])⟩
              case measure => simp [intOf]; omega
            · have ho' : nameOk s = false := by simpa using ho
              rw [ho'] at K
              have hfin : R = (4, []) := by
                have hb : os.all nameOk = false := by
                  rw [Bool.eq_false_iff]
                  intro hall
                  exact ho (List.all_eq_true.1 hall s hmem)
                rw [hR3.out, hb]
                rfl
              replace hfin := hide hfin
              clear ho ho'
              go_wp2_with fail
              go_call K as e w' ⟨rfl, rfl⟩
              go_wp2_with fail
              go_ret2
              rw [hfin.out]
              exact ⟨O, _, rfl, ownS_nil _ _⟩
          · obtain rfl : j = no := by omega
            have hfin : R = (0, os) := by
              have hall : os.all nameOk = true := by have := hg.out; rw [List.take_of_length_le (by have := hno.out; omega)] at this; exact this
              rw [hR3.out, hall]
              rfl
            replace hfin := hide hfin
            clear hg
            go_wp2_with fail
            go_ret2
            rw [hfin.out]
            exact ⟨O, _, rfl, V⟩
end Go.Proofs.YtmpeidliacbelaaGreatDoor

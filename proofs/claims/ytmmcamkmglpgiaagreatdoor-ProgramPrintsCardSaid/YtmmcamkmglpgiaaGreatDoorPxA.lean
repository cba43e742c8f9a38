/- A string's bytes appended to bytes of our own, by the machine. Over any program; no condition · Layer 19: a number of digits; for all texts; where the library's tables hold what they hold · Layer 19: strings.Builder: what is written to it; no condition but its length · Layer 19: the document finds programs that are the same to be the same; no condition but lengths · The machine: it goes into calls and comes back by itself, decides what is known, goes round loops; over any program; no condition · Layer 18: signals' names and numbers; for all numbers and names; no condition. -/
import Derived.Lib.AppendStr
import Derived.Test.YtmmcamkmglpgiaaGreatDoorPrC
import Derived.Lib.LaidTab
import Derived.Sort.Grow
import Derived.Lib.Builder
import Derived.Test.YtmmcamkmglpgiaaGreatDoorKit
import Derived.Test.YtmmcamkmglpgiaaGreatDoorEngR
import Derived.Test.YtmmcamkmglpgiaaGreatDoorEngAN
import Derived.Test.YtmmcamkmglpgiaaGreatDoorEngAK
import Derived.Test.YtmmcamkmglpgiaaGreatDoorPgA
import Derived.Test.YtmmcamkmglpgiaaGreatDoorEngI
import Derived.Test.YtmmcamkmglpgiaaGreatDoorEngAC
namespace Go.Proofs.YtmmcamkmglpgiaaGreatDoor
open Go.RowKit
set_option linter.all false
set_option maxRecDepth 100000
theorem u8v_cells (s : ByteArray) : (u8v s.data.toList).flatMap cu8 = Lib.strCells s := by
  unfold u8v Lib.strCells
  induction s.data.toList with
  | nil => rfl
  | cons c l ih => simp only [List.map_cons, List.flatMap_cons, ih]; rfl
section
variable {P : Program} {w : World} {base : Nat} {v : Value} {tS tu E : TypeId}
theorem run_appS (ht : P.underlying tS = some (.slice E)) (hu : P.underlying tu = some .string) (hI : (P.info? E).map (fun i => (i.zero, i.size, i.bytes)) = some (some (.int .u8 0), 1, 1)) (ty : TypeId) {l : List Int} (hown : OwnX cu8 E 1 w base v l) (s : ByteArray) (hlen : l.length + s.size ≤ 140737488355328) (hbase : base ≤ w.heap.size) :
    ∃ v' w', (Builtin.append_ #[tS, tu] ty #[v, .string s]).run P w = .ok v' w' ∧ OwnX cu8 E 1 w' base v' (l ++ u8v s.data.toList) ∧ Only v.ownBlock.toList w w' ∧ Where2 v v' w.heap.size := by
  obtain ⟨i, hi, hz, h1, h2⟩ := info_parts hI
  have hs : (u8v s.data.toList).length = s.size := by rw [u8v_len, Array.length_toList]; rfl
  obtain ⟨v', w', e, g1, g2, _⟩ := Lib.run_append_own_string (P := P) w base tS tu ty E i ht hu hi hz h1 h2 v l.length (l.flatMap cu8) hown s (by unfold maxLen; omega) hlen hbase
  refine ⟨v', w', e, ?_, only_of_grown g2, ?_⟩
  · unfold OwnX
    rw [List.flatMap_append, u8v_cells, List.length_append, hs]
    exact g1
  · rcases hown.2 with ⟨rfl, hn⟩ | ⟨g, cap, cur, rfl, hbg, hg, hnc, hcm, hcs, htake⟩
    · obtain ⟨v2, w2, e2, g3, _, _⟩ := Lib.run_append_own_string (P := P) w w.heap.size tS tu ty E i ht hu hi hz h1 h2 (.slice none 0 0) l.length (l.flatMap cu8) ⟨hown.1, .inl ⟨rfl, hn⟩⟩ s (by unfold maxLen; omega) hlen (Nat.le_refl _)
      rw [e] at e2
      injection e2 with e3 e4
      subst e3
      by_cases h0 : s.size = 0
      · left
        have hf := Lib.run_firstCells_string (P := P) w 1 s
        rw [h0] at hf
        have : (Builtin.append_ #[tS, tu] ty #[.slice none 0 0, .string s]).run P w = .ok (.slice none 0 0) w := by
          simp [Builtin.append_, run_underlying ht, run_underlying hu, sizeOf, typeInfo, hi, h1, Builtin.lenOf, h0, hf]
        rw [this] at e
        injection e with e _
        rw [← e]
      · right
        have hr := run_append_nil_string (P := P) w tS tu ty E i (.int .u8 0) ht hu hi hz s (by omega) (by omega) (by rw [h2]; omega)
        rw [hr] at e
        injection e with e _
        rw [← e]
        rfl
    · by_cases hroom : l.length + s.size ≤ cap
      · left
        have hcs' : cur.size = cap := by simpa using hcs
        have hr := Lib.run_append_room_string (P := P) w tS tu ty E i ht hu hi h1 g l.length cap cur hg s hroom (by omega)
        rw [hr] at e
        injection e with e _
        rw [← e]
        rfl
      · right
        have holds : ∀ j u, (l.flatMap cu8)[j]? = some u → w.cell? ((⟨g, 0, none⟩ : Addr).add j) = some u := World.ownsRow.cells hown (g := g) rfl
        have hr := Lib.run_append_grow_string (P := P) w tS tu ty E i (.int .u8 0) ht hu hi hz ⟨g, 0, none⟩ l.length cap (l.flatMap cu8) (by rw [h1]; exact hown.1) holds s (by omega) (by omega) (by rw [h2]; exact growslice_fits (by omega) (by omega))
        rw [hr] at e
        injection e with e _
        rw [← e]
        rfl
end
section
variable {P : Program} {f : FR} {R : Ending → World → Prop} {n : Nat} {w0 : World} {L : List Nat} {β : List Nat} {m : SM} {α : Type} {cf : α → List Value} {size : Nat} {E : TypeId}
/-- What grows a slice of our own, in general. -/
theorem Hs.appG (k : Nat) (l gs : List α) (nl ng : Nat) (hl : l.length = nl) (hg : gs.length = ng) {A : Option Addr} {cap : Nat} {S : Sem Value}
    (hs : semOf n β m = some (valS S)) (hk : m.hp[k]? = some (.s A cap nl E size (l.flatMap cf))) (hrd : (rdOf m).contains k = false)
    (hS : ∀ w, OwnX cf E size w 0 (.slice A nl cap) l → ∃ v' w', S.run P w = .ok v' w' ∧ OwnX cf E size w' 0 v' (l ++ gs) ∧ Only (Value.slice A nl cap).ownBlock.toList w w' ∧ Where2 (.slice A nl cap) v' w.heap.size)
    (h : ∀ A' cap', cap' ≤ maxLen → Hs P f R n w0 L β (m.put (dstOf m) (.c (.v (.slice A' (nl + ng) cap'))) (m.hp.set k (.s A' cap' (nl + ng) E size ((l ++ gs).flatMap cf))))) : Hs P f R n w0 L β m := by
  obtain ⟨o, ho, hgk, he, hd⟩ := semOf_spec hs
  refine ⟨fun w H W => ?_⟩
  have hown : OwnX cf E size w 0 (.slice A nl cap) l := by
    unfold OwnX
    rw [hl]
    exact H.lies k _ hk
  subst hl; subst hg
  obtain ⟨v', w', h1, h2, h3, h4⟩ := hS w hown
  obtain ⟨A', cap', rfl, _, hmax, _, hblk⟩ := h2.form
  rw [hd] at h
  have h := h A' cap' hmax
  have hlen2 : (l ++ gs).length = l.length + gs.length := by simp
  rw [hlen2] at h1 h4
  have hkl := (List.getElem?_eq_some_iff.1 hk).1
  have H' : Mem w0 L β (m.hp.set k (.s A' cap' (l.length + gs.length) E size ((l ++ gs).flatMap cf))) w' := by
    refine H.swap k hk h3 (fun x hx => ?_) rfl ?_ (fun x hx => ?_)
    · cases A with
      | none => simp [Value.ownBlock] at hx
      | some a => simp only [Value.ownBlock, Option.toList_some, List.mem_singleton] at hx; subst hx; rfl
    · have h5 := h2
      unfold OwnX at h5
      rw [hlen2] at h5
      exact h5
    · have hb : Value.ownBlock (.slice A' (l.length + gs.length) cap') = some x := by
        cases A' with
        | none => cases hx
        | some a => simp only [HB.blk, Option.map_some] at hx; exact hx
      rcases h4 with h4 | h4
      · left
        rw [h4] at hb
        cases A with
        | none => cases hb
        | some a => exact hb
      · right
        rw [h4] at hb
        injection hb with hb
        omega
  refine Gs.op ho hgk ?_
  unfold Oper.wp
  rw [fr_eval, he]
  simp only [valS, Sem.run_bind, h1, Result.andThen_ok, Sem.run_pure, Oper.upon_value]
  refine ⟨β, _, _, fr_put n β m.sl o.dst (.c (.v (.slice A' (l.length + gs.length) cap'))), fun w2 hI => ?_, h.go w' H' ?_⟩
  · intro i hi hb hh
    refine hI i hi hb ?_
    rw [List.getElem?_set, if_neg (fun e => by
      subst e
      simp at hrd
      exact hrd hi)]
    exact hh
  · simp only [SM.wf, SM.put, Bool.and_eq_true, List.length_set]
    refine ⟨putS_wf (SM.wf_sl W) rfl, List.all_eq_true.2 fun x hx => ?_⟩
    rcases List.mem_or_eq_of_mem_set hx with hx | rfl
    · exact List.all_eq_true.1 (SM.wf_hp W) x hx
    · rfl
/-- append(x, s...), s a string. -/
theorem Hs.appS (k : Nat) {tS tu : TypeId} (ht : P.underlying tS = some (.slice E)) (hu : P.underlying tu = some .string) (hI : (P.info? E).map (fun i => (i.zero, i.size, i.bytes)) = some (some (.int .u8 0), 1, 1)) (l : List Int) (s : List UInt8) (nl : Nat) (hl : l.length = nl) {A : Option Addr} {cap ty : Nat}
    (hs : semOf n β m = some (valS (Builtin.append_ #[tS, tu] ty #[.slice A nl cap, .string (strL s)]))) (hk : m.hp[k]? = some (.s A cap nl E 1 (l.flatMap cu8))) (hrd : (rdOf m).contains k = false) (hby : nl + s.length ≤ 140737488355328)
    (h : ∀ A' cap', cap' ≤ maxLen → Hs P f R n w0 L β (m.put (dstOf m) (.c (.v (.slice A' (nl + s.length) cap'))) (m.hp.set k (.s A' cap' (nl + s.length) E 1 ((l ++ u8v s).flatMap cu8))))) : Hs P f R n w0 L β m :=
  Hs.appG (cf := cu8) k l (u8v s) nl s.length hl (u8v_len s) hs hk hrd (fun w hown => by
    have hz2 : (strL s).size = s.length := rfl
    subst hl
    obtain ⟨v', w', e, g1, g2, g3⟩ := run_appS (P := P) ht hu hI ty hown (strL s) (by rw [hz2]; exact hby) (Nat.zero_le _)
    exact ⟨v', w', e, g1, g2, g3⟩) h
end
end Go.Proofs.YtmmcamkmglpgiaaGreatDoor

namespace Go.Proofs.YtmmcamkmglpgiaaGreatDoor
open Go.RowKit Go.Sort
set_option linter.all false
set_option maxRecDepth 100000
theorem onlyB {w w' : World} (h : Below w.heap.size w w') : Only [] w w' := ⟨h.os, h.tape, h.output, h.size, fun i hi _ => h.block i hi⟩
theorem onlyG (w : World) (k : Nat) (os : Array Obj) : Only [] w (grow (w.drewN k) os) := ⟨rfl, rfl, rfl, by show w.heap.size ≤ (w.heap ++ os).size; simp, fun i hi _ => by
  show (w.heap ++ os)[i]? = w.heap[i]?
  rw [Array.getElem?_append_left hi]⟩
theorem var_only {P : Program} {w w' : World} {nm : String} {cs : Array Value} (O : Only [] w w') (h : w.var? P nm = some cs) : w'.var? P nm = some cs := by
  unfold World.var? at *
  cases hg : P.globalNamed nm with
  | none => rw [hg] at h; cases h
  | some g =>
    rw [hg] at h
    simp only [Option.bind_some] at h ⊢
    have hlt : g < w.heap.size := by
      rcases Nat.lt_or_ge g w.heap.size with hh | hh
      · exact hh
      · rw [Array.getElem?_eq_none hh] at h; cases h
    rw [O.block g hlt (by simp)]
    exact h
/-- What the library's variables hold. -/
structure SLib (w : World) : Prop where
  syn : ∃ (tp : TypeId) (p : Value), w.var? Tryz.prog "strconv.ErrSyntax" = some #[.iface tp p]
  rng : ∃ (tp : TypeId) (p : Value), w.var? Tryz.prog "strconv.ErrRange" = some #[.iface tp p]
  tab : Lib.TabIs Tryz.prog w "internal/strconv.uint64pow10" .u64 Lib.pow10Tab
  max : ∃ m : Int, w.cell? ⟨0, 0, none⟩ = some (.int .i64 m)
theorem SLib.only {w w' : World} (h : SLib w) (O : Only [] w w') : SLib w' := by
  obtain ⟨⟨t1, p1, h1⟩, ⟨t2, p2, h2⟩, h3, ⟨m, h4⟩⟩ := h
  refine ⟨⟨t1, p1, var_only O h1⟩, ⟨t2, p2, var_only O h2⟩, var_only O h3, ⟨m, ?_⟩⟩
  rw [← h4]
  exact cell_same (O.block 0 (lt_of_cell h4) (by simp))
theorem only_freeze {w w' : World} {L : List Nat} {a : Addr} {n : Nat} (h : Only L w w') (hp : w.heap.size ≤ a.block) : Only L w (w'.freeze a n) := by
  unfold World.freeze
  split
  · exact h
  · exact ⟨h.os, h.tape, h.output, by simpa using h.size, fun i hi hn => by
      show (w'.heap.modify a.block _)[i]? = _
      rw [Array.getElem?_modify, if_neg (by omega)]
      exact h.block i hi hn⟩
theorem bytesW (w : World) (e : TypeId) (t : ByteArray) : Only [] w (Lib.bytesWorld w e t) := by
  unfold Lib.bytesWorld
  exact only_freeze ((Only.refl [] w).drew.alloc _) (by simp)
theorem itoa_any (n : Int) (h0 : -9223372036854775808 ≤ n) (h1 : n ≤ 9223372036854775807) (w : World) (hS : SLib w) : Calls Tryz.prog 44 #[.int .i64 n] w fun e w' => e = .returned (.string (strL (Lib.itoa n))) ∧ Only [] w w' := by
  refine (Tryz.strconv_Itoa n h0 h1 w hS.tab).mono ?_
  rintro e w' ⟨rfl, k, os, rfl⟩
  exact ⟨rfl, onlyG w k os⟩
def atoiN (s : List UInt8) : Int := match Lib.atoiAll s with
  | .ok v => v
  | .range => Lib.atoiSat s
  | _ => 0
def atoiE (s : List UInt8) : Bool := match Lib.atoiAll s with
  | .ok _ => true
  | _ => false
theorem atoi_any (s : List UInt8) (hs : s.length ≤ 140737488355000) (w : World) (hS : SLib w) : Calls Tryz.prog 88 #[.string (strL s)] w fun e w' => ∃ (N : Nat), e = .returned (.tuple #[.int .i64 (atoiN s), if atoiE s then .nilIface else .iface 165 (.pointer (some ⟨N, 0, none⟩))]) ∧ Only [] w w' ∧ True := by
  have hz : (strL s).size = s.length := rfl
  cases h : Lib.atoiAll s with
  | ok v =>
    refine (Tryz.strconv_Atoi_ok (strL s) (by omega) v h w).mono ?_
    rintro e w' ⟨rfl, hw⟩
    refine ⟨0, by simp [atoiN, atoiE, h], ?_, trivial⟩
    rcases hw with rfl | ⟨t, rfl⟩
    · exact Only.refl _ _
    · exact bytesW _ _ _
  | range =>
    obtain ⟨tp, p, hv⟩ := hS.rng
    refine (Tryz.strconv_Atoi_range_var (strL s) (by omega) h tp p w hv).mono ?_
    rintro e w' ⟨N, rfl, _, _, hb⟩
    exact ⟨N, by simp [atoiN, atoiE, h, strL_data], onlyB hb, trivial⟩
  | _ =>
    obtain ⟨tp, p, hv⟩ := hS.syn
    refine (Tryz.strconv_Atoi_syntax_var (strL s) (by omega) h tp p w hv).mono ?_
    rintro e w' ⟨N, rfl, _, _, hb⟩
    exact ⟨N, by simp [atoiN, atoiE, h], onlyB hb, trivial⟩
/-- A number: what Atoi makes of it, and whether it is one. -/
def numOk (s : List UInt8) : Bool := atoiE s && (withinB (atoiN s) 0 999999 && (Lib.itoa (atoiN s) == s))
theorem atoiN_in (s : List UInt8) : -9223372036854775808 ≤ atoiN s ∧ atoiN s ≤ 9223372036854775807 := by
  unfold atoiN
  cases h : Lib.atoiAll s with
  | ok v => exact Lib.atoiAll_bounds h
  | range =>
    show _ ≤ Lib.atoiSat s ∧ Lib.atoiSat s ≤ _
    unfold Lib.atoiSat
    split <;> exact ⟨by decide, by decide⟩
  | _ =>
    show (-9223372036854775808 : Int) ≤ 0 ∧ (0 : Int) ≤ 9223372036854775807
    exact ⟨by decide, by decide⟩
theorem number_any19 (s : List UInt8) (hs : s.length ≤ 140737488355000) (w : World) (hS : SLib w) : Calls Tryz.prog 61 #[.string (strL s)] w fun e w' => e = .returned (.tuple #[.int .i64 (atoiN s), .bool (numOk s)]) ∧ Only [] w w' := by
  have hC := fun w hS => atoi_any s hs w hS
  have hb := atoiN_in s
  refine Hs.enter Tryz.func61 [] [] [] [.c (.v (.string (strL s)))] (Mem.start0 w) (by kernel_rfl) (by kernel_rfl) ?_
  refine Hs.run0 300 (fun _ => by kernel_rfl) ?_
  cases hE : atoiE s with
  | false =>
    rw [hE] at hC
    refine Hs.callX (v := fun N => .tuple #[.int .i64 (atoiN s), .iface 165 (.pointer (some ⟨N, 0, none⟩))]) (Q := fun _ => True) (fun w' H => hC w' (hS.only H.only)) (by kernel_rfl) fun N _ => ?_
    refine Hs.run0 300 (fun _ => by kernel_rfl) ?_
    refine Hs.bool 14 false (by kernel_rfl) (fun h => by cases h) (fun _ => ?_)
    refine Hs.rung0 [3] 300 (fun _ => by kernel_rfl) ?_
    refine Hs.bool 18 false (by kernel_rfl) (fun h => by cases h) (fun _ => ?_)
    refine Hs.rung0 [3, 7] 300 (fun _ => by kernel_rfl) ?_
    exact Hs.ret (v := .tuple #[.int .i64 (atoiN s), .bool false]) Tryz.func61 (by kernel_rfl) fun w' H => ⟨by simp [numOk, hE], H.only⟩
  | true =>
    rw [hE] at hC
    refine Hs.callX (v := fun _ : Nat => .tuple #[.int .i64 (atoiN s), .nilIface]) (Q := fun _ => True) (fun w' H => hC w' (hS.only H.only)) (by kernel_rfl) fun N _ => ?_
    refine Hs.run0 300 (fun _ => by kernel_rfl) ?_
    refine Hs.rung0 [3] 300 (fun _ => by kernel_rfl) ?_
    refine Hs.callV (v := .bool (withinB (atoiN s) 0 999999)) (fun w' H => within_any _ _ _ w') (by kernel_rfl) ?_
    refine Hs.rung0 [3] 300 (fun _ => by kernel_rfl) ?_
    refine Hs.bool 18 (withinB (atoiN s) 0 999999) (by kernel_rfl) (fun h => ?_) (fun h => ?_)
    · refine Hs.rung0 [3, 7] 300 (fun _ => by kernel_rfl) ?_
      refine Hs.callV (v := .string (strL (Lib.itoa (atoiN s)))) (fun w' H => itoa_any _ hb.1 hb.2 w' (hS.only H.only)) (by kernel_rfl) ?_
      refine Hs.rung0 [3, 7] 300 (fun _ => by kernel_rfl) ?_
      refine Hs.slot 3 (.c (.v (.bool (Lib.itoa (atoiN s) == s)))) rfl ((by kernel_rfl : _ = Value.bool ((strL (Lib.itoa (atoiN s))).toList == (strL s).toList)).trans (by rw [str_cmp]; rfl)) ?_
      exact Hs.ret (v := .tuple #[.int .i64 (atoiN s), .bool (Lib.itoa (atoiN s) == s)]) Tryz.func61 (by kernel_rfl) fun w' H => ⟨by simp [numOk, hE, h], H.only⟩
    · refine Hs.rung0 [3, 7] 300 (fun _ => by kernel_rfl) ?_
      exact Hs.ret (v := .tuple #[.int .i64 (atoiN s), .bool false]) Tryz.func61 (by kernel_rfl) fun w' H => ⟨by simp [numOk, hE, h], H.only⟩
end Go.Proofs.YtmmcamkmglpgiaaGreatDoor

namespace Go.Proofs.YtmmcamkmglpgiaaGreatDoor
open Go.RowKit
set_option linter.all false
set_option maxRecDepth 100000
/-- What a builder's first cell holds: nothing, or its own place. -/
def bdV (g : Nat) : Bool → Value
  | true => .pointer (some ⟨g, 0, none⟩)
  | false => .pointer none
def bdC (k : Nat) : Bool → SC
  | true => .p k 0
  | false => .v (.pointer none)
theorem bdC_den (β : List Nat) (k g : Nat) (hk : nm β k = g) (u : Bool) : (bdC k u).den β = bdV g u := by
  subst hk
  cases u <;> rfl
/-- A builder, and what it holds. -/
structure BuAt (w : World) (g : Nat) (u : Bool) (A : Option Addr) (n cap : Nat) (out : List Int) : Prop where
  blk : Blk w g 65 [bdV g u, .slice A n cap]
  own : OwnX cu8 5 1 w 0 (.slice A n cap) out
  len : out.length = n
  ne : ∀ x, Value.ownBlock (.slice A n cap) = some x → x ≠ g
def BuPost (w : World) (g : Nat) (A : Option Addr) (n cap : Nat) (out : List Int) (n' : Nat) (v : Value) : Ending → World → Prop := fun e w' =>
  ∃ A' cap', e = .returned v ∧ Only (g :: (Value.ownBlock (.slice A n cap)).toList) w w' ∧ Blk w' g 65 [bdV g true, .slice A' n' cap'] ∧ OwnX cu8 5 1 w' 0 (.slice A' n' cap') out ∧ WhereG (.slice A n cap) (.slice A' n' cap') w.heap.size
theorem BuAt.mem {w : World} {g : Nat} {u : Bool} {A : Option Addr} {n cap : Nat} {out : List Int} (h : BuAt w g u A n cap out) : Mem w (g :: (Value.ownBlock (.slice A n cap)).toList) [g, 0] [.b true 65 [bdC 0 u, .v (.slice A n cap)], .s A cap n 5 1 (out.flatMap cu8)] w := by
  have hA : ∀ x, HB.blk 0 (.s A cap n 5 1 (out.flatMap cu8)) = some x → Value.ownBlock (.slice A n cap) = some x := fun x hx => by
    cases A with
    | none => cases hx
    | some a => simpa [Value.ownBlock, HB.blk] using hx
  refine Mem.start _ _ _ _ rfl (fun k b hk => ?_) (fun k b x hk _ hx => ?_) (fun i j hi hj x ei ej li lj => ?_)
  · match k, hk with
    | 0, hk =>
      injection hk with hk; subst hk
      show Blk w g 65 [(bdC 0 u).den [g, 0], .slice A n cap]
      rw [bdC_den [g, 0] 0 g rfl u]
      exact h.blk
    | 1, hk =>
      injection hk with hk; subst hk
      have h5 := h.own
      unfold OwnX at h5
      rw [h.len] at h5
      exact h5
  · match k, hk with
    | 0, hk => injection hk with hk; subst hk; injection hx with hx; subst hx; simp [nm]
    | 1, hk => injection hk with hk; subst hk; exact List.mem_cons_of_mem _ (Option.mem_toList.2 (hA x hx))
  · match i, j, ei, ej with
    | 0, 0, _, _ => rfl
    | 1, 1, _, _ => rfl
    | 0, 1, ei, ej =>
      injection ei with ei; subst ei; injection ej with ej; subst ej
      injection li with li
      exact absurd li.symm (h.ne x (hA x lj))
    | 1, 0, ei, ej =>
      injection ei with ei; subst ei; injection ej with ej; subst ej
      injection lj with lj
      exact absurd lj.symm (h.ne x (hA x li))
theorem BuAt.memV {w : World} {g : Nat} {u : Bool} {A : Option Addr} {n cap : Nat} {out : List Int} (h : BuAt w g u A n cap out) : Mem w (g :: (Value.ownBlock (.slice A n cap)).toList) [g, 0] [.b true 65 [.v (bdV g u), .v (.slice A n cap)], .s A cap n 5 1 (out.flatMap cu8)] w := by
  have hA : ∀ x, HB.blk 0 (.s A cap n 5 1 (out.flatMap cu8)) = some x → Value.ownBlock (.slice A n cap) = some x := fun x hx => by
    cases A with
    | none => cases hx
    | some a => simpa [Value.ownBlock, HB.blk] using hx
  refine Mem.start _ _ _ _ rfl (fun k b hk => ?_) (fun k b x hk _ hx => ?_) (fun i j hi hj x ei ej li lj => ?_)
  · match k, hk with
    | 0, hk =>
      injection hk with hk; subst hk
      exact h.blk
    | 1, hk =>
      injection hk with hk; subst hk
      have h5 := h.own
      unfold OwnX at h5
      rw [h.len] at h5
      exact h5
  · match k, hk with
    | 0, hk => injection hk with hk; subst hk; injection hx with hx; subst hx; simp [nm]
    | 1, hk => injection hk with hk; subst hk; exact List.mem_cons_of_mem _ (Option.mem_toList.2 (hA x hx))
  · match i, j, ei, ej with
    | 0, 0, _, _ => rfl
    | 1, 1, _, _ => rfl
    | 0, 1, ei, ej =>
      injection ei with ei; subst ei; injection ej with ej; subst ej
      injection li with li
      exact absurd li.symm (h.ne x (hA x lj))
    | 1, 0, ei, ej =>
      injection ei with ei; subst ei; injection ej with ej; subst ej
      injection lj with lj
      exact absurd lj.symm (h.ne x (hA x li))
theorem BuPost.of {w w' : World} {g : Nat} {A A' : Option Addr} {n cap n' cap' : Nat} {out : List Int} {v : Value} {β : List Nat} {hp : List HB} (H : Mem w (g :: (Value.ownBlock (.slice A n cap)).toList) β hp w') (hβ : β[0]? = some g) (h0 : hp[0]? = some (.b true 65 [.p 0 0, .v (.slice A' n' cap')])) (h1 : hp[1]? = some (.s A' cap' n' 5 1 (out.flatMap cu8))) (hl : out.length = n') : BuPost w g A n cap out n' v (.returned v) w' := by
  have hg := nm_get hβ
  refine ⟨A', cap', rfl, H.only, ?_, H.ownX 1 hl h1, fun x hx => ?_⟩
  · have := H.at 0 h0
    rw [hg] at this
    have e : dens β [.p 0 0, .v (.slice A' n' cap')] = [bdV g true, .slice A' n' cap'] := by rw [← hg]; rfl
    rw [e] at this
    exact this
  · have hx' : HB.blk (nm β 1) (.s A' cap' n' 5 1 (out.flatMap cu8)) = some x := by
      cases A' with
      | none => cases hx
      | some a => simpa [Value.ownBlock, HB.blk] using hx
    rcases H.own 1 _ x h1 rfl hx' with h | h
    · rcases List.mem_cons.1 h with h | h
      · exact absurd (H.inj 0 1 _ _ x h0 h1 (by rw [hg, h]; rfl) hx') (by decide)
      · exact .inl (Option.mem_toList.1 h)
    · exact .inr h
theorem bcheck_used (g : Nat) (w : World) (h0 : w.cell? ⟨g, 0, none⟩ = some (.pointer (some ⟨g, 0, none⟩))) : Calls Tryz.prog 42 #[.pointer (some ⟨g, 0, none⟩)] w fun e w' => e = .returned (.tuple #[]) ∧ w' = w := by
  obtain ⟨j, hj, _⟩ := Option.map_eq_some_iff.1 (show (Tryz.prog.info? 65).map (fun i => i.size) = some 2 by kernel_rfl)
  go_enter Tryz.func42, Tryz.ntmps42
  go_wp2
  rw [Lib.run_neq_ptr_same w _ Tryz.underlying62 hj]
  go_wp2
  go_end0
  exact ⟨rfl, rfl⟩
theorem bcheck_fresh (g : Nat) (w : World) (h0 : w.cell? ⟨g, 0, none⟩ = some (.pointer none)) (hsh : w.shape? g = some (65, 2)) (hfz : w.frozen? ⟨g, 0, none⟩ = false) : Calls Tryz.prog 42 #[.pointer (some ⟨g, 0, none⟩)] w fun e w' => e = .returned (.tuple #[]) ∧ w' = w.setCell ⟨g, 0, none⟩ (.pointer (some ⟨g, 0, none⟩)) := by
  obtain ⟨j, hj, hjs⟩ := Option.map_eq_some_iff.1 (show (Tryz.prog.info? 65).map (fun i => i.size) = some 2 by kernel_rfl)
  have hlies : liesAt Tryz.prog Tryz.prog.depth 65 (2 / Tryz.prog.cellsOf 65) 0 65 1 = true := by kernel_rfl
  go_enter Tryz.func42, Tryz.ntmps42
  go_wp2
  rw [Lib.run_to_unsafe w ⟨g, 0, none⟩ Tryz.underlying62 Tryz.underlying120 hj (by rw [hjs]; decide) hsh (Nat.zero_lt_succ 1)]
  simp only [Result.andThen]
  rw [Oper.upon_value]
  go_wp2
  rw [run_callFunc_extern Tryz.func64 (by kernel_rfl) (by kernel_rfl) (by kernel_rfl) (e := Extern.AbiNoEscape.same) (by kernel_rfl)]
  rw [Lib.run_noEscape]
  simp only [Result.andThen]
  rw [Oper.upon_value]
  go_wp2
  rw [Lib.run_from_unsafe w ⟨g, 0, none⟩ Tryz.underlying120 Tryz.underlying62 hj hsh hlies]
  simp only [Result.andThen]
  rw [Oper.upon_value]
  go_wp2
  go_end0
  exact ⟨rfl, rfl⟩
theorem bcheck_any (g : Nat) (u : Bool) (v : Value) (w : World) (h : Blk w g 65 [bdV g u, v]) : Calls Tryz.prog 42 #[.pointer (some ⟨g, 0, none⟩)] w fun e w' => e = .returned (.tuple #[]) ∧ Only [g] w w' ∧ Blk w' g 65 [bdV g true, v] := by
  cases u with
  | false =>
    refine (bcheck_fresh g w (h.cell 0) (by simp [World.shape?, show w.heap[g]? = _ from h]) (h.frozen 0)).mono ?_
    rintro e w' ⟨rfl, rfl⟩
    exact ⟨rfl, (Only.refl _ _).setCell (.inl (by simp)) _, h.set_ 0 _⟩
  | true =>
    refine (bcheck_used g w (h.cell 0)).mono ?_
    rintro e w' ⟨rfl, rfl⟩
    exact ⟨rfl, Only.refl _ _, h⟩
theorem ws_any (g : Nat) (u : Bool) (A : Option Addr) (n cap : Nat) (out : List Int) (s : List UInt8) (w : World) (h : BuAt w g u A n cap out) (hn : n + s.length ≤ 140737488355328) : Calls Tryz.prog 22 #[.pointer (some ⟨g, 0, none⟩), .string (strL s)] w (BuPost w g A n cap (out ++ u8v s) (n + s.length) (.tuple #[.int .i64 s.length, .nilIface])) := by
  have hlen := h.len
  have hC : ∀ β hp w', Mem w (g :: (Value.ownBlock (.slice A n cap)).toList) β hp w' → β[0]? = some g → hp[0]? = some (.b true 65 [bdC 0 u, .v (.slice A n cap)]) → Calls Tryz.prog 42 #[.pointer (some ⟨g, 0, none⟩)] w' fun e w2 => e = .returned (.tuple #[]) ∧ Only [g] w' w2 ∧ Blk w2 g 65 [bdV g true, .slice A n cap] := fun β hp w' H hβ h0 => by
    have hg := nm_get hβ
    have := H.at 0 h0
    rw [hg] at this
    refine bcheck_any g u _ w' ?_
    rw [← bdC_den β 0 g hg u]
    exact this
  have hM := h.mem
  cases u
  all_goals
    refine Hs.enter Tryz.func22 (g :: (Value.ownBlock (.slice A n cap)).toList) [g, 0] [.b true 65 [_, .v (.slice A n cap)], .s A cap n 5 1 (out.flatMap cu8)] [.c (.p 0 0), .c (.v (.string (strL s)))] hM (by kernel_rfl) (by kernel_rfl) ?_
    refine Hs.run0 300 (fun _ => by kernel_rfl) ?_
    refine Hs.callP 0 65 [.p 0 0, .v (.slice A n cap)] (v := .tuple #[]) (fun w' H => hC _ _ w' H rfl rfl) (by kernel_rfl) (by kernel_rfl) ?_
    refine Hs.run0 300 (fun _ => by kernel_rfl) ?_
    refine Hs.appS 1 (E := 5) (tS := 63) (tu := 9) (ty := 63) (A := A) (cap := cap) (by kernel_rfl) (by kernel_rfl) (by kernel_rfl) out s n hlen (by kernel_rfl) (by kernel_rfl) (by kernel_rfl) hn fun A1 c1 _ => ?_
    refine Hs.run0 300 (fun _ => by kernel_rfl) ?_
    exact Hs.ret (v := .tuple #[.int .i64 s.length, .nilIface]) Tryz.func22 (by kernel_rfl) fun w' H => BuPost.of (A' := A1) (cap' := c1) H rfl (by kernel_rfl) (by kernel_rfl) (by simp [hlen, u8v_len])
theorem wb_any (g : Nat) (u : Bool) (A : Option Addr) (n cap : Nat) (out : List Int) (c : Int) (w : World) (h : BuAt w g u A n cap out) (hn : n + 1 ≤ 140737488355328) : Calls Tryz.prog 23 #[.pointer (some ⟨g, 0, none⟩), .int .u8 c] w (BuPost w g A n cap (out ++ [c]) (n + 1) .nilIface) := by
  have hlen := h.len
  have hC : ∀ β hp w', Mem w (g :: (Value.ownBlock (.slice A n cap)).toList) β hp w' → β[0]? = some g → hp[0]? = some (.b true 65 [bdC 0 u, .v (.slice A n cap)]) → Calls Tryz.prog 42 #[.pointer (some ⟨g, 0, none⟩)] w' fun e w2 => e = .returned (.tuple #[]) ∧ Only [g] w' w2 ∧ Blk w2 g 65 [bdV g true, .slice A n cap] := fun β hp w' H hβ h0 => by
    have hg := nm_get hβ
    have := H.at 0 h0
    rw [hg] at this
    refine bcheck_any g u _ w' ?_
    rw [← bdC_den β 0 g hg u]
    exact this
  have hM := h.mem
  cases u
  all_goals
    refine Hs.enter Tryz.func23 (g :: (Value.ownBlock (.slice A n cap)).toList) [g, 0] [.b true 65 [_, .v (.slice A n cap)], .s A cap n 5 1 (out.flatMap cu8)] [.c (.p 0 0), .c (.v (.int .u8 c))] hM (by kernel_rfl) (by kernel_rfl) ?_
    refine Hs.run0 300 (fun _ => by kernel_rfl) ?_
    refine Hs.callP 0 65 [.p 0 0, .v (.slice A n cap)] (v := .tuple #[]) (fun w' H => hC _ _ w' H rfl rfl) (by kernel_rfl) (by kernel_rfl) ?_
    refine Hs.run1 300 (fun _ => by kernel_rfl) fun b2 => ?_
    refine Hs.app (cf := cu8) (c := 1) (ty := 63) 1 elemU8 out [c] n 1 hlen rfl cu8_one cu8_len (A := A) (B := some ⟨b2, 0, none⟩) (cap := cap) (by kernel_rfl) (by kernel_rfl) (by kernel_rfl) (fun w' H => H.rdB (cf := cu8) (wr := true) (T := 5) (cs := [.v (.int .u8 c)]) (gs := [c]) 2 (by kernel_rfl) rfl) (by unfold maxLen; omega) (by rw [u8_by]; omega) fun A1 c1 _ => ?_
    refine Hs.run0 300 (fun _ => by kernel_rfl) ?_
    exact Hs.ret (v := .nilIface) Tryz.func23 (by kernel_rfl) fun w' H => BuPost.of (A' := A1) (cap' := c1) H rfl (by kernel_rfl) (by kernel_rfl) (by simp [hlen])
section
variable {P : Program} {f : FR} {R : Ending → World → Prop} {n : Nat} {w0 : World} {L : List Nat} {β : List Nat} {m : SM}
/-- A call behind which nothing more is asked of the memory. -/
theorem Hs.callLast {F : FuncId} {args : Array Value} (v : Value) (hC : ∀ w, Mem w0 L β m.hp w → Calls P F args w fun e w' => e = .returned v ∧ Only L w0 w') (hc : callOf P n β m = some (F, args)) (hrd : rdOf m = [])
    (h : Hs P f R n w0 L β (m.put (dstOf m) (.c (.v v)) (m.hp.map fun _ => HB.no))) : Hs P f R n w0 L β m := by
  refine ⟨fun w H W => ?_⟩
  refine (Hs.call hc (fun w H => ?_)).go w H W
  refine Calls.mono (hC w H) ?_
  rintro e w' ⟨rfl, O⟩
  have hno : ∀ (k : Nat) (b : HB), (m.hp.map fun _ => HB.no)[k]? = some b → b = .no := fun k b hk => by
    rw [List.getElem?_map] at hk
    cases hm : m.hp[k]? with
    | none => rw [hm] at hk; cases hk
    | some x => rw [hm] at hk; injection hk with hk; exact hk.symm
  refine ⟨[], .c (.v v), m.hp.map fun _ => HB.no, rfl, ?_, ?_, ?_, by rw [List.append_nil]; exact h⟩
  · rw [List.append_nil]
    refine ⟨O, by rw [H.len, List.length_map], (fun k b hk => by obtain rfl := hno k b hk; trivial), (fun k b x hk hw hx => by obtain rfl := hno k b hk; cases hw), (fun i j hi hj x ei _ li _ => by obtain rfl := hno i hi ei; cases li)⟩
  · simp only [SV.wf, SC.wf, Bool.true_and, Bool.and_eq_true, Nat.ble_eq, List.length_map]
    refine ⟨Nat.le_refl _, List.all_eq_true.2 fun x hx => ?_⟩
    obtain ⟨k, hk⟩ := List.getElem?_of_mem hx
    rw [hno k x hk]
    rfl
  · intro i hi
    rw [hrd] at hi
    cases hi
end
theorem str_any19 {w w' : World} {β : List Nat} {hp : List HB} (k j : Nat) {u : Bool} {A : Option Addr} {n cap : Nat} {l : List UInt8} (H : Mem w [] β hp w') (hne : k ≠ j) (hk : hp[k]? = some (.b true 65 [.v (bdV (nm β k) u), .v (.slice A n cap)])) (hj : hp[j]? = some (.s A cap n 5 1 ((u8v l).flatMap cu8))) (hl : l.length = n) : Calls Tryz.prog 25 #[.pointer (some ⟨nm β k, 0, none⟩)] w' fun e w2 => e = .returned (.string (strL l)) ∧ Only [] w w2 := by
  have hO := H.only
  have hcells : (u8v l).flatMap cu8 = Lib.byteCells l := by
    unfold u8v Lib.byteCells
    clear hj hl
    induction l with
    | nil => rfl
    | cons c l ih => simp only [List.map_cons, List.flatMap_cons, ih]; rfl
  have hB : Lib.IsBuilder 65 5 w.heap.size (nm β k) (Lib.byteCells l) w' := by
    have hb := H.at k hk
    have hbo : w.heap.size ≤ nm β k := by
      rcases H.own k _ (nm β k) hk rfl rfl with h | h
      · cases h
      · exact h
    have hr : w'.ownsRow 0 5 1 (.slice A n cap) n ((u8v l).flatMap cu8) := H.lies j _ hj
    rw [hcells] at hr
    have hr2 : w'.ownsRow w.heap.size 5 1 (.slice A n cap) n (Lib.byteCells l) := by
      obtain ⟨h1, h2 | ⟨g, c, cur, e, h3, hg, h4⟩⟩ := hr
      · exact ⟨h1, .inl h2⟩
      · refine ⟨h1, .inr ⟨g, c, cur, e, ?_, hg, h4⟩⟩
        injection e with e1
        subst e1
        rcases H.own j _ g hj rfl rfl with h | h
        · cases h
        · exact h
    have hn : (Lib.byteCells l).length = n := by unfold Lib.byteCells; rw [List.length_map, hl]
    have hd : dens β [.v (bdV (nm β k) u), .v (.slice A n cap)] = [bdV (nm β k) u, .slice A n cap] := by
      rfl
    rw [hd] at hb
    have hat : Lib.BuilderAt 65 5 w.heap.size (nm β k) (bdV (nm β k) u) (Lib.byteCells l) w' := by
      refine ⟨hbo, _, hb, by rw [hn]; exact hr2, fun e => ?_⟩
      refine hne (H.inj k j _ _ (nm β k) hk hj rfl ?_)
      cases A with
      | none => cases e
      | some a => exact e
    cases u with
    | true => exact .inr hat
    | false => exact .inl hat
  refine (Tryz.Builder_String_any_k w.heap.size (nm β k) l w' (Lib.IsBuilderF.of hB) hO.size).mono ?_
  rintro e w2 ⟨rfl, _, hb, _⟩
  refine ⟨rfl, ⟨hb.os.trans hO.os, hb.tape.trans hO.tape, hb.output.trans hO.output, Nat.le_trans hO.size hb.size, fun i hi hn => (hb.block i hi).trans (hO.block i hi hn)⟩⟩
end Go.Proofs.YtmmcamkmglpgiaaGreatDoor

namespace Go.Proofs.YtmmcamkmglpgiaaGreatDoor
open Go.RowKit
set_option linter.all false
set_option maxRecDepth 100000
set_option maxHeartbeats 4000000 in
theorem rsame19_any (xs ys : List PG) (A B : Option Addr) (ca cb : Nat) (w : World) (ha : Pgs w A ca xs) (hb : Pgs w B cb ys) (hm : ys.map PG.m = xs.map PG.m) : Calls Tryz.prog 15 #[.slice A xs.length ca, .slice B ys.length cb] w fun e w' => e = .returned (.bool true) ∧ Only [] w w' := by
  have hl : ys.length = xs.length := by simpa using congrArg List.length hm
  rw [hl]
  have hlen : xs.length ≤ maxLen := Nat.le_trans ha.le ha.max
  have J : ∀ (d i : Nat), xs.length - i = d → i ≤ xs.length → ∀ (u : Nat → Value), Hs Tryz.prog 15 (fun e w' => e = .returned (.bool true) ∧ Only [] w w') (Tryz.f15).ntmps w [] [] ⟨.no, loopAt Tryz.f15 0, pins [(0, .c (.v (.slice A xs.length ca))), (1, .c (.v (.slice B xs.length cb))), (13, .c (.v (.int .i64 xs.length))), (14, .c (.v (.int .i64 i)))] (.vals u), []⟩ := by
    intro d
    induction d with
    | zero =>
      intro i hd hi u
      obtain rfl : i = xs.length := by omega
      refine Hs.run0 300 (fun _ => by kernel_rfl) ?_
      refine Hs.condP ((xs.length : Int) < (xs.length : Int)) (by kernel_rfl) (fun h => by omega) (fun _ => ?_)
      refine Hs.run0 300 (fun _ => by kernel_rfl) ?_
      exact Hs.ret (v := .bool true) Tryz.func15 (by kernel_rfl) fun w' H => ⟨rfl, H.only⟩
    | succ d ih =>
      intro i hd hi u
      have hil : i < xs.length := by omega
      obtain ⟨x, h1⟩ : ∃ x, xs[i]? = some x := ⟨_, List.getElem?_eq_getElem hil⟩
      obtain ⟨y, h2⟩ : ∃ y, ys[i]? = some y := ⟨_, List.getElem?_eq_getElem (by omega)⟩
      have e : (ys.map PG.m)[i]? = (xs.map PG.m)[i]? := by rw [hm]
      rw [List.getElem?_map, List.getElem?_map, h1, h2] at e
      have o1 := ha.all x (List.mem_of_getElem? h1)
      have o2 := hb.all y (List.mem_of_getElem? h2)
      obtain ⟨n1, A1, c1, p1⟩ := x
      obtain ⟨n2, A2, c2, p2⟩ := y
      injection e with e
      injection e with e3 e4
      have e3 : n2 = n1 := e3
      have e4 : p2 = p1 := e4
      subst e3
      subst e4
      have r1 : RdX cOP w A1 p2 := o1.1
      have r2 : RdX cOP w A2 p2 := o2.1
      have hpl : p2.length ≤ maxLen := Nat.le_trans o1.2.1 o1.2.2
      obtain ⟨ab, aoff, hA, _, _⟩ := ha.rd (by omega)
      obtain ⟨bb, boff, hB, _, _⟩ := hb.rd (by omega)
      have hih := fun u => ih (i + 1) (by omega) (by omega) u
      clear ih
      have ra := ha.rd
      have rb := hb.rd
      subst hA; subst hB
      have K : ∀ (e j : Nat), p2.length - j = e → j ≤ p2.length → ∀ (u : Nat → Value), Hs Tryz.prog 15 (fun e w' => e = .returned (.bool true) ∧ Only [] w w') (Tryz.f15).ntmps w [] [] ⟨.no, loopAt Tryz.f15 1, pins [(0, .c (.v (.slice (some ⟨ab, aoff, none⟩) xs.length ca))), (1, .c (.v (.slice (some ⟨bb, boff, none⟩) xs.length cb))), (5, .c (.v (.int .i64 i))), (13, .c (.v (.int .i64 xs.length))), (14, .c (.v (.int .i64 i))), (48, .c (.v (.int .i64 p2.length))), (49, .c (.v (.int .i64 j)))] (.vals u), []⟩ := by
        intro e
        induction e with
        | zero =>
          intro j he hj u
          obtain rfl : j = p2.length := by omega
          refine Hs.run0 300 (fun _ => by kernel_rfl) ?_
          refine Hs.condP ((p2.length : Int) < (p2.length : Int)) (by kernel_rfl) (fun h => by omega) (fun _ => ?_)
          refine Hs.run0 300 (fun _ => by kernel_rfl) ?_
          refine Hs.slot 14 (.c (.v (.int .i64 (i + 1 : Nat)))) rfl ((by kernel_rfl : _ = Value.int .i64 (IntKind.i64.wrap ((i : Int) + 1))).trans (wrap_nextJ hlen)) ?_
          refine Hs.loop (by kernel_rfl) ?_
          exact Hs.goto (loopAt Tryz.f15 0) [] [] [(0, .c (.v (.slice (some ⟨ab, aoff, none⟩) xs.length ca))), (1, .c (.v (.slice (some ⟨bb, boff, none⟩) xs.length cb))), (13, .c (.v (.int .i64 xs.length))), (14, .c (.v (.int .i64 (i + 1 : Nat))))] (by kernel_rfl) (by decide) (by kernel_rfl) (by kernel_rfl) (fun _ => (by kernel_rfl)) (fun u => hih u)
        | succ e ihk =>
          intro j he hj u
          have hjl : j < p2.length := by omega
          obtain ⟨z, hz⟩ : ∃ z, p2[j]? = some z := ⟨_, List.getElem?_eq_getElem hjl⟩
          obtain ⟨pb, poff, hP, _, _⟩ := r1 (by omega)
          obtain ⟨qb, qoff, hQ, _, _⟩ := r2 (by omega)
          have hihk := fun u => ihk (j + 1) (by omega) (by omega) u
          clear ihk
          subst hP; subst hQ
          refine Hs.run0 300 (fun _ => by kernel_rfl) ?_
          refine Hs.condP ((j : Int) < (p2.length : Int)) (by kernel_rfl) (fun _ => ?_) (fun h => by omega)
          refine Hs.run0 300 (fun _ => by kernel_rfl) ?_
          refine Hs.any [] (by kernel_rfl) ?_
          refine Hs.run0 300 (fun _ => by kernel_rfl) ?_
          refine Hs.takeIdx (rd := []) 2 elemRp (b := ab) (off := aoff) (c := ca) (len := xs.length) (i := i) hil (by kernel_rfl) ?_
          refine Hs.takeIdx (rd := []) 10 elemRp (b := bb) (off := boff) (c := cb) (len := xs.length) (i := i) hil (by kernel_rfl) ?_
          refine Hs.rung0 [] 2 (fun _ => by kernel_rfl) ?_
          apply Hs.share0 (β' := [])
          · intro K
            refine Hs.branch2 4 12 (by kernel_rfl) ?_ ?_
            · refine Hs.ldc (E' := 49) (b := ab) (off := aoff + i * 2 + 1) (.slice (some ⟨pb, poff, none⟩) p2.length c1) (by kernel_rfl) (fun w' H => rdX_cell cPG_len (ra.only H.only) h1 (j := 1) (v := .slice (some ⟨pb, poff, none⟩) p2.length c1) rfl) (by kernel_rfl) ?_
              refine Hs.takeIdx (rd := []) 6 elemRo (b := pb) (off := poff) (c := c1) (len := p2.length) (i := j) hjl (by kernel_rfl) ?_
              refine Hs.branch2 7 12 (by kernel_rfl) ?_ ?_
              · refine Hs.ldx (cf := cOP) (size := 4) (E := 52) (b := pb) (off := poff) (i := j) (l := p2) (x := z) cOP_len (.g z.sc) (by kernel_rfl) (fun w' H => r1.only H.only) hz (by kernel_rfl) (by kernel_rfl) rfl (by kernel_rfl) ?_
                refine Hs.sel1 12 (by kernel_rfl) ?_
                refine Hs.ldc (E' := 49) (b := bb) (off := boff + i * 2 + 1) (.slice (some ⟨qb, qoff, none⟩) p2.length c2) (by kernel_rfl) (fun w' H => rdX_cell cPG_len (rb.only H.only) h2 (j := 1) (v := .slice (some ⟨qb, qoff, none⟩) p2.length c2) rfl) (by kernel_rfl) ?_
                refine Hs.takeIdx (rd := []) 14 elemRo (b := qb) (off := qoff) (c := c2) (len := p2.length) (i := j) hjl (by kernel_rfl) ?_
                refine Hs.sel1 15 (by kernel_rfl) ?_
                refine Hs.ldx (cf := cOP) (size := 4) (E := 52) (b := qb) (off := qoff) (i := j) (l := p2) (x := z) cOP_len (.g z.sc) (by kernel_rfl) (fun w' H => r2.only H.only) hz (by kernel_rfl) (by kernel_rfl) rfl (by kernel_rfl) ?_
                exact K
              · refine Hs.ldc (E' := 49) (b := bb) (off := boff + i * 2 + 1) (.slice (some ⟨qb, qoff, none⟩) p2.length c2) (by kernel_rfl) (fun w' H => rdX_cell cPG_len (rb.only H.only) h2 (j := 1) (v := .slice (some ⟨qb, qoff, none⟩) p2.length c2) rfl) (by kernel_rfl) ?_
                refine Hs.takeIdx (rd := []) 14 elemRo (b := qb) (off := qoff) (c := c2) (len := p2.length) (i := j) hjl (by kernel_rfl) ?_
                refine Hs.branch2 7 15 (by kernel_rfl) ?_ ?_
                · refine Hs.ldx (cf := cOP) (size := 4) (E := 52) (b := pb) (off := poff) (i := j) (l := p2) (x := z) cOP_len (.g z.sc) (by kernel_rfl) (fun w' H => r1.only H.only) hz (by kernel_rfl) (by kernel_rfl) rfl (by kernel_rfl) ?_
                  refine Hs.sel1 15 (by kernel_rfl) ?_
                  refine Hs.ldx (cf := cOP) (size := 4) (E := 52) (b := qb) (off := qoff) (i := j) (l := p2) (x := z) cOP_len (.g z.sc) (by kernel_rfl) (fun w' H => r2.only H.only) hz (by kernel_rfl) (by kernel_rfl) rfl (by kernel_rfl) ?_
                  exact Hs.eqM K (by kernel_rfl) (by kernel_rfl)
                · refine Hs.ldx (cf := cOP) (size := 4) (E := 52) (b := qb) (off := qoff) (i := j) (l := p2) (x := z) cOP_len (.g z.sc) (by kernel_rfl) (fun w' H => r2.only H.only) hz (by kernel_rfl) (by kernel_rfl) rfl (by kernel_rfl) ?_
                  refine Hs.sel1 7 (by kernel_rfl) ?_
                  refine Hs.ldx (cf := cOP) (size := 4) (E := 52) (b := pb) (off := poff) (i := j) (l := p2) (x := z) cOP_len (.g z.sc) (by kernel_rfl) (fun w' H => r1.only H.only) hz (by kernel_rfl) (by kernel_rfl) rfl (by kernel_rfl) ?_
                  exact Hs.eqM K (by kernel_rfl) (by kernel_rfl)
            · refine Hs.ldc (E' := 49) (b := bb) (off := boff + i * 2 + 1) (.slice (some ⟨qb, qoff, none⟩) p2.length c2) (by kernel_rfl) (fun w' H => rdX_cell cPG_len (rb.only H.only) h2 (j := 1) (v := .slice (some ⟨qb, qoff, none⟩) p2.length c2) rfl) (by kernel_rfl) ?_
              refine Hs.takeIdx (rd := []) 14 elemRo (b := qb) (off := qoff) (c := c2) (len := p2.length) (i := j) hjl (by kernel_rfl) ?_
              refine Hs.branch2 4 15 (by kernel_rfl) ?_ ?_
              · refine Hs.ldc (E' := 49) (b := ab) (off := aoff + i * 2 + 1) (.slice (some ⟨pb, poff, none⟩) p2.length c1) (by kernel_rfl) (fun w' H => rdX_cell cPG_len (ra.only H.only) h1 (j := 1) (v := .slice (some ⟨pb, poff, none⟩) p2.length c1) rfl) (by kernel_rfl) ?_
                refine Hs.takeIdx (rd := []) 6 elemRo (b := pb) (off := poff) (c := c1) (len := p2.length) (i := j) hjl (by kernel_rfl) ?_
                refine Hs.branch2 7 15 (by kernel_rfl) ?_ ?_
                · refine Hs.ldx (cf := cOP) (size := 4) (E := 52) (b := pb) (off := poff) (i := j) (l := p2) (x := z) cOP_len (.g z.sc) (by kernel_rfl) (fun w' H => r1.only H.only) hz (by kernel_rfl) (by kernel_rfl) rfl (by kernel_rfl) ?_
                  refine Hs.sel1 15 (by kernel_rfl) ?_
                  refine Hs.ldx (cf := cOP) (size := 4) (E := 52) (b := qb) (off := qoff) (i := j) (l := p2) (x := z) cOP_len (.g z.sc) (by kernel_rfl) (fun w' H => r2.only H.only) hz (by kernel_rfl) (by kernel_rfl) rfl (by kernel_rfl) ?_
                  exact Hs.eqM K (by kernel_rfl) (by kernel_rfl)
                · refine Hs.ldx (cf := cOP) (size := 4) (E := 52) (b := qb) (off := qoff) (i := j) (l := p2) (x := z) cOP_len (.g z.sc) (by kernel_rfl) (fun w' H => r2.only H.only) hz (by kernel_rfl) (by kernel_rfl) rfl (by kernel_rfl) ?_
                  refine Hs.sel1 7 (by kernel_rfl) ?_
                  refine Hs.ldx (cf := cOP) (size := 4) (E := 52) (b := pb) (off := poff) (i := j) (l := p2) (x := z) cOP_len (.g z.sc) (by kernel_rfl) (fun w' H => r1.only H.only) hz (by kernel_rfl) (by kernel_rfl) rfl (by kernel_rfl) ?_
                  exact Hs.eqM K (by kernel_rfl) (by kernel_rfl)
              · refine Hs.ldx (cf := cOP) (size := 4) (E := 52) (b := qb) (off := qoff) (i := j) (l := p2) (x := z) cOP_len (.g z.sc) (by kernel_rfl) (fun w' H => r2.only H.only) hz (by kernel_rfl) (by kernel_rfl) rfl (by kernel_rfl) ?_
                refine Hs.sel1 4 (by kernel_rfl) ?_
                refine Hs.ldc (E' := 49) (b := ab) (off := aoff + i * 2 + 1) (.slice (some ⟨pb, poff, none⟩) p2.length c1) (by kernel_rfl) (fun w' H => rdX_cell cPG_len (ra.only H.only) h1 (j := 1) (v := .slice (some ⟨pb, poff, none⟩) p2.length c1) rfl) (by kernel_rfl) ?_
                refine Hs.takeIdx (rd := []) 6 elemRo (b := pb) (off := poff) (c := c1) (len := p2.length) (i := j) hjl (by kernel_rfl) ?_
                refine Hs.sel1 7 (by kernel_rfl) ?_
                refine Hs.ldx (cf := cOP) (size := 4) (E := 52) (b := pb) (off := poff) (i := j) (l := p2) (x := z) cOP_len (.g z.sc) (by kernel_rfl) (fun w' H => r1.only H.only) hz (by kernel_rfl) (by kernel_rfl) rfl (by kernel_rfl) ?_
                exact Hs.eqM K (by kernel_rfl) (by kernel_rfl)
          refine Hs.sel1 16 (by kernel_rfl) ?_
          refine Hs.same (op := .neq) (T := 52) #[.int .i64 z.k, .int .i64 z.a, .int .i64 z.b, .string z.t] false (by kernel_rfl) (.inr ⟨rfl, rfl⟩) (by kernel_rfl) ?_
          refine Hs.run0 300 (fun _ => by kernel_rfl) ?_
          refine Hs.condF (by kernel_rfl) ?_
          refine Hs.run0 300 (fun _ => by kernel_rfl) ?_
          refine Hs.slot 49 (.c (.v (.int .i64 (j + 1 : Nat)))) rfl ((by kernel_rfl : _ = Value.int .i64 (IntKind.i64.wrap ((j : Int) + 1))).trans (wrap_nextJ hpl)) ?_
          refine Hs.loop (by kernel_rfl) ?_
          exact Hs.goto (loopAt Tryz.f15 1) [] [] [(0, .c (.v (.slice (some ⟨ab, aoff, none⟩) xs.length ca))), (1, .c (.v (.slice (some ⟨bb, boff, none⟩) xs.length cb))), (5, .c (.v (.int .i64 i))), (13, .c (.v (.int .i64 xs.length))), (14, .c (.v (.int .i64 i))), (48, .c (.v (.int .i64 p2.length))), (49, .c (.v (.int .i64 (j + 1 : Nat))))] (by kernel_rfl) (by decide) (by kernel_rfl) (by kernel_rfl) (fun _ => (by kernel_rfl)) (fun u => hihk u)
      refine Hs.run0 300 (fun _ => by kernel_rfl) ?_
      refine Hs.condP ((i : Int) < (xs.length : Int)) (by kernel_rfl) (fun _ => ?_) (fun h => by omega)
      refine Hs.run0 300 (fun _ => by kernel_rfl) ?_
      refine Hs.any [] (by kernel_rfl) ?_
      refine Hs.run0 300 (fun _ => by kernel_rfl) ?_
      refine Hs.takeIdx (rd := []) 2 elemRp (b := ab) (off := aoff) (c := ca) (len := xs.length) (i := i) hil (by kernel_rfl) ?_
      refine Hs.takeIdx (rd := []) 7 elemRp (b := bb) (off := boff) (c := cb) (len := xs.length) (i := i) hil (by kernel_rfl) ?_
      refine Hs.rung0 [] 2 (fun _ => by kernel_rfl) ?_
      apply Hs.share0 (β' := [])
      · intro K1
        refine Hs.branch2 4 9 (by kernel_rfl) ?_ ?_
        · refine Hs.ldc (E' := 9) (b := ab) (off := aoff + i * 2 + 0) (.string n2) (by kernel_rfl) (fun w' H => rdX_cell cPG_len (ra.only H.only) h1 (j := 0) (v := .string n2) rfl) (by kernel_rfl) ?_
          refine Hs.sel1 9 (by kernel_rfl) ?_
          refine Hs.ldc (E' := 9) (b := bb) (off := boff + i * 2 + 0) (.string n2) (by kernel_rfl) (fun w' H => rdX_cell cPG_len (rb.only H.only) h2 (j := 0) (v := .string n2) rfl) (by kernel_rfl) ?_
          exact K1
        · refine Hs.ldc (E' := 9) (b := bb) (off := boff + i * 2 + 0) (.string n2) (by kernel_rfl) (fun w' H => rdX_cell cPG_len (rb.only H.only) h2 (j := 0) (v := .string n2) rfl) (by kernel_rfl) ?_
          refine Hs.sel1 4 (by kernel_rfl) ?_
          refine Hs.ldc (E' := 9) (b := ab) (off := aoff + i * 2 + 0) (.string n2) (by kernel_rfl) (fun w' H => rdX_cell cPG_len (ra.only H.only) h1 (j := 0) (v := .string n2) rfl) (by kernel_rfl) ?_
          exact Hs.eqM K1 (by kernel_rfl) (by kernel_rfl)
      refine Hs.run0 300 (fun _ => by kernel_rfl) ?_
      refine Hs.bool 28 (!(n2.toList == n2.toList)) (by kernel_rfl) (fun h => by simp at h) (fun _ => ?_)
      refine Hs.rung0 [11] 300 (fun _ => by kernel_rfl) ?_
      refine Hs.takeIdxG (rd := []) [11] 14 elemRp (b := ab) (off := aoff) (c := ca) (len := xs.length) (i := i) hil (by kernel_rfl) ?_
      refine Hs.takeIdxG (rd := []) [11] 20 elemRp (b := bb) (off := boff) (c := cb) (len := xs.length) (i := i) hil (by kernel_rfl) ?_
      refine Hs.rung0 [11] 2 (fun _ => by kernel_rfl) ?_
      apply Hs.share0 (β' := [])
      · intro K2
        refine Hs.branch2 16 22 (by kernel_rfl) ?_ ?_
        · refine Hs.rung0 [11] 1 (fun _ => by kernel_rfl) ?_
          refine Hs.ldc (E' := 49) (b := ab) (off := aoff + i * 2 + 1) (.slice A1 p2.length c1) (by kernel_rfl) (fun w' H => rdX_cell cPG_len (ra.only H.only) h1 (j := 1) (v := .slice A1 p2.length c1) rfl) (by kernel_rfl) ?_
          refine Hs.rung0 [11] 300 (fun _ => by kernel_rfl) ?_
          refine Hs.ldc (E' := 49) (b := bb) (off := boff + i * 2 + 1) (.slice A2 p2.length c2) (by kernel_rfl) (fun w' H => rdX_cell cPG_len (rb.only H.only) h2 (j := 1) (v := .slice A2 p2.length c2) rfl) (by kernel_rfl) ?_
          refine Hs.rung0 [11] 300 (fun _ => by kernel_rfl) ?_
          exact K2
        · refine Hs.rung0 [11] 1 (fun _ => by kernel_rfl) ?_
          refine Hs.ldc (E' := 49) (b := bb) (off := boff + i * 2 + 1) (.slice A2 p2.length c2) (by kernel_rfl) (fun w' H => rdX_cell cPG_len (rb.only H.only) h2 (j := 1) (v := .slice A2 p2.length c2) rfl) (by kernel_rfl) ?_
          refine Hs.rung0 [11] 300 (fun _ => by kernel_rfl) ?_
          refine Hs.ldc (E' := 49) (b := ab) (off := aoff + i * 2 + 1) (.slice A1 p2.length c1) (by kernel_rfl) (fun w' H => rdX_cell cPG_len (ra.only H.only) h1 (j := 1) (v := .slice A1 p2.length c1) rfl) (by kernel_rfl) ?_
          refine Hs.rung0 [11] 300 (fun _ => by kernel_rfl) ?_
          exact Hs.eqM K2 (by kernel_rfl) (by kernel_rfl)
      refine Hs.cond ((p2.length : Int) != (p2.length : Int)) (by kernel_rfl) (fun h => by simp at h) (fun _ => ?_)
      refine Hs.run0 300 (fun _ => by kernel_rfl) ?_
      refine Hs.idx (b := ab) (off := aoff) (len := xs.length) (c := ca) (i := i) elemRp hil (by kernel_rfl) ?_
      refine Hs.run0 300 (fun _ => by kernel_rfl) ?_
      refine Hs.ldc (E' := 49) (b := ab) (off := aoff + i * 2 + 1) (.slice A1 p2.length c1) (by kernel_rfl) (fun w' H => rdX_cell cPG_len (ra.only H.only) h1 (j := 1) (v := .slice A1 p2.length c1) rfl) (by kernel_rfl) ?_
      refine Hs.run0 300 (fun _ => by kernel_rfl) ?_
      refine Hs.loop (by kernel_rfl) ?_
      exact Hs.goto (loopAt Tryz.f15 1) [] [] [(0, .c (.v (.slice (some ⟨ab, aoff, none⟩) xs.length ca))), (1, .c (.v (.slice (some ⟨bb, boff, none⟩) xs.length cb))), (5, .c (.v (.int .i64 i))), (13, .c (.v (.int .i64 xs.length))), (14, .c (.v (.int .i64 i))), (48, .c (.v (.int .i64 p2.length))), (49, .c (.v (.int .i64 (0 : Nat))))] (by kernel_rfl) (by decide) (by kernel_rfl) (by kernel_rfl) (fun _ => (by kernel_rfl)) (fun u => K p2.length 0 (by omega) (by omega) u)
  refine Hs.enter Tryz.func15 [] [] [] [.c (.v (.slice A xs.length ca)), .c (.v (.slice B xs.length cb))] (Mem.start0 w) (by kernel_rfl) (by kernel_rfl) ?_
  refine Hs.run0 300 (fun _ => by kernel_rfl) ?_
  refine Hs.cond ((xs.length : Int) != (xs.length : Int)) (by kernel_rfl) (fun h => by simp at h) (fun _ => ?_)
  refine Hs.run0 300 (fun _ => by kernel_rfl) ?_
  refine Hs.loop (by kernel_rfl) ?_
  exact Hs.goto (loopAt Tryz.f15 0) [] [] [(0, .c (.v (.slice A xs.length ca))), (1, .c (.v (.slice B xs.length cb))), (13, .c (.v (.int .i64 xs.length))), (14, .c (.v (.int .i64 (0 : Nat))))] (by kernel_rfl) (by decide) (by kernel_rfl) (by kernel_rfl) (fun _ => (by kernel_rfl)) (fun u => J xs.length 0 (by omega) (by omega) u)
end Go.Proofs.YtmmcamkmglpgiaaGreatDoor

namespace Go.Proofs.YtmmcamkmglpgiaaGreatDoor
set_option linter.all false
set_option maxRecDepth 100000

/-! Guards without a list. -/
def litG (n : Nat) (ops : Array Oper) (sl : Slots) (j : Nat) (b : Bool) : Option Bool := match ops[j]? with
  | some oj => match oj.dst with
    | some d => match Nat.blt d n with
      | true => match litB (sl.at d) with
        | some x => some (x == b)
        | none => match notB (sl.at d) with
          | true => some false
          | false => none
      | false => none
    | none => none
  | none => none
def geO (o : Oper) : List Nat := match o.guard with
  | none => []
  | some (j, _) => [j]
def gTakeA (n : Nat) (ops : Array Oper) (sl : Slots) (o : Oper) : Option Bool := match o.guard with
  | none => some true
  | some (j, b) => litG n ops sl j b
theorem gTakeA_eq {n : Nat} {ops : Array Oper} {sl : Slots} {o : Oper} : gTakeA n ops sl o = gTake n (geO o) ops sl o := by
  unfold gTakeA gTake geO
  split
  · rename_i h; simp [h]
  · rename_i j b h
    simp only [h, List.contains_cons, BEq.rfl, Bool.true_or]
    rfl
section
variable (P : Program) (n : Nat) (β : List Nat)
def takeVA (ops : Array Oper) (sl : Slots) (hp : List HB) (rd : List Nat) (o : Oper) : Option SV := match gTakeA n ops sl o with
  | some true => takeV0 P n β sl hp rd o
  | some false => some (.c (.v undef))
  | none => none
def findTakeA (ops : Array Oper) (lm : Nat) (sl : Slots) (hp : List HB) (rd : List Nat) : List Nat → Option (Nat × Oper × SV)
  | [] => none
  | i :: r => match ops[i]? with
    | some o => match takeVA P n β ops sl hp rd o with
      | some v => match freeL ops lm i o ops.toList 0 with
        | true => some (i, o, v)
        | false => findTakeA ops lm sl hp rd r
      | none => findTakeA ops lm sl hp rd r
    | none => findTakeA ops lm sl hp rd r
def exGA (m : SM) (o : Oper) : Option SM := match o.guard with
  | none => exOp P n β m o
  | some _ => byGuard n β m
def oneStepA (m : SM) : Option SM := match m.r with
  | .no => ctl m
  | .lst _ [] => some ⟨.no, m.todo, m.sl, m.hp⟩
  | .lst ops (i :: _) => match ops[i]? with
    | some o => exGA P n β m o
    | none => none
  | .sel ops _ _ _ i => match ops[i]? with
    | some o => exGA P n β m o
    | none => none
  | .lstN ops i _ => match ops[i]? with
    | some o => exOp P n β m o
    | none => none
  | .selN ops _ _ _ i => match ops[i]? with
    | some o => exOp P n β m o
    | none => none
  | .any ops fuel lm rd => match rdyL lm ops.toList 0 with
    | [] => some ⟨.no, m.todo, m.sl, m.hp⟩
    | i0 :: rs => match fuel with
      | 0 => none
      | fuel + 1 => match findTakeA P n β ops lm m.sl m.hp (rdE ops lm rd) ((i0 :: rs).filter (reachB ops lm rd)) with
        | some (i, o, v) => some ⟨.any ops fuel (setBit lm i) rd, m.todo, putS o.dst v m.sl, m.hp⟩
        | none => match rs with
          | [] => some ⟨.sel ops fuel lm rd i0, m.todo, m.sl, m.hp⟩
          | _ => none
end
section
variable {P : Program} {f : FR} {R : Ending → World → Prop} {n : Nat} {β ν : List Nat} {m m' : SM} {w w0 : World} {L : List Nat}
theorem takeVA_eq {ops : Array Oper} {sl : Slots} {hp : List HB} {rd : List Nat} {o : Oper} : takeVA P n β ops sl hp rd o = takeV P n β (geO o) ops sl hp rd o := by
  unfold takeVA takeV
  rw [gTakeA_eq]
  generalize gTake n (geO o) ops sl o = g
  cases g with
  | none => rfl
  | some b => cases b <;> rfl
theorem findTakeA_spec {ops : Array Oper} {lm : Nat} {rd : List Nat} {i : Nat} {o : Oper} {v : SV} : ∀ {rs : List Nat}, findTakeA P n β ops lm m.sl m.hp rd rs = some (i, o, v) → i ∈ rs ∧ ops[i]? = some o ∧ takeV P n β (geO o) ops m.sl m.hp rd o = some v ∧ freeL ops lm i o ops.toList 0 = true
  | [], h => by cases h
  | j :: r, h => by
    simp only [findTakeA] at h
    split at h
    · rename_i o' ho
      split at h
      · rename_i v' hv
        split at h
        · rename_i hf
          injection h with h
          injection h with h1 h2
          injection h2 with h2 h3
          subst h1; subst h2; subst h3
          exact ⟨by simp, ho, by rw [← takeVA_eq]; exact hv, hf⟩
        · obtain ⟨h1, h2⟩ := findTakeA_spec h
          exact ⟨List.mem_cons_of_mem _ h1, h2⟩
      · obtain ⟨h1, h2⟩ := findTakeA_spec h
        exact ⟨List.mem_cons_of_mem _ h1, h2⟩
    · obtain ⟨h1, h2⟩ := findTakeA_spec h
      exact ⟨List.mem_cons_of_mem _ h1, h2⟩
theorem exGA_eq {o : Oper} : exGA P n β m o = exG P n β (geO o) m o := by
  unfold exGA exG geO
  split
  · rename_i h; simp [h]
  · rename_i g h
    obtain ⟨j, b⟩ := g
    simp only [h, List.contains_cons, BEq.rfl, Bool.true_or]
theorem oneStepA_sound (H : Mem w0 L β m.hp w) (W : m.wf = true) (h : oneStepA P n β m = some m') (hk : ∀ ν w', Mem w0 L (β ++ ν) m'.hp w' → m'.wf = true → Gs P f R n (β ++ ν) m' w') : Gs P f R n β m w := by
  have k0 : ∀ w', Mem w0 L β m'.hp w' → m'.wf = true → Gs P f R n β m' w' := fun w' h1 h2 => by
    have := hk [] w'
    simp only [List.append_nil] at this
    exact this h1 h2
  unfold oneStepA at h
  split at h
  · rename_i hr
    obtain ⟨h1, h2, h3⟩ := ctl_sound (f := f) (R := R) (n := n) (β := β) (w := w) W hr h
    exact h3 (k0 w (by rw [h1]; exact H) h2)
  · rename_i ops hr
    injection h with h; subst h
    have g := k0 w H W
    obtain ⟨r, todo, sl, hp⟩ := m
    cases hr
    show wpOps P ops (QQ P f R todo) [] (fr n β sl) w
    unfold wpOps
    exact ⟨rfl, g⟩
  · rename_i ops i is hr
    split at h
    · rename_i o ho
      rw [exGA_eq] at h
      exact exG_sound H W (by simp [curOp, hr, ho]) h hk
    · cases h
  · rename_i ops fuel lm rd i hr
    split at h
    · rename_i o ho
      rw [exGA_eq] at h
      exact exG_sound H W (by simp [curOp, hr, ho]) h hk
    · cases h
  · rename_i ops i is hr
    split at h
    · rename_i o ho
      exact exOp_sound H W (by simp [curOp, hr, ho]) h hk
    · cases h
  · rename_i ops fuel lm rd i hr
    split at h
    · rename_i o ho
      exact exOp_sound H W (by simp [curOp, hr, ho]) h hk
    · cases h
  · rename_i ops fuel lm rd hr
    have hI : IR β m.hp (rdsOf rd) w := fun k _ h hh => H.lies k h hh
    split at h
    · rename_i hrdy
      injection h with h; subst h
      have g := k0 w H W
      obtain ⟨r, todo, sl, hp⟩ := m
      cases hr
      intro hcl hlm hns
      have hno : ∀ i, i ∉ Region.ready .any ops (listedOf ops.size lm) := fun i hi => by
        rw [rdy_spec hlm, hrdy] at hi; cases hi
      have he : Region.ready .any ops (listedOf ops.size lm) = [] := List.eq_nil_iff_forall_not_mem.2 hno
      cases fuel with
      | zero => exact ⟨fun _ => hI, he, rfl, g⟩
      | succ f => exact ⟨fun _ => hI, fun _ => ⟨rfl, g⟩, fun i hi => absurd hi (hno i)⟩
    · rename_i i0 rs hrdy
      split at h
      · cases h
      · rename_i fuel
        split at h
        · rename_i i o v hft
          injection h with h; subst h
          obtain ⟨hi, ho, hv, hfree⟩ := findTakeA_spec hft
          obtain ⟨hi, hrb⟩ := List.mem_filter.1 hi
          have g := k0 w H (by
            simp only [SM.wf, Bool.and_eq_true]
            exact ⟨putS_wf (SM.wf_sl W) (takeV_wf W hv), SM.wf_hp W⟩)
          obtain ⟨r, todo, sl, hp⟩ := m
          cases hr
          intro hcl hlm hns
          have hyld := fun w' hI' => takeV_yields (m := ⟨.any ops (fuel + 1) lm rd, todo, sl, hp⟩) hv (w' := w') hI'
          have hil : i < ops.size := (Array.getElem?_eq_some_iff.1 ho).1
          have hready : i ∈ Region.ready .any ops (listedOf ops.size lm) := by rw [rdy_spec hlm, hrdy]; exact hi
          have hcl' : Closed .any ops (listedOf ops.size (setBit lm i)) := by rw [← listed_set hil]; exact hcl.set hready
          have g2 := g hcl' (hlm.set hil) hns
          have hap : ∀ j oj, ops[j]? = some oj → j ≠ i → (listedOf ops.size lm).getD j true = false → (∀ e ∈ oj.after, Region.binds .any e = true → e.on ≠ i) → o.apart ops oj = true := fun j oj hj hne hun hno => by
            refine freeL_spec ops.toList 0 hfree j oj (by simpa using hj) ?_ (by simpa using hne) hno
            rw [Nat.zero_add]; exact (listed_false.1 hun).2
          have g3 : wpAnyE P .any ops (QQ P f R todo) (IR β hp (rdsOf rd)) (esOf rd) fuel ((listedOf ops.size lm).setIfInBounds i true) ((fr n β sl).put o.dst (v.den β)) w := by
            rw [listed_set hil, fr_put]; exact g2
          unfold rdE at hyld
          cases hb : hitB ops lm rd with
          | true =>
            rw [hb] at hyld
            refine wpAnyE_hit _ _ _ _ (not_noE hb) ?_
            exact takeE (v := v.den β) ho (Region.noSelect_spec hns) (fun c a w hp => by cases hp.1) 0 (fun e he => by cases he) fuel _ _ w hcl (fun e he => by cases he) trivial hap hready (fun w' _ => hyld w' (fun k hk => by cases hk)) (wpAnyE_true _ _ _ _ g3)
          | false =>
            rw [hb] at hyld
            unfold reachB at hrb
            rw [hb, Bool.false_or] at hrb
            exact takeE (v := v.den β) ho (Region.noSelect_spec hns) (fun c a w hp => by cases hp.1) ops.size (fun e he => List.all_eq_true.1 hrb e he) fuel _ _ w hcl (noE_of hb) hI hap hready (fun w' hI' => hyld w' hI') g3
        · split at h
          · injection h with h; subst h
            have g := k0 w H W
            obtain ⟨r, todo, sl, hp⟩ := m
            cases hr
            intro hcl hlm hns
            have hready : i0 ∈ Region.ready .any ops (listedOf ops.size lm) := by rw [rdy_spec hlm, hrdy]; simp
            have hil : i0 < ops.size := by
              obtain ⟨_, o, ho, _⟩ := mem_ready.1 hready
              exact (Array.getElem?_eq_some_iff.1 ho).1
            refine ⟨fun _ => hI, fun he => (by rw [he] at hready; cases hready), fun j hj => ?_⟩
            rw [rdy_spec hlm, hrdy] at hj
            obtain rfl : j = i0 := by simpa using hj
            rw [listed_set hil]
            exact g (by rw [hrdy]; simp) hcl hlm hns
          · cases h
end
section
variable {P : Program} {f : FR} {R : Ending → World → Prop} {n : Nat} {β ν : List Nat} {m m' : SM} {w w0 : World} {L : List Nat}
theorem takeVA_app (hl : β.length = m.hp.length) (W : m.wf = true) (ops : Array Oper) (rd : List Nat) (o : Oper) : takeVA P n (β ++ ν) ops m.sl m.hp rd o = takeVA P n β ops m.sl m.hp rd o := by
  rw [takeVA_eq, takeVA_eq, takeV_app hl W]
theorem findTakeA_app (hl : β.length = m.hp.length) (W : m.wf = true) (ops : Array Oper) (lm : Nat) (rd : List Nat) : ∀ rs, findTakeA P n (β ++ ν) ops lm m.sl m.hp rd rs = findTakeA P n β ops lm m.sl m.hp rd rs
  | [] => rfl
  | i :: r => by
    simp only [findTakeA, takeVA_app hl W, findTakeA_app hl W ops lm rd r]
theorem oneStepA_app (hl : β.length = m.hp.length) (W : m.wf = true) : oneStepA P n (β ++ ν) m = oneStepA P n β m := by
  have hy : yieldV n (β ++ ν) m = yieldV n β m := by
    have hd : ∀ d, (m.sl.at d).den (β ++ ν) = (m.sl.at d).den β := fun d => SV.den_app ν (by rw [hl]; exact Slots.wf_at (SM.wf_sl W) d)
    simp only [yieldV, hd]
  have hg : byGuard n (β ++ ν) m = byGuard n β m := by simp only [byGuard, hy]
  simp only [oneStepA, exGA, hg, exOp_app hl W, findTakeA_app hl W]
/-- The blocks that were there are there, still. -/
theorem exOp_len {o : Oper} (h : exOp P n β m o = some m') : m.hp.length ≤ m'.hp.length := by
  unfold exOp at h
  split at h
  · cases h
  · split at h
    · injection h with h; subst h; exact Nat.le_refl _
    · split at h
      · split at h
        · split at h
          · injection h with h; subst h; exact Nat.le_refl _
          · cases h
        · cases h
      · split at h
        · rw [forceN_eq] at h
          injection h with h; subst h
          show m.hp.length ≤ (m.hp ++ _).length
          rw [List.length_append]; omega
        · split at h
          · injection h with h; subst h
            show m.hp.length ≤ (m.hp.set _ _).length
            rw [List.length_set]; exact Nat.le_refl _
          · cases h
        · cases h
end

/-! Slots that have been written anew are forgotten. -/
def prune (seen : Nat) : Slots → Slots
  | .vals f => .vals f
  | .dfr ds l => .dfr ds (prune seen l)
  | .put d v l => match Nat.testBit seen d with
    | true => prune seen l
    | false => .put d v (prune (seen ||| 2 ^ d) l)
theorem prune_at : ∀ (sl : Slots) (seen i : Nat), seen.testBit i = false → (prune seen sl).at i = sl.at i
  | .vals f, _, _, _ => rfl
  | .dfr _ l, seen, i, h => prune_at l seen i h
  | .put d v l, seen, i, h => by
    unfold prune
    rw [Slots.at_put]
    split
    · rename_i hd
      rw [if_neg (fun e => by subst e; rw [h] at hd; cases hd)]
      exact prune_at l seen i h
    · rename_i hd
      rw [Slots.at_put]
      split
      · rfl
      · rename_i hne
        refine prune_at l _ i ?_
        rw [Nat.testBit_or, h, Nat.testBit_two_pow]
        simp [Ne.symm hne]
theorem prune_ds : ∀ (sl : Slots) (seen : Nat), (prune seen sl).ds = sl.ds
  | .vals _, _ => rfl
  | .dfr _ _, _ => rfl
  | .put d v l, seen => by
    unfold prune
    split
    · exact prune_ds l seen
    · exact prune_ds l _
theorem prune_wf {m : Nat} : ∀ {sl : Slots} {seen : Nat}, sl.wf m = true → (prune seen sl).wf m = true
  | .vals _, _, _ => rfl
  | .dfr _ l, seen, h => prune_wf (sl := l) h
  | .put d v l, seen, h => by
    simp only [Slots.wf, Bool.and_eq_true] at h
    unfold prune
    split
    · exact prune_wf h.2
    · simp only [Slots.wf, Bool.and_eq_true]
      exact ⟨h.1, prune_wf h.2⟩
theorem fr_prune (n : Nat) (β : List Nat) (sl : Slots) : fr n β (prune 0 sl) = fr n β sl := by
  unfold fr
  rw [prune_ds]
  congr 2
  exact List.map_congr_left fun i _ => by rw [prune_at sl 0 i (Nat.zero_testBit i)]

/-! With the calls. -/
/-- A function that waits for a call that it made. -/
structure FRm where
  f : FuncId
  fn : Func
  m : SM
  lock : List Nat
/-- A state, with the functions that wait. -/
structure KS where
  st : List FRm
  f : FuncId
  fn : Func
  m : SM
  lock : List Nat
def KR (P : Program) (R0 : Ending → World → Prop) (w0 : World) (L β : List Nat) : List FRm → Ending → World → Prop
  | [] => R0
  | fr :: st => InR P fr.f (KR P R0 w0 L β st) fr.fn.ntmps w0 L (β.take fr.m.hp.length) fr.m
/-- What is said of the functions that wait: their names are old, what they hold is held. -/
def OkSt (P : Program) : List HB → List Nat → List FRm → Prop
  | _, _, [] => True
  | hp, lock, fr :: st => P.funcs[fr.f]? = some fr.fn ∧ fr.m.hp.length ≤ hp.length ∧ (∀ k ∈ rdOf fr.m ++ fr.lock, k ∈ lock ∧ ∀ h, fr.m.hp[k]? = some h → hp[k]? = some h) ∧ OkSt P fr.m.hp fr.lock st
theorem OkSt.mono {P : Program} {hp hp' : List HB} {lock : List Nat} (h : hp.length ≤ hp'.length) (hk : ∀ k ∈ lock, ∀ h, hp[k]? = some h → hp'[k]? = some h) : ∀ {st : List FRm}, OkSt P hp lock st → OkSt P hp' lock st
  | [], _ => trivial
  | _ :: _, ⟨h1, h2, h3, h4⟩ => ⟨h1, Nat.le_trans h2 h, fun k hm => ⟨(h3 k hm).1, fun b hb => hk k (h3 k hm).1 b ((h3 k hm).2 b hb)⟩, h4⟩
theorem KR_app {P : Program} {R0 : Ending → World → Prop} {w0 : World} {L β ν : List Nat} : ∀ {st : List FRm} {hp : List HB} {lock : List Nat}, OkSt P hp lock st → hp.length ≤ β.length → KR P R0 w0 L (β ++ ν) st = KR P R0 w0 L β st
  | [], _, _, _, _ => rfl
  | fr :: st, hp, _, ⟨_, h2, _, h4⟩, hl => by
    unfold KR
    rw [KR_app h4 (by omega), List.take_append_of_le_length (by omega)]
def HsK (P : Program) (R0 : Ending → World → Prop) (w0 : World) (L β : List Nat) (s : KS) : Prop := Hs P s.f (KR P R0 w0 L β s.st) s.fn.ntmps w0 L β s.m
/-- Is a slot a block's that the region makes? -/
def madeIn (t : Nat) : List Oper → Bool
  | [] => false
  | o :: l => match o.op with
    | .alloc _ => match o.dst with
      | some d => match Nat.beq d t with
        | true => true
        | false => madeIn t l
      | none => madeIn t l
    | _ => madeIn t l
/-- The stores of a region, but for those into blocks that it makes. -/
def marksK (all : List Oper) : List Oper → Nat → List Nat
  | [], _ => []
  | o :: l, i => match o.op with
    | .store _ (.tmp t) _ => match madeIn t all with
      | true => marksK all l (i + 1)
      | false => (1000 + i) :: marksK all l (i + 1)
    | _ => marksK all l (i + 1)
def rdK' (ops : Array Oper) (n : Nat) : List Nat := List.range (min n 999) ++ marksK ops.toList ops.toList 0
def condK (n : Nat) (m : SM) : Option SM := match m.r with
  | .no => match m.todo with
    | .code (.cond c x y) :: k => match litB (evS n m.sl c) with
      | some true => some ⟨.no, .code x :: k, m.sl, m.hp⟩
      | some false => some ⟨.no, .code y :: k, m.sl, m.hp⟩
      | none => none
    | .code (.loop c) :: k => some ⟨.no, .code c :: .inLoop c :: k, m.sl, m.hp⟩
    | .inLoop c :: k => some ⟨.no, .code c :: .inLoop c :: k, prune 0 m.sl, m.hp⟩
    | .code (.region _ ops true) :: k => match Region.noSelect ops with
      | true => some ⟨.any ops ops.size 0 (rdK' ops m.hp.length), k, m.sl, m.hp⟩
      | false => none
    | _ => none
  | _ => none
/-- A call of a function by its name: its number, what it is handed. -/
def goK (P : Program) (inl : List FuncId) (m : SM) (n : Nat) : Option (FuncId × Func × List SV) := match curOp m with
  | some o => match gOk m o with
    | true => match o.op with
      | .call c => match c.callee with
        | .value (.func F) => match inl.contains F with
          | true => match P.funcs[F]? with
            | some fn => some (F, fn, c.args.toList.map (evS n m.sl))
            | none => none
          | false => none
        | _ => none
      | _ => none
    | false => none
  | none => none
def okIn (P : Program) (inl : List FuncId) : Bool := inl.all fun F => match P.funcs[F]? with
  | some fn => fn.body.isSome && !(fn.name == "runtime.NumGoroutine")
  | none => false
/-- Two texts that are the same. -/
def eqL : List UInt8 → List UInt8 → Bool
  | [], [] => true
  | a :: l, b :: r => match Nat.beq a.toNat b.toNat with
    | true => eqL l r
    | false => false
  | _, _ => false
theorem eqL_eq : ∀ (l r : List UInt8), eqL l r = (l == r)
  | [], [] => rfl
  | [], _ :: _ => rfl
  | _ :: _, [] => rfl
  | a :: l, b :: r => by
    unfold eqL
    rw [List.cons_beq_cons]
    by_cases h : a = b
    · subst h
      rw [show Nat.beq a.toNat a.toNat = true from Nat.beq_refl _]
      simp only [BEq.rfl, Bool.true_and]
      exact eqL_eq l r
    · have h1 : Nat.beq a.toNat b.toNat = false := beq_false.2 fun e => h (UInt8.toNat_inj.1 e)
      have h2 : (a == b) = false := by simpa using h
      rw [h1, h2]
      rfl
/-- An element of a row. -/
def rowAt (P : Program) (T : TypeId) (cs : List SC) (i : SV) : Option SV := match P.underlying T with
  | some (.array len e) => match i with
    | .c (.v (.int _ (.ofNat j))) => match Nat.blt j len with
      | true => match szB P e with
        | some n => partS P e cs (j * n)
        | none => none
      | false => none
    | _ => none
  | _ => none
/-- Texts compared, rows indexed, a slice of a whole array. -/
def xV (P : Program) (n : Nat) (m : SM) (o : Oper) : Option SV := match o.op with
  | .binOp .eql _ x y _ => match evS n m.sl x with
    | .c (.v (.string a)) => match evS n m.sl y with
      | .c (.v (.string b)) => some (.c (.v (.bool (eqL a.data.toList b.data.toList))))
      | _ => none
    | _ => none
  | .binOp .neq _ x y _ => match evS n m.sl x with
    | .c (.v (.string a)) => match evS n m.sl y with
      | .c (.v (.string b)) => some (.c (.v (.bool (!eqL a.data.toList b.data.toList))))
      | _ => none
    | _ => none
  | .index T x i => match evS n m.sl x with
    | .g cs => rowAt P T cs (evS n m.sl i)
    | _ => none
  | .slice T x none none none => match evS n m.sl x with
    | .c (.p k off) => match P.underlying T with
      | some (.array len e) => match szB P e with
        | some _ => some (.c (.s k off len len))
        | none => none
      | _ => none
    | _ => none
  | _ => none
def strK (P : Program) (n : Nat) (m : SM) : Option SM := match curOp m with
  | some o => match gOk m o with
    | true => match xV P n m o with
      | some v => some (m.put o.dst v m.hp)
      | none => none
    | false => none
  | none => none
/-- Is what is stored not held by a function that waits? -/
def freeK (m : SM) (n : Nat) (lock : List Nat) : Bool := match lock with
  | [] => true
  | _ => match curOp m with
    | some o => match o.op with
      | .store _ x _ => match evS n m.sl x with
        | .c (.p k _) => !(lock.contains k)
        | _ => true
      | _ => true
    | none => true
def stepK (P : Program) (β : List Nat) (inl : List FuncId) (s : KS) : Option KS := match s.m.r with
  | .no => match condK s.fn.ntmps s.m with
    | some m' => some ⟨s.st, s.f, s.fn, m', s.lock⟩
    | none => match ctl s.m with
      | some m' => some ⟨s.st, s.f, s.fn, m', s.lock⟩
      | none => match s.st with
        | [] => none
        | fr :: st => match retS P s.fn s.fn.ntmps s.m with
          | some v => match v.wf s.m.hp.length with
            | true => some ⟨st, fr.f, fr.fn, fr.m.put (dstOf fr.m) v s.m.hp, fr.lock⟩
            | false => none
          | none => none
  | _ => match strK P s.fn.ntmps s.m with
   | some m' => some ⟨s.st, s.f, s.fn, m', s.lock⟩
   | none => match goK P inl s.m s.fn.ntmps with
    | some (F, fn, xs) => match Nat.ble xs.length fn.ntmps with
      | true => some ⟨⟨s.f, s.fn, s.m, s.lock⟩ :: s.st, F, fn, startM fn xs s.m.hp, rdOf s.m ++ s.lock⟩
      | false => none
    | none => match freeK s.m s.fn.ntmps s.lock with
      | true => match oneStepA P s.fn.ntmps β s.m with
        | some m' => some ⟨s.st, s.f, s.fn, m', s.lock⟩
        | none => none
      | false => none
def runK (P : Program) (β : List Nat) (inl : List FuncId) (k : Nat) : KS → KS :=
  Nat.rec (fun s => s) (fun _ ih s => match stepK P β inl s with | some s' => ih s' | none => s) k
section
variable {P : Program} {f : FuncId} {R R0 : Ending → World → Prop} {n : Nat} {β ν : List Nat} {m m' : SM} {w w0 : World} {L : List Nat} {inl : List FuncId} {s s' : KS}
theorem oneStepA_len (h : oneStepA P n β m = some m') : m.hp.length ≤ m'.hp.length := by
  have hg : ∀ {o : Oper}, exGA P n β m o = some m' → m.hp.length ≤ m'.hp.length := fun {o} h => by
    unfold exGA at h
    split at h
    · exact exOp_len h
    · unfold byGuard at h
      split at h
      · injection h with h; subst h; rw [wantM_hp]; exact Nat.le_refl _
      · injection h with h; subst h; rw [wantM_hp]; exact Nat.le_refl _
      · injection h with h; subst h; exact Nat.le_refl _
      · injection h with h; subst h; exact Nat.le_refl _
      · injection h with h; subst h; exact Nat.le_refl _
      · cases h
  unfold oneStepA at h
  split at h
  · rename_i hr
    unfold ctl at h
    split at h
    · injection h with h; subst h; exact Nat.le_refl _
    · injection h with h; subst h; exact Nat.le_refl _
    · injection h with h; subst h; exact Nat.le_refl _
    · injection h with h; subst h; exact Nat.le_refl _
    · injection h with h; subst h; exact Nat.le_refl _
    · injection h with h; subst h; exact Nat.le_refl _
    · injection h with h; subst h; exact Nat.le_refl _
    · split at h
      · injection h with h; subst h; exact Nat.le_refl _
      · cases h
    · injection h with h; subst h; exact Nat.le_refl _
    · cases h
  · injection h with h; subst h; exact Nat.le_refl _
  · split at h
    · exact hg h
    · cases h
  · split at h
    · exact hg h
    · cases h
  · split at h
    · exact exOp_len h
    · cases h
  · split at h
    · exact exOp_len h
    · cases h
  · split at h
    · injection h with h; subst h; exact Nat.le_refl _
    · split at h
      · cases h
      · split at h
        · injection h with h; subst h; exact Nat.le_refl _
        · split at h
          · injection h with h; subst h; exact Nat.le_refl _
          · cases h
theorem rowAt_run {T : TypeId} {cs : List SC} {i v : SV} (h : rowAt P T cs i = some v) (w : World) : (Instr.index T (.agg (dens β cs).toArray) (i.den β)).run P w = .ok (v.den β) w := by
  unfold rowAt at h
  split at h
  · rename_i len e hu
    split at h
    · rename_i kd j
      split at h
      · rename_i hlt
        split at h
        · rename_i n hn
          have hlt := Nat.le_of_ble_eq_true hlt
          have h1 : (0 : Int) ≤ Int.ofNat j ∧ Int.ofNat j < (len : Int) := ⟨by exact Int.natCast_nonneg j, by show (j : Int) < (len : Int); exact_mod_cast hlt⟩
          have hp := run_part_S (β := β) (w := w) h
          simp only [Instr.index, SV.den, SC.den, asIntOf, Sem.run_bind, Sem.run_pure, Result.andThen_ok, run_underlying hu w]
          rw [if_pos h1]
          simp only [Sem.run_bind, run_sizeB hn w, Result.andThen_ok]
          exact hp
        · cases h
      · cases h
    · cases h
  · cases h
theorem rowAt_wf {T : TypeId} {cs : List SC} {i v : SV} {k : Nat} (h : rowAt P T cs i = some v) (hw : cs.all (SC.wf k) = true) : v.wf k = true := by
  unfold rowAt at h
  split at h
  · split at h
    · split at h
      · split at h
        · exact partS_wf h hw
        · cases h
      · cases h
    · cases h
  · cases h
theorem xV_run {o : Oper} {v : SV} (W : m.wf = true) (h : xV P n m o = some v) (w : World) : (execOp (fun x => (evS n m.sl x).den β) o).run P w = .ok (.value (v.den β)) w ∧ v.wf m.hp.length = true := by
  unfold xV at h
  split at h
  · rename_i T x y ci ho
    split at h
    · rename_i a ha
      split at h
      · rename_i b hb
        injection h with h; subst h
        refine ⟨?_, rfl⟩
        have e : eqL a.data.toList b.data.toList = (a.toList == b.toList) := by rw [eqL_eq, ByteArray.toList_eq, ByteArray.toList_eq]
        rw [e]
        unfold execOp
        rw [ho]
        dsimp only
        rw [show (evS n m.sl x).den β = .string a by rw [ha]; rfl, show (evS n m.sl y).den β = .string b by rw [hb]; rfl]
        rfl
      · cases h
    · cases h
  · rename_i T x y ci ho
    split at h
    · rename_i a ha
      split at h
      · rename_i b hb
        injection h with h; subst h
        refine ⟨?_, rfl⟩
        have e : eqL a.data.toList b.data.toList = (a.toList == b.toList) := by rw [eqL_eq, ByteArray.toList_eq, ByteArray.toList_eq]
        rw [e]
        unfold execOp
        rw [ho]
        dsimp only
        rw [show (evS n m.sl x).den β = .string a by rw [ha]; rfl, show (evS n m.sl y).den β = .string b by rw [hb]; rfl]
        rfl
      · cases h
    · cases h
  · rename_i T x i ho
    split at h
    · rename_i cs hx
      refine ⟨?_, rowAt_wf h ?_⟩
      · unfold execOp
        rw [ho]
        dsimp only
        rw [show (evS n m.sl x).den β = .agg (dens β cs).toArray by rw [hx]; rfl]
        simp only [Sem.run_bind, rowAt_run h w, Result.andThen_ok, Sem.run_pure]
      · have := evS_wf W x (n := n)
        rw [hx] at this
        exact this
    · cases h
  · rename_i T x ho
    split at h
    · rename_i k off hx
      split at h
      · rename_i len e hu
        split at h
        · rename_i sz hsz
          injection h with h; subst h
          refine ⟨?_, ?_⟩
          · unfold execOp
            rw [ho]
            dsimp only
            rw [show (evS n m.sl x).den β = .pointer (some ⟨nm β k, off, none⟩) by rw [hx]; rfl]
            simp only [Option.map_none, Instr.sliceAt, Instr.sliceBounds, Instr.sureAddr, Sem.run_bind, run_underlying hu w, Result.andThen_ok, Sem.run_pure, run_sizeB hsz w, Nat.zero_mul, Nat.sub_zero]
            split <;> simp [Addr.add_mid, SV.den, SC.den]
          · have := evS_wf W x (n := n)
            rw [hx] at this
            exact this
        · cases h
      · cases h
    · cases h
  · cases h
theorem strK_sound {f : FR} (h : strK P n m = some m') (H : Mem w0 L β m.hp w) (W : m.wf = true) : m'.hp = m.hp ∧ m'.wf = true ∧ (Gs P f R n β m' w → Gs P f R n β m w) := by
  unfold strK at h
  split at h
  · rename_i o ho
    split at h
    · rename_i hg
      split at h
      · rename_i v hv
        injection h with h; subst h
        obtain ⟨hrun, hwf⟩ := xV_run (β := β) (P := P) W hv w
        refine ⟨rfl, ?_, fun g => Gs.val ho hg hrun g⟩
        simp only [SM.wf, SM.put, Bool.and_eq_true]
        exact ⟨putS_wf (SM.wf_sl W) hwf, SM.wf_hp W⟩
      · cases h
    · cases h
  · cases h
theorem exOp_keep {o : Oper} {lock : List Nat} (ho : curOp m = some o) (hfree : freeK m n lock = true) (h : exOp P n β m o = some m') : ∀ k ∈ lock, ∀ b, m.hp[k]? = some b → m'.hp[k]? = some b := fun k hk b hb => by
  unfold exOp at h
  split at h
  · cases h
  · split at h
    · injection h with h; subst h; exact hb
    · split at h
      · split at h
        · split at h
          · injection h with h; subst h; exact hb
          · cases h
        · cases h
      · split at h
        · rw [forceN_eq] at h
          injection h with h; subst h
          show (m.hp ++ _)[k]? = some b
          rw [List.getElem?_append_left (List.getElem?_eq_some_iff.1 hb).1]
          exact hb
        · rename_i k0 off T cs ds he
          split at h
          · injection h with h; subst h
            obtain ⟨t, x, y, h1, h2, h3, h4, h5, h6, h7⟩ := seff_store_spec he
            have hne : k0 ≠ k := fun e => by
              subst e
              unfold freeK at hfree
              split at hfree
              · cases hk
              · rw [ho] at hfree
                dsimp only at hfree
                rw [h1] at hfree
                dsimp only at hfree
                rw [h2] at hfree
                simp only [Bool.not_eq_true'] at hfree
                have := List.contains_iff_mem.2 hk
                rw [this] at hfree
                cases hfree
            show (m.hp.set k0 _)[k]? = some b
            rw [List.getElem?_set_ne hne]
            exact hb
          · cases h
        · cases h
theorem oneStepA_keep {lock : List Nat} (hfree : freeK m n lock = true) (h : oneStepA P n β m = some m') : ∀ k ∈ lock, ∀ b, m.hp[k]? = some b → m'.hp[k]? = some b := fun k hk b hb => by
  have hg : ∀ {o : Oper}, curOp m = some o → exGA P n β m o = some m' → m'.hp[k]? = some b := fun {o} ho h => by
    unfold exGA at h
    split at h
    · exact exOp_keep ho hfree h k hk b hb
    · unfold byGuard at h
      split at h
      · injection h with h; subst h; rw [wantM_hp]; exact hb
      · injection h with h; subst h; rw [wantM_hp]; exact hb
      · injection h with h; subst h; exact hb
      · injection h with h; subst h; exact hb
      · injection h with h; subst h; exact hb
      · cases h
  unfold oneStepA at h
  split at h
  · rename_i hr
    unfold ctl at h
    split at h
    · injection h with h; subst h; exact hb
    · injection h with h; subst h; exact hb
    · injection h with h; subst h; exact hb
    · injection h with h; subst h; exact hb
    · injection h with h; subst h; exact hb
    · injection h with h; subst h; exact hb
    · injection h with h; subst h; exact hb
    · split at h
      · injection h with h; subst h; exact hb
      · cases h
    · injection h with h; subst h; exact hb
    · cases h
  · injection h with h; subst h; exact hb
  · rename_i hr
    split at h
    · rename_i o ho
      exact hg (by simp [curOp, hr, ho]) h
    · cases h
  · rename_i hr
    split at h
    · rename_i o ho
      exact hg (by simp [curOp, hr, ho]) h
    · cases h
  · rename_i hr
    split at h
    · rename_i o ho
      exact exOp_keep (by simp [curOp, hr, ho]) hfree h k hk b hb
    · cases h
  · rename_i hr
    split at h
    · rename_i o ho
      exact exOp_keep (by simp [curOp, hr, ho]) hfree h k hk b hb
    · cases h
  · split at h
    · injection h with h; subst h; exact hb
    · split at h
      · cases h
      · split at h
        · injection h with h; subst h; exact hb
        · split at h
          · injection h with h; subst h; exact hb
          · cases h
/-- Back into the caller; what it holds is held. -/
theorem Hs.retJ {F : FuncId} {fn : Func} {n0 : Nat} {β0 : List Nat} {m0 : SM} (hf : P.funcs[F]? = some fn) (hr : ((retS P fn n m).isSome && ((resOf P fn n m).wf m.hp.length && Nat.ble m0.hp.length m.hp.length)) = true) (hβ : β = β0 ++ β.drop β0.length)
    (hrd : ∀ k ∈ rdOf m0, ∀ h, m0.hp[k]? = some h → m.hp[k]? = some h) (h : Hs P f R n0 w0 L β (m0.put (dstOf m0) (resOf P fn n m) m.hp)) : Hs P F (InR P f R n0 w0 L β0 m0) n w0 L β m := by
  simp only [Bool.and_eq_true] at hr
  obtain ⟨h1, h2, h3⟩ := hr
  obtain ⟨v, hv⟩ := Option.isSome_iff_exists.1 h1
  have e : resOf P fn n m = v := by unfold resOf; rw [hv]; rfl
  rw [e] at h h2
  refine ⟨fun w H W => ?_⟩
  refine (Hs.ret hf (retS_of hv) (fun w' H' => ?_)).go w H W
  refine ⟨β.drop β0.length, v, m.hp, by rw [← hβ], by rw [← hβ]; exact H', ?_, hrd, by rw [← hβ]; exact h⟩
  rw [h2, h3, SM.wf_hp W]; rfl
theorem slotsOf_wf {k : Nat} : ∀ {xs : List SV} {i : Nat}, (∀ x ∈ xs, x.wf k = true) → (slotsOf xs i).wf k = true
  | [], _, _ => rfl
  | x :: l, i, h => by
    simp only [slotsOf, Slots.wf, Bool.and_eq_true]
    exact ⟨h x List.mem_cons_self, slotsOf_wf fun y hy => h y (List.mem_cons_of_mem _ hy)⟩
theorem goK_spec {F : FuncId} {fn : Func} {xs : List SV} (hin : okIn P inl = true) (h : goK P inl m n = some (F, fn, xs)) : callOf P n β m = some (F, (xs.map (SV.den β)).toArray) ∧ P.funcs[F]? = some fn ∧ fn.body.isSome = true ∧ (m.wf = true → ∀ x ∈ xs, x.wf m.hp.length = true) := by
  unfold goK at h
  split at h
  · rename_i o ho
    split at h
    · rename_i hg
      split at h
      · rename_i c hc
        split at h
        · rename_i F' hcal
          split at h
          · rename_i hcon
            split at h
            · rename_i fn' hF
              injection h with h
              injection h with h1 h2
              injection h2 with h2 h3
              subst h1; subst h2; subst h3
              have hok := List.all_eq_true.1 hin F' (by simpa using hcon)
              rw [hF] at hok
              simp only [Bool.and_eq_true, Bool.not_eq_true'] at hok
              refine ⟨?_, hF, hok.1, fun W x hx => ?_⟩
              · unfold callOf
                rw [ho]
                dsimp only
                rw [hg]
                dsimp only
                have hb : fn'.body.isNone = false := by
                  cases hbb : fn'.body with
                  | none => rw [hbb] at hok; cases hok.1
                  | some _ => rfl
                have e : pureOut P (execOp (fun x => (evS n m.sl x).den β) o) = some (.enter F' ((c.args.toList.map (evS n m.sl)).map (SV.den β)).toArray) := by
                  unfold execOp
                  rw [hc]
                  dsimp only
                  unfold resolve
                  rw [hcal]
                  dsimp only
                  have ev : (evS n m.sl (.func F')).den β = .func (.func F') #[] #[] := rfl
                  rw [ev]
                  show pureOut P (invoke (.fn (.func F') #[]) (#[] ++ c.args.map fun x => (evS n m.sl x).den β)) = _
                  unfold invoke
                  dsimp only
                  have hprog : ∀ (k : Program → Sem Next), pureOut P (program >>= k) = pureOut P (k P) := fun k => rfl
                  unfold callFunc
                  rw [hprog]
                  rw [hF]
                  dsimp only
                  rw [hok.2, hb]
                  simp only [Bool.false_eq_true, if_false]
                  show some (Next.enter F' _) = _
                  congr 2
                  apply Array.ext'
                  simp [Function.comp_def]
                rw [e]
              · obtain ⟨y, _, rfl⟩ := List.mem_map.1 hx
                exact evS_wf W y
            · cases h
          · cases h
        · cases h
      · cases h
    · cases h
  · cases h
theorem condK_hp (h : condK n m = some m') : m'.hp = m.hp := by
  unfold condK at h
  split at h
  · split at h
    · split at h
      · injection h with h; subst h; rfl
      · injection h with h; subst h; rfl
      · cases h
    · injection h with h; subst h; rfl
    · injection h with h; subst h; rfl
    · split at h
      · injection h with h; subst h; rfl
      · cases h
    · cases h
  · cases h
theorem condK_sound (hfol : P.follows .mixedOrders = true) (h : condK n m = some m') (k : Hs P f R n w0 L β m') : Hs P f R n w0 L β m := by
  obtain ⟨r, todo, sl, hp⟩ := m
  unfold condK at h
  dsimp only at h
  split at h
  · split at h
    · rename_i c x y t
      split at h
      · rename_i hl
        injection h with h; subst h
        exact Hs.cond true (by show some ((evS n sl c).den β) = _; rw [litB_spec hl]) (fun _ => k) (fun h => by cases h)
      · rename_i hl
        injection h with h; subst h
        exact Hs.cond false (by show some ((evS n sl c).den β) = _; rw [litB_spec hl]) (fun h => by cases h) (fun _ => k)
      · cases h
    · injection h with h; subst h
      exact Hs.loop rfl k
    · rename_i c t
      injection h with h; subst h
      refine Hs.loop rfl ⟨fun w H W => ?_⟩
      have g := k.go w H (by
        simp only [SM.wf, Bool.and_eq_true] at W ⊢
        exact ⟨prune_wf W.1, W.2⟩)
      show Goes P f R _ (fr n β sl) w
      have g' : Goes P f R (.code c :: .inLoop c :: t) (fr n β (prune 0 sl)) w := g
      rw [fr_prune] at g'
      exact g'
    · rename_i id ops t
      split at h
      · rename_i hns
        injection h with h; subst h
        have e : anyOf (rdK' ops hp.length) ⟨.no, .code (.region id ops true) :: t, sl, hp⟩ = some ⟨.any ops ops.size 0 (rdK' ops hp.length), t, sl, hp⟩ := by
          unfold anyOf
          dsimp only
          rw [hns]
        refine Hs.any (rdK' ops hp.length) (by rw [hfol, e]; rfl) ?_
        unfold anyM
        rw [e]
        exact k
      · cases h
    · cases h
  · cases h
theorem stepK_app (hl : β.length = s.m.hp.length) (W : s.m.wf = true) : stepK P (β ++ ν) inl s = stepK P β inl s := by
  unfold stepK
  rw [oneStepA_app hl W]
theorem runK_sound (hfol : P.follows .mixedOrders = true) (hin : okIn P inl = true) : ∀ (k : Nat) (β : List Nat) (s : KS), P.funcs[s.f]? = some s.fn → OkSt P s.m.hp s.lock s.st → (∀ ν, HsK P R0 w0 L (β ++ ν) (runK P (β ++ ν) inl k s)) → HsK P R0 w0 L β s
  | 0, β, s, _, _, h => by
    have := h []
    rw [List.append_nil] at this
    exact this
  | k + 1, β, s, hf, O, h => by
    refine ⟨fun w H W => ?_⟩
    have hl := H.len
    cases hs : stepK P β inl s with
    | none =>
      have h0 := h []
      rw [List.append_nil] at h0
      have e : runK P β inl (k + 1) s = s := by
        show (match stepK P β inl s with | some s' => runK P β inl k s' | none => s) = s
        rw [hs]
      rw [e] at h0
      exact h0.go w H W
    | some s' =>
      have h' : ∀ ν, HsK P R0 w0 L (β ++ ν) (runK P (β ++ ν) inl k s') := fun ν => by
        have h0 := h ν
        have e : runK P (β ++ ν) inl (k + 1) s = runK P (β ++ ν) inl k s' := by
          show (match stepK P (β ++ ν) inl s with | some s' => runK P (β ++ ν) inl k s' | none => s) = _
          rw [stepK_app hl W, hs]
        rw [e] at h0
        exact h0
      have ih := runK_sound hfol hin k
      unfold stepK at hs
      split at hs
      · rename_i hr
        split at hs
        · rename_i m' hc
          injection hs with hs; subst hs
          refine (condK_sound hfol hc ?_).go w H W
          exact ih β ⟨s.st, s.f, s.fn, m', s.lock⟩ hf (by rw [condK_hp hc]; exact O) h'
        · split at hs
          · rename_i m' hc
            injection hs with hs; subst hs
            obtain ⟨h1, h2, h3⟩ := ctl_sound (f := s.f) (R := KR P R0 w0 L β s.st) (n := s.fn.ntmps) (β := β) (w := w) W hr hc
            exact h3 ((ih β ⟨s.st, s.f, s.fn, m', s.lock⟩ hf (by rw [h1]; exact O) h').go w (by rw [h1]; exact H) h2)
          · split at hs
            · cases hs
            · rename_i fr st hst
              split at hs
              · rename_i v hv
                split at hs
                · rename_i hwf
                  injection hs with hs; subst hs
                  rw [hst] at O ⊢
                  obtain ⟨g1, g2, g3, g4⟩ := O
                  have er : resOf P s.fn s.fn.ntmps s.m = v := by unfold resOf; rw [hv]; rfl
                  have key : Hs P fr.f (KR P R0 w0 L β st) fr.fn.ntmps w0 L β (fr.m.put (dstOf fr.m) (resOf P s.fn s.fn.ntmps s.m) s.m.hp) := by
                    rw [er]
                    exact ih β ⟨st, fr.f, fr.fn, fr.m.put (dstOf fr.m) v s.m.hp, fr.lock⟩ g1 (g4.mono g2 fun k hk => (g3 k (by simp [hk])).2) h'
                  have hq : fr.m.hp.length ≤ β.length := by omega
                  refine (Hs.retJ (n := s.fn.ntmps) (f := fr.f) (R := KR P R0 w0 L β st) (n0 := fr.fn.ntmps) (β0 := β.take fr.m.hp.length) (m0 := fr.m) hf ?_ ?_ ?_ key).go w H W
                  · rw [hv, er, hwf]
                    simp only [Option.isSome_some, Bool.true_and, Nat.ble_eq]
                    exact g2
                  · rw [List.length_take, Nat.min_eq_left hq, List.take_append_drop]
                  · exact fun k hk => (g3 k (by simp [hk])).2
                · cases hs
              · cases hs
      · split at hs
        · rename_i m' hc
          injection hs with hs; subst hs
          obtain ⟨h1, h2, h3⟩ := strK_sound (P := P) (f := s.f) (R := KR P R0 w0 L β s.st) hc H W
          exact h3 ((ih β ⟨s.st, s.f, s.fn, m', s.lock⟩ hf (by rw [h1]; exact O) h').go w (by rw [h1]; exact H) h2)
        split at hs
        · rename_i F fn xs hgo
          split at hs
          · rename_i hle
            injection hs with hs; subst hs
            obtain ⟨c1, c2, c3, c4⟩ := goK_spec (β := β) hin hgo
            refine (Hs.inl c2 xs c1 ?_ ?_).go w H W
            · simp only [hle, c3, Bool.true_and]
              simp only [startM, SM.wf, Bool.and_eq_true]
              exact ⟨slotsOf_wf (c4 W), SM.wf_hp W⟩
            · have := ih β ⟨⟨s.f, s.fn, s.m, s.lock⟩ :: s.st, F, fn, startM fn xs s.m.hp, rdOf s.m ++ s.lock⟩ c2 ⟨hf, Nat.le_refl _, fun k hk => ⟨hk, fun b hb => hb⟩, O⟩ h'
              unfold HsK KR at this
              dsimp only at this
              rw [List.take_of_length_le (by omega)] at this
              exact this
          · cases hs
        · split at hs
          · rename_i hfree
            split at hs
            · rename_i m' hstep
              injection hs with hs; subst hs
              have hlen := oneStepA_len hstep
              have hkeep := oneStepA_keep hfree hstep
              refine oneStepA_sound H W hstep fun ν w' H' W' => ?_
              have := (ih (β ++ ν) ⟨s.st, s.f, s.fn, m', s.lock⟩ hf (O.mono hlen hkeep) (fun ν' => by
                rw [List.append_assoc]
                exact h' (ν ++ ν'))).go w' H' W'
              rw [KR_app O (by omega)] at this
              exact this
            · cases hs
          · cases hs
/-- A run with its calls, back from all of them. -/
theorem Hs.runK (inl : List FuncId) (k j : Nat) {fn : Func} (hf : P.funcs[f]? = some fn) (hn : fn.ntmps = n) (hin : (P.follows .mixedOrders && okIn P inl) = true) (hj : ∀ ν, Nat.beq (Go.Proofs.YtmmcamkmglpgiaaGreatDoor.runK P (β ++ ν) inl k ⟨[], f, fn, m, []⟩).m.hp.length (β.length + j) = true) (he : ∀ ν, Go.Proofs.YtmmcamkmglpgiaaGreatDoor.runK P (β ++ ν) inl k ⟨[], f, fn, m, []⟩ = ⟨[], f, fn, (Go.Proofs.YtmmcamkmglpgiaaGreatDoor.runK P (β ++ ν) inl k ⟨[], f, fn, m, []⟩).m, []⟩) (h : ∀ ν : List Nat, ν.length = j → Hs P f R n w0 L (β ++ ν) (Go.Proofs.YtmmcamkmglpgiaaGreatDoor.runK P (β ++ ν) inl k ⟨[], f, fn, m, []⟩).m) : Hs P f R n w0 L β m := by
  simp only [Bool.and_eq_true] at hin
  subst hn
  refine runK_sound (R0 := R) (w0 := w0) (L := L) hin.1 hin.2 k β ⟨[], f, fn, m, []⟩ hf trivial fun ν => ?_
  have hl := Nat.eq_of_beq_eq_true (hj ν)
  rw [he ν]
  refine ⟨fun w H W => ?_⟩
  have e : ν.length = j := by
    have := H.len
    dsimp only at this
    rw [hl, List.length_append] at this
    omega
  exact (h ν e).go w H W
end
end Go.Proofs.YtmmcamkmglpgiaaGreatDoor

namespace Go.Proofs.YtmmcamkmglpgiaaGreatDoor
set_option linter.all false
set_option maxRecDepth 100000
open Go.RowKit

/-- All signals' names, by their numbers. -/
def sigL : List ByteArray := [⟨#[]⟩, ⟨#[72, 85, 80]⟩, ⟨#[73, 78, 84]⟩, ⟨#[81, 85, 73, 84]⟩, ⟨#[73, 76, 76]⟩, ⟨#[84, 82, 65, 80]⟩, ⟨#[65, 66, 82, 84]⟩, ⟨#[66, 85, 83]⟩, ⟨#[70, 80, 69]⟩, ⟨#[75, 73, 76, 76]⟩, ⟨#[85, 83, 82, 49]⟩, ⟨#[83, 69, 71, 86]⟩, ⟨#[85, 83, 82, 50]⟩, ⟨#[80, 73, 80, 69]⟩, ⟨#[65, 76, 82, 77]⟩, ⟨#[84, 69, 82, 77]⟩, ⟨#[]⟩, ⟨#[67, 72, 76, 68]⟩, ⟨#[67, 79, 78, 84]⟩, ⟨#[83, 84, 79, 80]⟩, ⟨#[84, 83, 84, 80]⟩, ⟨#[84, 84, 73, 78]⟩, ⟨#[84, 84, 79, 85]⟩, ⟨#[]⟩, ⟨#[]⟩, ⟨#[]⟩, ⟨#[]⟩, ⟨#[]⟩, ⟨#[87, 73, 78, 67, 72]⟩]
def nameS (n : Int) : ByteArray := (sigL[n.toNat]?).getD ⟨#[]⟩
/-- Is there such a signal? -/
def isS (n : Int) : Bool := (decide (1 ≤ n) && decide (n ≤ 15)) || ((decide (17 ≤ n) && decide (n ≤ 22)) || decide (n = 28))
def wireS (n : Int) : Bool := isS n && (decide (n ≤ 15) && (decide (n ≠ 5) && decide (n ≠ 7)))
theorem c28 {n : Int} (h1 : 1 ≤ n) (h2 : n ≤ 28) : n = 1 ∨ n = 2 ∨ n = 3 ∨ n = 4 ∨ n = 5 ∨ n = 6 ∨ n = 7 ∨ n = 8 ∨ n = 9 ∨ n = 10 ∨ n = 11 ∨ n = 12 ∨ n = 13 ∨ n = 14 ∨ n = 15 ∨ n = 16 ∨ n = 17 ∨ n = 18 ∨ n = 19 ∨ n = 20 ∨ n = 21 ∨ n = 22 ∨ n = 23 ∨ n = 24 ∨ n = 25 ∨ n = 26 ∨ n = 27 ∨ n = 28 := by omega
theorem isS_out {n : Int} (h : ¬ (1 ≤ n ∧ n ≤ 28)) : isS n = false := by
  unfold isS
  simp only [Bool.or_eq_false_iff, Bool.and_eq_false_iff, decide_eq_false_iff_not]
  omega
theorem is_any18 (n : Int) (w : World) : Calls Tryz.prog 112 #[.int .i64 n] w fun e w' => e = .returned (.bool (isS n)) ∧ Only [] w w' := by
  by_cases h : 1 ≤ n ∧ n ≤ 28
  · rcases c28 h.1 h.2 with  rfl | rfl | rfl | rfl | rfl | rfl | rfl | rfl | rfl | rfl | rfl | rfl | rfl | rfl | rfl | rfl | rfl | rfl | rfl | rfl | rfl | rfl | rfl | rfl | rfl | rfl | rfl | rfl 
    · refine Hs.enter Tryz.func112 [] [] [] [.c (.v (.int .i64 1))] (Mem.start0 w) (by kernel_rfl) (by kernel_rfl) ?_
      refine Hs.runK [131] 1000 1 Tryz.func112 rfl (by kernel_rfl) (fun ν => by kernel_rfl) (fun ν => by kernel_rfl) fun ν hν => ?_
      exact Hs.ret (v := (.bool (isS 1))) Tryz.func112 (by kernel_rfl) fun w' H => ⟨rfl, H.only⟩
    · refine Hs.enter Tryz.func112 [] [] [] [.c (.v (.int .i64 2))] (Mem.start0 w) (by kernel_rfl) (by kernel_rfl) ?_
      refine Hs.runK [131] 1000 1 Tryz.func112 rfl (by kernel_rfl) (fun ν => by kernel_rfl) (fun ν => by kernel_rfl) fun ν hν => ?_
      exact Hs.ret (v := (.bool (isS 2))) Tryz.func112 (by kernel_rfl) fun w' H => ⟨rfl, H.only⟩
    · refine Hs.enter Tryz.func112 [] [] [] [.c (.v (.int .i64 3))] (Mem.start0 w) (by kernel_rfl) (by kernel_rfl) ?_
      refine Hs.runK [131] 1000 1 Tryz.func112 rfl (by kernel_rfl) (fun ν => by kernel_rfl) (fun ν => by kernel_rfl) fun ν hν => ?_
      exact Hs.ret (v := (.bool (isS 3))) Tryz.func112 (by kernel_rfl) fun w' H => ⟨rfl, H.only⟩
    · refine Hs.enter Tryz.func112 [] [] [] [.c (.v (.int .i64 4))] (Mem.start0 w) (by kernel_rfl) (by kernel_rfl) ?_
      refine Hs.runK [131] 1000 1 Tryz.func112 rfl (by kernel_rfl) (fun ν => by kernel_rfl) (fun ν => by kernel_rfl) fun ν hν => ?_
      exact Hs.ret (v := (.bool (isS 4))) Tryz.func112 (by kernel_rfl) fun w' H => ⟨rfl, H.only⟩
    · refine Hs.enter Tryz.func112 [] [] [] [.c (.v (.int .i64 5))] (Mem.start0 w) (by kernel_rfl) (by kernel_rfl) ?_
      refine Hs.runK [131] 1000 1 Tryz.func112 rfl (by kernel_rfl) (fun ν => by kernel_rfl) (fun ν => by kernel_rfl) fun ν hν => ?_
      exact Hs.ret (v := (.bool (isS 5))) Tryz.func112 (by kernel_rfl) fun w' H => ⟨rfl, H.only⟩
    · refine Hs.enter Tryz.func112 [] [] [] [.c (.v (.int .i64 6))] (Mem.start0 w) (by kernel_rfl) (by kernel_rfl) ?_
      refine Hs.runK [131] 1000 1 Tryz.func112 rfl (by kernel_rfl) (fun ν => by kernel_rfl) (fun ν => by kernel_rfl) fun ν hν => ?_
      exact Hs.ret (v := (.bool (isS 6))) Tryz.func112 (by kernel_rfl) fun w' H => ⟨rfl, H.only⟩
    · refine Hs.enter Tryz.func112 [] [] [] [.c (.v (.int .i64 7))] (Mem.start0 w) (by kernel_rfl) (by kernel_rfl) ?_
      refine Hs.runK [131] 1000 1 Tryz.func112 rfl (by kernel_rfl) (fun ν => by kernel_rfl) (fun ν => by kernel_rfl) fun ν hν => ?_
      exact Hs.ret (v := (.bool (isS 7))) Tryz.func112 (by kernel_rfl) fun w' H => ⟨rfl, H.only⟩
    · refine Hs.enter Tryz.func112 [] [] [] [.c (.v (.int .i64 8))] (Mem.start0 w) (by kernel_rfl) (by kernel_rfl) ?_
      refine Hs.runK [131] 1000 1 Tryz.func112 rfl (by kernel_rfl) (fun ν => by kernel_rfl) (fun ν => by kernel_rfl) fun ν hν => ?_
      exact Hs.ret (v := (.bool (isS 8))) Tryz.func112 (by kernel_rfl) fun w' H => ⟨rfl, H.only⟩
    · refine Hs.enter Tryz.func112 [] [] [] [.c (.v (.int .i64 9))] (Mem.start0 w) (by kernel_rfl) (by kernel_rfl) ?_
      refine Hs.runK [131] 1000 1 Tryz.func112 rfl (by kernel_rfl) (fun ν => by kernel_rfl) (fun ν => by kernel_rfl) fun ν hν => ?_
      exact Hs.ret (v := (.bool (isS 9))) Tryz.func112 (by kernel_rfl) fun w' H => ⟨rfl, H.only⟩
    · refine Hs.enter Tryz.func112 [] [] [] [.c (.v (.int .i64 10))] (Mem.start0 w) (by kernel_rfl) (by kernel_rfl) ?_
      refine Hs.runK [131] 1000 1 Tryz.func112 rfl (by kernel_rfl) (fun ν => by kernel_rfl) (fun ν => by kernel_rfl) fun ν hν => ?_
      exact Hs.ret (v := (.bool (isS 10))) Tryz.func112 (by kernel_rfl) fun w' H => ⟨rfl, H.only⟩
    · refine Hs.enter Tryz.func112 [] [] [] [.c (.v (.int .i64 11))] (Mem.start0 w) (by kernel_rfl) (by kernel_rfl) ?_
      refine Hs.runK [131] 1000 1 Tryz.func112 rfl (by kernel_rfl) (fun ν => by kernel_rfl) (fun ν => by kernel_rfl) fun ν hν => ?_
      exact Hs.ret (v := (.bool (isS 11))) Tryz.func112 (by kernel_rfl) fun w' H => ⟨rfl, H.only⟩
    · refine Hs.enter Tryz.func112 [] [] [] [.c (.v (.int .i64 12))] (Mem.start0 w) (by kernel_rfl) (by kernel_rfl) ?_
      refine Hs.runK [131] 1000 1 Tryz.func112 rfl (by kernel_rfl) (fun ν => by kernel_rfl) (fun ν => by kernel_rfl) fun ν hν => ?_
      exact Hs.ret (v := (.bool (isS 12))) Tryz.func112 (by kernel_rfl) fun w' H => ⟨rfl, H.only⟩
    · refine Hs.enter Tryz.func112 [] [] [] [.c (.v (.int .i64 13))] (Mem.start0 w) (by kernel_rfl) (by kernel_rfl) ?_
      refine Hs.runK [131] 1000 1 Tryz.func112 rfl (by kernel_rfl) (fun ν => by kernel_rfl) (fun ν => by kernel_rfl) fun ν hν => ?_
      exact Hs.ret (v := (.bool (isS 13))) Tryz.func112 (by kernel_rfl) fun w' H => ⟨rfl, H.only⟩
    · refine Hs.enter Tryz.func112 [] [] [] [.c (.v (.int .i64 14))] (Mem.start0 w) (by kernel_rfl) (by kernel_rfl) ?_
      refine Hs.runK [131] 1000 1 Tryz.func112 rfl (by kernel_rfl) (fun ν => by kernel_rfl) (fun ν => by kernel_rfl) fun ν hν => ?_
      exact Hs.ret (v := (.bool (isS 14))) Tryz.func112 (by kernel_rfl) fun w' H => ⟨rfl, H.only⟩
    · refine Hs.enter Tryz.func112 [] [] [] [.c (.v (.int .i64 15))] (Mem.start0 w) (by kernel_rfl) (by kernel_rfl) ?_
      refine Hs.runK [131] 1000 1 Tryz.func112 rfl (by kernel_rfl) (fun ν => by kernel_rfl) (fun ν => by kernel_rfl) fun ν hν => ?_
      exact Hs.ret (v := (.bool (isS 15))) Tryz.func112 (by kernel_rfl) fun w' H => ⟨rfl, H.only⟩
    · refine Hs.enter Tryz.func112 [] [] [] [.c (.v (.int .i64 16))] (Mem.start0 w) (by kernel_rfl) (by kernel_rfl) ?_
      refine Hs.runK [131] 1000 1 Tryz.func112 rfl (by kernel_rfl) (fun ν => by kernel_rfl) (fun ν => by kernel_rfl) fun ν hν => ?_
      exact Hs.ret (v := (.bool (isS 16))) Tryz.func112 (by kernel_rfl) fun w' H => ⟨rfl, H.only⟩
    · refine Hs.enter Tryz.func112 [] [] [] [.c (.v (.int .i64 17))] (Mem.start0 w) (by kernel_rfl) (by kernel_rfl) ?_
      refine Hs.runK [131] 1000 1 Tryz.func112 rfl (by kernel_rfl) (fun ν => by kernel_rfl) (fun ν => by kernel_rfl) fun ν hν => ?_
      exact Hs.ret (v := (.bool (isS 17))) Tryz.func112 (by kernel_rfl) fun w' H => ⟨rfl, H.only⟩
    · refine Hs.enter Tryz.func112 [] [] [] [.c (.v (.int .i64 18))] (Mem.start0 w) (by kernel_rfl) (by kernel_rfl) ?_
      refine Hs.runK [131] 1000 1 Tryz.func112 rfl (by kernel_rfl) (fun ν => by kernel_rfl) (fun ν => by kernel_rfl) fun ν hν => ?_
      exact Hs.ret (v := (.bool (isS 18))) Tryz.func112 (by kernel_rfl) fun w' H => ⟨rfl, H.only⟩
    · refine Hs.enter Tryz.func112 [] [] [] [.c (.v (.int .i64 19))] (Mem.start0 w) (by kernel_rfl) (by kernel_rfl) ?_
      refine Hs.runK [131] 1000 1 Tryz.func112 rfl (by kernel_rfl) (fun ν => by kernel_rfl) (fun ν => by kernel_rfl) fun ν hν => ?_
      exact Hs.ret (v := (.bool (isS 19))) Tryz.func112 (by kernel_rfl) fun w' H => ⟨rfl, H.only⟩
    · refine Hs.enter Tryz.func112 [] [] [] [.c (.v (.int .i64 20))] (Mem.start0 w) (by kernel_rfl) (by kernel_rfl) ?_
      refine Hs.runK [131] 1000 1 Tryz.func112 rfl (by kernel_rfl) (fun ν => by kernel_rfl) (fun ν => by kernel_rfl) fun ν hν => ?_
      exact Hs.ret (v := (.bool (isS 20))) Tryz.func112 (by kernel_rfl) fun w' H => ⟨rfl, H.only⟩
    · refine Hs.enter Tryz.func112 [] [] [] [.c (.v (.int .i64 21))] (Mem.start0 w) (by kernel_rfl) (by kernel_rfl) ?_
      refine Hs.runK [131] 1000 1 Tryz.func112 rfl (by kernel_rfl) (fun ν => by kernel_rfl) (fun ν => by kernel_rfl) fun ν hν => ?_
      exact Hs.ret (v := (.bool (isS 21))) Tryz.func112 (by kernel_rfl) fun w' H => ⟨rfl, H.only⟩
    · refine Hs.enter Tryz.func112 [] [] [] [.c (.v (.int .i64 22))] (Mem.start0 w) (by kernel_rfl) (by kernel_rfl) ?_
      refine Hs.runK [131] 1000 1 Tryz.func112 rfl (by kernel_rfl) (fun ν => by kernel_rfl) (fun ν => by kernel_rfl) fun ν hν => ?_
      exact Hs.ret (v := (.bool (isS 22))) Tryz.func112 (by kernel_rfl) fun w' H => ⟨rfl, H.only⟩
    · refine Hs.enter Tryz.func112 [] [] [] [.c (.v (.int .i64 23))] (Mem.start0 w) (by kernel_rfl) (by kernel_rfl) ?_
      refine Hs.runK [131] 1000 1 Tryz.func112 rfl (by kernel_rfl) (fun ν => by kernel_rfl) (fun ν => by kernel_rfl) fun ν hν => ?_
      exact Hs.ret (v := (.bool (isS 23))) Tryz.func112 (by kernel_rfl) fun w' H => ⟨rfl, H.only⟩
    · refine Hs.enter Tryz.func112 [] [] [] [.c (.v (.int .i64 24))] (Mem.start0 w) (by kernel_rfl) (by kernel_rfl) ?_
      refine Hs.runK [131] 1000 1 Tryz.func112 rfl (by kernel_rfl) (fun ν => by kernel_rfl) (fun ν => by kernel_rfl) fun ν hν => ?_
      exact Hs.ret (v := (.bool (isS 24))) Tryz.func112 (by kernel_rfl) fun w' H => ⟨rfl, H.only⟩
    · refine Hs.enter Tryz.func112 [] [] [] [.c (.v (.int .i64 25))] (Mem.start0 w) (by kernel_rfl) (by kernel_rfl) ?_
      refine Hs.runK [131] 1000 1 Tryz.func112 rfl (by kernel_rfl) (fun ν => by kernel_rfl) (fun ν => by kernel_rfl) fun ν hν => ?_
      exact Hs.ret (v := (.bool (isS 25))) Tryz.func112 (by kernel_rfl) fun w' H => ⟨rfl, H.only⟩
    · refine Hs.enter Tryz.func112 [] [] [] [.c (.v (.int .i64 26))] (Mem.start0 w) (by kernel_rfl) (by kernel_rfl) ?_
      refine Hs.runK [131] 1000 1 Tryz.func112 rfl (by kernel_rfl) (fun ν => by kernel_rfl) (fun ν => by kernel_rfl) fun ν hν => ?_
      exact Hs.ret (v := (.bool (isS 26))) Tryz.func112 (by kernel_rfl) fun w' H => ⟨rfl, H.only⟩
    · refine Hs.enter Tryz.func112 [] [] [] [.c (.v (.int .i64 27))] (Mem.start0 w) (by kernel_rfl) (by kernel_rfl) ?_
      refine Hs.runK [131] 1000 1 Tryz.func112 rfl (by kernel_rfl) (fun ν => by kernel_rfl) (fun ν => by kernel_rfl) fun ν hν => ?_
      exact Hs.ret (v := (.bool (isS 27))) Tryz.func112 (by kernel_rfl) fun w' H => ⟨rfl, H.only⟩
    · refine Hs.enter Tryz.func112 [] [] [] [.c (.v (.int .i64 28))] (Mem.start0 w) (by kernel_rfl) (by kernel_rfl) ?_
      refine Hs.runK [131] 1000 1 Tryz.func112 rfl (by kernel_rfl) (fun ν => by kernel_rfl) (fun ν => by kernel_rfl) fun ν hν => ?_
      exact Hs.ret (v := (.bool (isS 28))) Tryz.func112 (by kernel_rfl) fun w' H => ⟨rfl, H.only⟩
  · have e : isS n = false := isS_out h
    rw [e]
    refine Hs.enter Tryz.func112 [] [] [] [.c (.v (.int .i64 n))] (Mem.start0 w) (by kernel_rfl) (by kernel_rfl) ?_
    refine Hs.run0 300 (fun _ => by kernel_rfl) ?_
    refine Hs.bool 5 (decide (n > 0)) (by kernel_rfl) (fun h1 => ?_) (fun h1 => ?_)
    · replace h1 : n > 0 := by simpa using h1
      refine Hs.rung0 [2] 300 (fun _ => by kernel_rfl) ?_
      refine Hs.bool 9 (decide (n ≤ 28)) (by kernel_rfl) (fun h2 => absurd ⟨h1, by simpa using h2⟩ h) (fun h2 => ?_)
      refine Hs.rung0 [2, 6] 300 (fun _ => by kernel_rfl) ?_
      exact Hs.ret (v := .bool false) Tryz.func112 (by kernel_rfl) fun w' H => ⟨rfl, H.only⟩
    · refine Hs.rung0 [2, 6] 300 (fun _ => by kernel_rfl) ?_
      exact Hs.ret (v := .bool false) Tryz.func112 (by kernel_rfl) fun w' H => ⟨rfl, H.only⟩
theorem name_any18 (n : Int) (w : World) : Calls Tryz.prog 111 #[.int .i64 n] w fun e w' => e = .returned (.tuple #[.string (if isS n then nameS n else ⟨#[]⟩), .bool (isS n)]) ∧ Only [] w w' := by
  by_cases h : 1 ≤ n ∧ n ≤ 28
  · rcases c28 h.1 h.2 with  rfl | rfl | rfl | rfl | rfl | rfl | rfl | rfl | rfl | rfl | rfl | rfl | rfl | rfl | rfl | rfl | rfl | rfl | rfl | rfl | rfl | rfl | rfl | rfl | rfl | rfl | rfl | rfl 
    · refine Hs.enter Tryz.func111 [] [] [] [.c (.v (.int .i64 1))] (Mem.start0 w) (by kernel_rfl) (by kernel_rfl) ?_
      refine Hs.runK [131, 112] 1000 2 Tryz.func111 rfl (by kernel_rfl) (fun ν => by kernel_rfl) (fun ν => by kernel_rfl) fun ν hν => ?_
      exact Hs.ret (v := (.tuple #[.string (if isS 1 then nameS 1 else ⟨#[]⟩), .bool (isS 1)])) Tryz.func111 (by kernel_rfl) fun w' H => ⟨rfl, H.only⟩
    · refine Hs.enter Tryz.func111 [] [] [] [.c (.v (.int .i64 2))] (Mem.start0 w) (by kernel_rfl) (by kernel_rfl) ?_
      refine Hs.runK [131, 112] 1000 2 Tryz.func111 rfl (by kernel_rfl) (fun ν => by kernel_rfl) (fun ν => by kernel_rfl) fun ν hν => ?_
      exact Hs.ret (v := (.tuple #[.string (if isS 2 then nameS 2 else ⟨#[]⟩), .bool (isS 2)])) Tryz.func111 (by kernel_rfl) fun w' H => ⟨rfl, H.only⟩
    · refine Hs.enter Tryz.func111 [] [] [] [.c (.v (.int .i64 3))] (Mem.start0 w) (by kernel_rfl) (by kernel_rfl) ?_
      refine Hs.runK [131, 112] 1000 2 Tryz.func111 rfl (by kernel_rfl) (fun ν => by kernel_rfl) (fun ν => by kernel_rfl) fun ν hν => ?_
      exact Hs.ret (v := (.tuple #[.string (if isS 3 then nameS 3 else ⟨#[]⟩), .bool (isS 3)])) Tryz.func111 (by kernel_rfl) fun w' H => ⟨rfl, H.only⟩
    · refine Hs.enter Tryz.func111 [] [] [] [.c (.v (.int .i64 4))] (Mem.start0 w) (by kernel_rfl) (by kernel_rfl) ?_
      refine Hs.runK [131, 112] 1000 2 Tryz.func111 rfl (by kernel_rfl) (fun ν => by kernel_rfl) (fun ν => by kernel_rfl) fun ν hν => ?_
      exact Hs.ret (v := (.tuple #[.string (if isS 4 then nameS 4 else ⟨#[]⟩), .bool (isS 4)])) Tryz.func111 (by kernel_rfl) fun w' H => ⟨rfl, H.only⟩
    · refine Hs.enter Tryz.func111 [] [] [] [.c (.v (.int .i64 5))] (Mem.start0 w) (by kernel_rfl) (by kernel_rfl) ?_
      refine Hs.runK [131, 112] 1000 2 Tryz.func111 rfl (by kernel_rfl) (fun ν => by kernel_rfl) (fun ν => by kernel_rfl) fun ν hν => ?_
      exact Hs.ret (v := (.tuple #[.string (if isS 5 then nameS 5 else ⟨#[]⟩), .bool (isS 5)])) Tryz.func111 (by kernel_rfl) fun w' H => ⟨rfl, H.only⟩
    · refine Hs.enter Tryz.func111 [] [] [] [.c (.v (.int .i64 6))] (Mem.start0 w) (by kernel_rfl) (by kernel_rfl) ?_
      refine Hs.runK [131, 112] 1000 2 Tryz.func111 rfl (by kernel_rfl) (fun ν => by kernel_rfl) (fun ν => by kernel_rfl) fun ν hν => ?_
      exact Hs.ret (v := (.tuple #[.string (if isS 6 then nameS 6 else ⟨#[]⟩), .bool (isS 6)])) Tryz.func111 (by kernel_rfl) fun w' H => ⟨rfl, H.only⟩
    · refine Hs.enter Tryz.func111 [] [] [] [.c (.v (.int .i64 7))] (Mem.start0 w) (by kernel_rfl) (by kernel_rfl) ?_
      refine Hs.runK [131, 112] 1000 2 Tryz.func111 rfl (by kernel_rfl) (fun ν => by kernel_rfl) (fun ν => by kernel_rfl) fun ν hν => ?_
      exact Hs.ret (v := (.tuple #[.string (if isS 7 then nameS 7 else ⟨#[]⟩), .bool (isS 7)])) Tryz.func111 (by kernel_rfl) fun w' H => ⟨rfl, H.only⟩
    · refine Hs.enter Tryz.func111 [] [] [] [.c (.v (.int .i64 8))] (Mem.start0 w) (by kernel_rfl) (by kernel_rfl) ?_
      refine Hs.runK [131, 112] 1000 2 Tryz.func111 rfl (by kernel_rfl) (fun ν => by kernel_rfl) (fun ν => by kernel_rfl) fun ν hν => ?_
      exact Hs.ret (v := (.tuple #[.string (if isS 8 then nameS 8 else ⟨#[]⟩), .bool (isS 8)])) Tryz.func111 (by kernel_rfl) fun w' H => ⟨rfl, H.only⟩
    · refine Hs.enter Tryz.func111 [] [] [] [.c (.v (.int .i64 9))] (Mem.start0 w) (by kernel_rfl) (by kernel_rfl) ?_
      refine Hs.runK [131, 112] 1000 2 Tryz.func111 rfl (by kernel_rfl) (fun ν => by kernel_rfl) (fun ν => by kernel_rfl) fun ν hν => ?_
      exact Hs.ret (v := (.tuple #[.string (if isS 9 then nameS 9 else ⟨#[]⟩), .bool (isS 9)])) Tryz.func111 (by kernel_rfl) fun w' H => ⟨rfl, H.only⟩
    · refine Hs.enter Tryz.func111 [] [] [] [.c (.v (.int .i64 10))] (Mem.start0 w) (by kernel_rfl) (by kernel_rfl) ?_
      refine Hs.runK [131, 112] 1000 2 Tryz.func111 rfl (by kernel_rfl) (fun ν => by kernel_rfl) (fun ν => by kernel_rfl) fun ν hν => ?_
      exact Hs.ret (v := (.tuple #[.string (if isS 10 then nameS 10 else ⟨#[]⟩), .bool (isS 10)])) Tryz.func111 (by kernel_rfl) fun w' H => ⟨rfl, H.only⟩
    · refine Hs.enter Tryz.func111 [] [] [] [.c (.v (.int .i64 11))] (Mem.start0 w) (by kernel_rfl) (by kernel_rfl) ?_
      refine Hs.runK [131, 112] 1000 2 Tryz.func111 rfl (by kernel_rfl) (fun ν => by kernel_rfl) (fun ν => by kernel_rfl) fun ν hν => ?_
      exact Hs.ret (v := (.tuple #[.string (if isS 11 then nameS 11 else ⟨#[]⟩), .bool (isS 11)])) Tryz.func111 (by kernel_rfl) fun w' H => ⟨rfl, H.only⟩
    · refine Hs.enter Tryz.func111 [] [] [] [.c (.v (.int .i64 12))] (Mem.start0 w) (by kernel_rfl) (by kernel_rfl) ?_
      refine Hs.runK [131, 112] 1000 2 Tryz.func111 rfl (by kernel_rfl) (fun ν => by kernel_rfl) (fun ν => by kernel_rfl) fun ν hν => ?_
      exact Hs.ret (v := (.tuple #[.string (if isS 12 then nameS 12 else ⟨#[]⟩), .bool (isS 12)])) Tryz.func111 (by kernel_rfl) fun w' H => ⟨rfl, H.only⟩
    · refine Hs.enter Tryz.func111 [] [] [] [.c (.v (.int .i64 13))] (Mem.start0 w) (by kernel_rfl) (by kernel_rfl) ?_
      refine Hs.runK [131, 112] 1000 2 Tryz.func111 rfl (by kernel_rfl) (fun ν => by kernel_rfl) (fun ν => by kernel_rfl) fun ν hν => ?_
      exact Hs.ret (v := (.tuple #[.string (if isS 13 then nameS 13 else ⟨#[]⟩), .bool (isS 13)])) Tryz.func111 (by kernel_rfl) fun w' H => ⟨rfl, H.only⟩
    · refine Hs.enter Tryz.func111 [] [] [] [.c (.v (.int .i64 14))] (Mem.start0 w) (by kernel_rfl) (by kernel_rfl) ?_
      refine Hs.runK [131, 112] 1000 2 Tryz.func111 rfl (by kernel_rfl) (fun ν => by kernel_rfl) (fun ν => by kernel_rfl) fun ν hν => ?_
      exact Hs.ret (v := (.tuple #[.string (if isS 14 then nameS 14 else ⟨#[]⟩), .bool (isS 14)])) Tryz.func111 (by kernel_rfl) fun w' H => ⟨rfl, H.only⟩
    · refine Hs.enter Tryz.func111 [] [] [] [.c (.v (.int .i64 15))] (Mem.start0 w) (by kernel_rfl) (by kernel_rfl) ?_
      refine Hs.runK [131, 112] 1000 2 Tryz.func111 rfl (by kernel_rfl) (fun ν => by kernel_rfl) (fun ν => by kernel_rfl) fun ν hν => ?_
      exact Hs.ret (v := (.tuple #[.string (if isS 15 then nameS 15 else ⟨#[]⟩), .bool (isS 15)])) Tryz.func111 (by kernel_rfl) fun w' H => ⟨rfl, H.only⟩
    · refine Hs.enter Tryz.func111 [] [] [] [.c (.v (.int .i64 16))] (Mem.start0 w) (by kernel_rfl) (by kernel_rfl) ?_
      refine Hs.runK [131, 112] 1000 1 Tryz.func111 rfl (by kernel_rfl) (fun ν => by kernel_rfl) (fun ν => by kernel_rfl) fun ν hν => ?_
      exact Hs.ret (v := (.tuple #[.string (if isS 16 then nameS 16 else ⟨#[]⟩), .bool (isS 16)])) Tryz.func111 (by kernel_rfl) fun w' H => ⟨rfl, H.only⟩
    · refine Hs.enter Tryz.func111 [] [] [] [.c (.v (.int .i64 17))] (Mem.start0 w) (by kernel_rfl) (by kernel_rfl) ?_
      refine Hs.runK [131, 112] 1000 2 Tryz.func111 rfl (by kernel_rfl) (fun ν => by kernel_rfl) (fun ν => by kernel_rfl) fun ν hν => ?_
      exact Hs.ret (v := (.tuple #[.string (if isS 17 then nameS 17 else ⟨#[]⟩), .bool (isS 17)])) Tryz.func111 (by kernel_rfl) fun w' H => ⟨rfl, H.only⟩
    · refine Hs.enter Tryz.func111 [] [] [] [.c (.v (.int .i64 18))] (Mem.start0 w) (by kernel_rfl) (by kernel_rfl) ?_
      refine Hs.runK [131, 112] 1000 2 Tryz.func111 rfl (by kernel_rfl) (fun ν => by kernel_rfl) (fun ν => by kernel_rfl) fun ν hν => ?_
      exact Hs.ret (v := (.tuple #[.string (if isS 18 then nameS 18 else ⟨#[]⟩), .bool (isS 18)])) Tryz.func111 (by kernel_rfl) fun w' H => ⟨rfl, H.only⟩
    · refine Hs.enter Tryz.func111 [] [] [] [.c (.v (.int .i64 19))] (Mem.start0 w) (by kernel_rfl) (by kernel_rfl) ?_
      refine Hs.runK [131, 112] 1000 2 Tryz.func111 rfl (by kernel_rfl) (fun ν => by kernel_rfl) (fun ν => by kernel_rfl) fun ν hν => ?_
      exact Hs.ret (v := (.tuple #[.string (if isS 19 then nameS 19 else ⟨#[]⟩), .bool (isS 19)])) Tryz.func111 (by kernel_rfl) fun w' H => ⟨rfl, H.only⟩
    · refine Hs.enter Tryz.func111 [] [] [] [.c (.v (.int .i64 20))] (Mem.start0 w) (by kernel_rfl) (by kernel_rfl) ?_
      refine Hs.runK [131, 112] 1000 2 Tryz.func111 rfl (by kernel_rfl) (fun ν => by kernel_rfl) (fun ν => by kernel_rfl) fun ν hν => ?_
      exact Hs.ret (v := (.tuple #[.string (if isS 20 then nameS 20 else ⟨#[]⟩), .bool (isS 20)])) Tryz.func111 (by kernel_rfl) fun w' H => ⟨rfl, H.only⟩
    · refine Hs.enter Tryz.func111 [] [] [] [.c (.v (.int .i64 21))] (Mem.start0 w) (by kernel_rfl) (by kernel_rfl) ?_
      refine Hs.runK [131, 112] 1000 2 Tryz.func111 rfl (by kernel_rfl) (fun ν => by kernel_rfl) (fun ν => by kernel_rfl) fun ν hν => ?_
      exact Hs.ret (v := (.tuple #[.string (if isS 21 then nameS 21 else ⟨#[]⟩), .bool (isS 21)])) Tryz.func111 (by kernel_rfl) fun w' H => ⟨rfl, H.only⟩
    · refine Hs.enter Tryz.func111 [] [] [] [.c (.v (.int .i64 22))] (Mem.start0 w) (by kernel_rfl) (by kernel_rfl) ?_
      refine Hs.runK [131, 112] 1000 2 Tryz.func111 rfl (by kernel_rfl) (fun ν => by kernel_rfl) (fun ν => by kernel_rfl) fun ν hν => ?_
      exact Hs.ret (v := (.tuple #[.string (if isS 22 then nameS 22 else ⟨#[]⟩), .bool (isS 22)])) Tryz.func111 (by kernel_rfl) fun w' H => ⟨rfl, H.only⟩
    · refine Hs.enter Tryz.func111 [] [] [] [.c (.v (.int .i64 23))] (Mem.start0 w) (by kernel_rfl) (by kernel_rfl) ?_
      refine Hs.runK [131, 112] 1000 1 Tryz.func111 rfl (by kernel_rfl) (fun ν => by kernel_rfl) (fun ν => by kernel_rfl) fun ν hν => ?_
      exact Hs.ret (v := (.tuple #[.string (if isS 23 then nameS 23 else ⟨#[]⟩), .bool (isS 23)])) Tryz.func111 (by kernel_rfl) fun w' H => ⟨rfl, H.only⟩
    · refine Hs.enter Tryz.func111 [] [] [] [.c (.v (.int .i64 24))] (Mem.start0 w) (by kernel_rfl) (by kernel_rfl) ?_
      refine Hs.runK [131, 112] 1000 1 Tryz.func111 rfl (by kernel_rfl) (fun ν => by kernel_rfl) (fun ν => by kernel_rfl) fun ν hν => ?_
      exact Hs.ret (v := (.tuple #[.string (if isS 24 then nameS 24 else ⟨#[]⟩), .bool (isS 24)])) Tryz.func111 (by kernel_rfl) fun w' H => ⟨rfl, H.only⟩
    · refine Hs.enter Tryz.func111 [] [] [] [.c (.v (.int .i64 25))] (Mem.start0 w) (by kernel_rfl) (by kernel_rfl) ?_
      refine Hs.runK [131, 112] 1000 1 Tryz.func111 rfl (by kernel_rfl) (fun ν => by kernel_rfl) (fun ν => by kernel_rfl) fun ν hν => ?_
      exact Hs.ret (v := (.tuple #[.string (if isS 25 then nameS 25 else ⟨#[]⟩), .bool (isS 25)])) Tryz.func111 (by kernel_rfl) fun w' H => ⟨rfl, H.only⟩
    · refine Hs.enter Tryz.func111 [] [] [] [.c (.v (.int .i64 26))] (Mem.start0 w) (by kernel_rfl) (by kernel_rfl) ?_
      refine Hs.runK [131, 112] 1000 1 Tryz.func111 rfl (by kernel_rfl) (fun ν => by kernel_rfl) (fun ν => by kernel_rfl) fun ν hν => ?_
      exact Hs.ret (v := (.tuple #[.string (if isS 26 then nameS 26 else ⟨#[]⟩), .bool (isS 26)])) Tryz.func111 (by kernel_rfl) fun w' H => ⟨rfl, H.only⟩
    · refine Hs.enter Tryz.func111 [] [] [] [.c (.v (.int .i64 27))] (Mem.start0 w) (by kernel_rfl) (by kernel_rfl) ?_
      refine Hs.runK [131, 112] 1000 1 Tryz.func111 rfl (by kernel_rfl) (fun ν => by kernel_rfl) (fun ν => by kernel_rfl) fun ν hν => ?_
      exact Hs.ret (v := (.tuple #[.string (if isS 27 then nameS 27 else ⟨#[]⟩), .bool (isS 27)])) Tryz.func111 (by kernel_rfl) fun w' H => ⟨rfl, H.only⟩
    · refine Hs.enter Tryz.func111 [] [] [] [.c (.v (.int .i64 28))] (Mem.start0 w) (by kernel_rfl) (by kernel_rfl) ?_
      refine Hs.runK [131, 112] 1000 2 Tryz.func111 rfl (by kernel_rfl) (fun ν => by kernel_rfl) (fun ν => by kernel_rfl) fun ν hν => ?_
      exact Hs.ret (v := (.tuple #[.string (if isS 28 then nameS 28 else ⟨#[]⟩), .bool (isS 28)])) Tryz.func111 (by kernel_rfl) fun w' H => ⟨rfl, H.only⟩
  · have e : isS n = false := isS_out h
    rw [e]
    refine Hs.enter Tryz.func111 [] [] [] [.c (.v (.int .i64 n))] (Mem.start0 w) (by kernel_rfl) (by kernel_rfl) ?_
    refine Hs.run0 300 (fun _ => by kernel_rfl) ?_
    refine Hs.callV (fun w' H => by have := is_any18 n w'; rw [e] at this; exact this) (by kernel_rfl) ?_
    refine Hs.run0 300 (fun _ => by kernel_rfl) ?_
    refine Hs.condT (by kernel_rfl) ?_
    refine Hs.run0 300 (fun _ => by kernel_rfl) ?_
    exact Hs.ret (v := .tuple #[.string ⟨#[]⟩, .bool false]) Tryz.func111 (by kernel_rfl) fun w' H => ⟨rfl, H.only⟩
/-- The first place of a name. -/
def idxS (nm : ByteArray) : List ByteArray → Int → Int
  | [], _ => -1
  | s :: l, i => if eqL nm.data.toList s.data.toList then i else idxS nm l (i + 1)
def numI (nm : ByteArray) : Int := idxS nm sigL 0
def numS (nm : ByteArray) : Int := if numI nm > 0 then numI nm else 0
def numB (nm : ByteArray) : Bool := decide (numI nm > 0)
end Go.Proofs.YtmmcamkmglpgiaaGreatDoor

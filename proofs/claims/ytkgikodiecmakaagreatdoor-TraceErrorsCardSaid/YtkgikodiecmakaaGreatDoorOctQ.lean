/- Layer 1: Read; for all kinds and bytes, no condition but their number. -/
import Derived.Test.YtkgikodiecmakaaGreatDoorOctP
namespace Go.Proofs.YtkgikodiecmakaaGreatDoor
set_option linter.all false
open Go.RowKit

/-- What Read hands on. -/
def ReadPost (w : World) (res : Int × List PF) : Ending → World → Prop := fun E w' =>
  Only [] w w' ∧ ∃ A cap fs, E = .returned (.tuple #[.slice A fs.length cap, .int .i64 res.1]) ∧ fs.map FD.pf = res.2 ∧ OwnF w' w.heap.size (.slice A fs.length cap) fs ∧
    ∀ f ∈ fs, FD.mine w' f w.heap.size ∧ f.far w.heap.size (.slice A fs.length cap)
theorem readPost_none (w w' : World) (e : Int) (h : Only [] w w') : ReadPost w (e, []) (.returned (.tuple #[.slice none 0 0, .int .i64 e])) w' :=
  ⟨h, none, 0, [], rfl, rfl, ownF_nil _ _, fun f hf => by simp at hf⟩

theorem RdrV.farL {w w' : World} {g : Nat} {L : List Nat} {A : Option Addr} {cap : Nat} {l : List Int} {e : Int} (h : RdrV w g A cap l e) (hb : Only L w w') (hq : ∀ x ∈ L, g < x) : RdrV w' g A cap l e :=
  { h with
    blk := h.blk.only hb (fun hm => by have := hq _ hm; omega)
    rd := RdG.onlyL (mk := .int .u8) h.rd hb (fun a ha h0 hm => by have h1 := h.far a ha h0; have h2 := hq _ hm; omega) }
theorem FD.mine.off {w w' : World} {f : FD} {B : Nat} {L : List Nat} (h : FD.mine w f B) (hb : Only L w w') (h1 : ∀ a, f.tA = some a → 0 < f.text.length → a.block ∉ L) (h2 : ∀ a, f.lA = some a → 0 < f.list.length → a.block ∉ L) : FD.mine w' f B :=
  { h with
    ok := { h.ok with text := h.ok.text.onlyL hb h1, list := h.ok.list.onlyL hb h2 }
    soft := fun a ha i hi => by
      obtain ⟨b, off, e, hlt, _⟩ := h.ok.text (by omega)
      rw [ha] at e
      injection e with e
      refine (World.frozen?_of_block (w := w) ?_).trans (h.soft a ha i hi)
      rw [block_add]
      exact hb.block _ (by rw [e]; exact hlt) (h1 a ha (by omega)) }
theorem OwnF.mono {w : World} {base base' : Nat} {v : Value} {fs : List FD} (h : OwnF w base v fs) (hb : base' ≤ base) : OwnF w base' v fs := by
  refine ⟨h.1, ?_⟩
  rcases h.2 with h | ⟨g, cap, cur, e, hg, r⟩
  · exact .inl h
  · exact .inr ⟨g, cap, cur, e, by omega, r⟩
theorem FD.ok.tlt {w : World} {f : FD} (h : f.ok w) : ∀ a, f.tA = some a → 0 < f.text.length → a.block < w.heap.size := fun a ha h0 => h.text.lt h0 a ha
theorem FD.ok.llt {w : World} {f : FD} (h : f.ok w) : ∀ a, f.lA = some a → 0 < f.list.length → a.block < w.heap.size := fun a ha h0 => h.list.lt h0 a ha

/-- Where Read's loop stands: k kinds are read, these fields, this is left. -/
structure RL (w wr : World) (q : Nat) (ks : List Int) (res : Int × List PF) (k : Nat) (v : Value) (fs : List FD) (A : Option Addr) (cap : Nat) (rest : List Int) : Prop where
  res : res = readFrom (ks.drop k) rest (fs.map FD.pf)
  rdr : RdrV wr (q + 1) A cap rest 0
  bytes : ∀ x ∈ rest, 0 ≤ x ∧ x < 256
  few : rest.length ≤ 140737488355000
  tab : Blk wr q 142 tab.toList
  own : OwnF wr (q + 2) v fs
  mine : ∀ f ∈ fs, FD.mine wr f (q + 2) ∧ f.far (q + 1) v
  num : fs.length = k
  only : Only [] w wr
  low : w.heap.size ≤ q

set_option maxRecDepth 100000 in
set_option maxHeartbeats 3200000 in
theorem read_anyP (w : World) (kA lA : Option Addr) (ks l : List Int) (kc lc : Nat) (m : Int) (hm : w.cell? ⟨0, 0, none⟩ = some (.int .i64 m)) (hk : RdI w kA ks) (h : Rd w lA l) (hl : ∀ x ∈ l, 0 ≤ x ∧ x < 256)
    (hkn : ks.length < 1000000) (hln : l.length ≤ 140737488355000) (hlc : l.length ≤ lc) (hlm : lc ≤ maxLen) (hal : ∀ a, lA = some a → 0 < l.length → a.block < w.heap.size) :
    Calls Tryz.prog 56 #[.slice kA ks.length kc, .slice lA l.length lc] w (ReadPost w (readP ks l)) := by
  have RW := row_any kA ks kc w hk (by unfold maxLen; omega)
  by_cases hr : rowOk ks = true
  · rw [show readP ks l = readFrom ks l [] from if_pos hr]
    rw [hr] at RW
    obtain ⟨n, hn⟩ : ∃ n, n = ks.length := ⟨_, rfl⟩
    rw [← hn] at RW hkn ⊢
    obtain ⟨ll, hll⟩ : ∃ ll, ll = l.length := ⟨_, rfl⟩
    obtain ⟨res, hres⟩ : ∃ res, res = readFrom ks l [] := ⟨_, rfl⟩
    rw [← hres]
    replace hres := hide hres
    replace hn := hide hn
    rw [← hll]
    replace hll := hide hll
    go_enter Tryz.func56, Tryz.ntmps56
    go_wp2_with fail
    go_call RW as e w1 ⟨rfl, rfl⟩
    clear RW
    go_wp2_with fail
    go_call (sorts_any w) as e w1 ⟨rfl, P1⟩
    have hz := heap_alloc_new w1 (.cells (Array.replicate 21 Value.nilFunc) 142)
    go_wp2_with (refine wpList_store_row rfl 142 (.tmp 6) (.tmp 15) rfl w1.heap.size tab rfl rfl 142 (Array.replicate 21 Value.nilFunc) hz (by kernel_rfl) (by kernel_rfl) (by kernel_rfl) ?_)
    have z1 := P1.size
    go_loopw [21, 8] (fun i o wr => ∃ (k : Nat) (v : Value) (fs : List FD) (A : Option Addr) (cap : Nat) (rest : List Int), k ≤ n ∧ i = .int .i64 k ∧ v = o ∧ RL w wr w1.heap.size ks res k v fs A cap rest) (fun i _ _ => n - (intOf i).toNat)
    case atStart =>
      have Z := blk_setRow (Blk.new w1 142 (List.replicate 21 Value.nilFunc)) tab.toList
      have O2 : Only [] w1 ((w1.alloc (.cells (Array.replicate 21 Value.nilFunc) 142)).setRow w1.heap.size tab) := ((Only.refl [] w1).alloc _).trans (only_setRow _ _ _) (by simp)
      have O3 := O2.alloc (.cells #[.slice lA l.length lc, .int .i64 0] 146)
      have hs2 : ((w1.alloc (.cells (Array.replicate 21 Value.nilFunc) 142)).setRow w1.heap.size tab).heap.size = w1.heap.size + 1 := by simp
      have B3 := Blk.new ((w1.alloc (.cells (Array.replicate 21 Value.nilFunc) 142)).setRow w1.heap.size tab) 146 [.slice lA l.length lc, .int .i64 0]
      rw [hs2] at B3
      have O4 := P1.trans O3 (by simp)
      refine ⟨0, _, [], lA, lc, l, by omega, rfl, rfl, ⟨?_, ?_, hl, hln, ?_, ownF_nil _ _, fun f hf => by simp at hf, rfl, ?_, z1⟩⟩
      · simpa using hres.out
      · rw [hll.out]
        exact ⟨B3, h.only O4, hlc, hlm, fun a ha h0 => by have := hal a ha h0; omega⟩
      · rw [hll.out]
        exact Blk.alloc Z _
      · rw [hll.out]
        exact O4
    case round =>
      obtain ⟨wo, rfl⟩ : ∃ wo : World, wo = wr := ⟨_, rfl⟩
      obtain ⟨k, v, fs, A, cap, rest, hkn2, rfl, rfl, H⟩ := hrel
      have hnn := hn.out
      obtain ⟨q, hq⟩ : ∃ q, q = w1.heap.size := ⟨_, rfl⟩
      rw [← hq] at H ⊢
      have hqlow := H.low
      have hgl := H.rdr.blk.lt
      clear hz P1
      by_cases hlt : k < n
      · obtain ⟨b, off, x, rfl, hb, hx, cx⟩ := (hk.only H.only).at k (by omega)
        obtain ⟨x1, x6⟩ := rowOk_at hr hx
        obtain ⟨j, rfl⟩ := Int.eq_ofNat_of_zero_le (show 0 ≤ x by omega)
        obtain ⟨F, hF, hcf, hC⟩ := kind_any j (by omega) (by omega)
        have ct : wo.cell? ⟨q, j * 3 + 2, none⟩ = some (.func (Fn.func F) #[] #[]) := by
          rw [H.tab.cell]
          simpa using hF
        have hm' : wo.cell? ⟨0, 0, none⟩ = some (.int .i64 m) := cellL H.only (Nat.pos_of_ne_zero (fun e => by
          have := block_lt_of_cell hm
          simp only at this
          omega)) (by simp) hm
        have C := hC wo (q + 1) A cap rest m hm' H.rdr H.bytes H.few
        have hj7 : j < 7 := by omega
        have hdrop : ks.drop k = (j : Int) :: ks.drop (k + 1) := by
          have hki : k < ks.length := by omega
          rw [List.drop_eq_getElem_cons hki]
          congr 1
          rw [List.getElem?_eq_getElem hki] at hx
          injection hx
        have hres2 := H.res
        rw [hdrop] at hres2
        obtain ⟨r, hrk⟩ : ∃ r, rKind j rest = r := ⟨_, rfl⟩
        obtain ⟨dn, hrest⟩ := rKind_rest j rest
        rw [hrk] at C hrest
        replace hrk := hide hrk
        replace hrest := hide hrest
        replace hres2 := hide hres2
        replace hx := hide hx
        replace hdrop := hide hdrop
        clear hF hC hm' hnn
        replace hq := hide hq
        obtain ⟨E, N, tx, ls, rs⟩ := r
        dsimp only at hrest
        go_wp2_with fail
        go_call C as e w4 ⟨P4, tA, tc, lA', lc', rfl, my4, A4, cap4, R4⟩
        clear C
        have z4 := P4.size
        have hg4 : q + 1 < w4.heap.size := by omega
        have hgne : ¬ q + 1 = w4.heap.size := by omega
        have hgne2 : ¬ w4.heap.size = q + 1 := by omega
        have g1 : w4.cell? ⟨q + 1, 1, none⟩ = some (.int .i64 E) := R4.blk.cell 1
        have O4 : Only [q + 1] wo w4 := P4
        have O4' : Only [] w w4 := H.only.trans P4 (by simp; omega)
        by_cases hE : E = 0
        · subst hE
          have hE2 : ((0 : Int) != 0) = false := rfl
          unfold FD.val
          dsimp only at my4
          obtain ⟨f, hf⟩ : ∃ f : FD, f = ⟨j, N, tA, tc, tx, lA', lc', ls⟩ := ⟨_, rfl⟩
          have my : FD.mine w4 f wo.heap.size := by rw [hf]; exact my4.with j N
          have hfc : f.cells = [.int .i64 j, .int .u32 N, .slice tA tx.length tc, .slice lA' ls.length lc'] := by rw [hf]; rfl
          have hob := H.own.block
          have V4 := H.own.far O4 (fun x hx hv => by simp at hx; have := hob x hv.symm; omega)
          have Q5 : Only [] w4 ((w4.alloc (.cells #[.int .i64 j, .int .u32 N, .slice tA tx.length tc, .slice lA' ls.length lc'] 86)).alloc (.cells #[.int .i64 j, .int .u32 N, .slice tA tx.length tc, .slice lA' ls.length lc'] 86)) := ((Only.refl [] w4).alloc _).alloc _
          have V5 := V4.far Q5 (fun x hx => by simp at hx)
          have B5 : Blk ((w4.alloc (.cells #[.int .i64 j, .int .u32 N, .slice tA tx.length tc, .slice lA' ls.length lc'] 86)).alloc (.cells #[.int .i64 j, .int .u32 N, .slice tA tx.length tc, .slice lA' ls.length lc'] 86)) (w4.heap.size + 1) 86 f.cells := by
            rw [hfc]
            have := Blk.new (w4.alloc (.cells #[.int .i64 j, .int .u32 N, .slice tA tx.length tc, .slice lA' ls.length lc'] 86)) 86 [.int .i64 j, .int .u32 N, .slice tA tx.length tc, .slice lA' ls.length lc']
            simpa using this
          have hfew : fs.length < 1000000 := by rw [H.num]; omega
          have hres3 : res = readFrom (ks.drop (k + 1)) rs ((fs ++ [f]).map FD.pf) := by
            have e1 := hres2.out
            have e2 := hrk.out
            unfold readFrom at e1
            rw [Int.toNat_natCast, e2, if_neg (by simp)] at e1
            rw [e1, hf]
            simp [FD.pf]
          replace hres3 := hide hres3
          replace hf := hide hf
          clear hres2 hrk hfc
          go_wp2_with (at_builtin; go_must (refine wpList_appF rfl (.tmp 42) (.tmp 44) rfl (q + 2) v fs rfl V5 (w4.heap.size + 1) f rfl B5 hfew (by simp; omega) ?_); intro A9 k9 w9 V9 P9 G9)
          go_roundw
          case rel =>
            have O5 : Only [q + 1] wo ((w4.alloc (.cells #[.int .i64 j, .int .u32 N, .slice tA tx.length tc, .slice lA' ls.length lc'] 86)).alloc (.cells #[.int .i64 j, .int .u32 N, .slice tA tx.length tc, .slice lA' ls.length lc'] 86)) := O4.trans Q5 (by simp)
            have hvl : ∀ x ∈ v.ownBlock.toList, q + 2 ≤ x ∧ x < wo.heap.size := fun x hx => hob x (by simpa using hx)
            have P9' : Only v.ownBlock.toList _ w9 := P9
            have z5 : w4.heap.size ≤ ((w4.alloc (.cells #[.int .i64 j, .int .u32 N, .slice tA tx.length tc, .slice lA' ls.length lc'] 86)).alloc (.cells #[.int .i64 j, .int .u32 N, .slice tA tx.length tc, .slice lA' ls.length lc'] 86)).heap.size := Q5.size
            have hnw : ∀ x, q + 2 ≤ x → some x = (Value.slice A9 (fs.length + 1) k9).ownBlock → (x < wo.heap.size ∧ some x = v.ownBlock) ∨ w4.heap.size ≤ x := by
              intro x hx hv
              rcases G9.out with e | e
              · left
                rw [e] at hv
                exact ⟨(hvl x (by simp [← hv])).2, hv⟩
              · right
                rw [e] at hv
                injection hv with hv
                omega
            refine ⟨k + 1, _, fs ++ [f], A4, cap4, rs, by omega, by go_num, rfl, ⟨hres3.out, ?_, ?_, ?_, ?_, V9.out, ?_, ?_, ?_, hqlow⟩⟩
            · exact ((R4.only Q5).farL P9' (fun x hx => by have := hvl x hx; omega))
            · intro y hy
              have := hrest.out
              rw [this] at hy
              exact H.bytes y (List.mem_of_mem_drop hy)
            · have := hrest.out
              rw [this, List.length_drop]
              have := H.few
              omega
            · refine ((H.tab.only O4 (by simp)).only Q5 (by simp)).only P9' (fun hm => ?_)
              have := hvl _ hm
              omega
            · intro f1 hf1
              rw [List.mem_append] at hf1
              rcases hf1 with hf1 | hf1
              · obtain ⟨m1, fr1⟩ := H.mine f1 hf1
                have t1 := m1.ok.tlt
                have t2 := m1.ok.llt
                refine ⟨((m1.onlyL O4 (by omega)).only Q5).off P9' (fun a ha h0 hm => (fr1.1 a ha h0).2 (by simpa using hm)) (fun a ha h0 hm => (fr1.2 a ha h0).2 (by simpa using hm)), fun a ha h0 => ⟨(fr1.1 a ha h0).1, fun hv => ?_⟩, fun a ha h0 => ⟨(fr1.2 a ha h0).1, fun hv => ?_⟩⟩
                · have h1 := t1 a ha h0
                  have h2 := m1.new.1 a ha
                  rcases hnw a.block h2 hv.symm with h3 | h3
                  · exact (fr1.1 a ha h0).2 h3.2.symm
                  · omega
                · have h1 := t2 a ha h0
                  have h2 := m1.new.2 a ha
                  rcases hnw a.block h2 hv.symm with h3 | h3
                  · exact (fr1.2 a ha h0).2 h3.2.symm
                  · omega
              · simp at hf1
                subst hf1
                have t1 := my.ok.tlt
                have t2 := my.ok.llt
                refine ⟨((my.only Q5).off P9' (fun a ha h0 hm => ?_) (fun a ha h0 hm => ?_)).mono (by omega), fun a ha h0 => ⟨?_, fun hv => ?_⟩, fun a ha h0 => ⟨?_, fun hv => ?_⟩⟩
                · have h1 := my.new.1 a ha; have h2 := hvl _ hm; omega
                · have h1 := my.new.2 a ha; have h2 := hvl _ hm; omega
                · have h1 := my.new.1 a ha; omega
                · have h1 := t1 a ha h0
                  have h2 := my.new.1 a ha
                  rcases hnw a.block (by omega) hv.symm with h3 | h3 <;> omega
                · have h1 := my.new.2 a ha; omega
                · have h1 := t2 a ha h0
                  have h2 := my.new.2 a ha
                  rcases hnw a.block (by omega) hv.symm with h3 | h3 <;> omega
            · rw [List.length_append, H.num]; rfl
            · exact (O4'.trans Q5 (by simp)).trans P9' (fun x hx => .inr (by have := hvl x hx; omega))
          case measure => simp [intOf]; omega
        · have hE2 : (E != 0) = true := by simpa using hE
          have hfin : res = (E, []) := by
            have e1 := hres2.out
            have e2 := hrk.out
            unfold readFrom at e1
            rw [Int.toNat_natCast, e2, if_pos hE] at e1
            exact e1
          replace hfin := hide hfin
          unfold FD.val
          clear hres2 hrk
          go_wp2_with fail
          go_quiet (fail)
          go_wp2_with fail
          go_ret2
          have e := hfin.out
          rw [e]
          exact readPost_none _ _ _ ((O4'.alloc _).drewN _)
      · have hkn3 : k = n := by omega
        subst hkn3
        have hres2 := H.res
        rw [List.drop_eq_nil_of_le (by omega)] at hres2
        unfold readFrom at hres2
        obtain ⟨L, hL⟩ : ∃ L, rest.length = L := ⟨_, rfl⟩
        have c0 : wo.cell? ⟨q + 1, 0, none⟩ = some (.slice A rest.length cap) := H.rdr.blk.cell 0
        rw [hL] at hres2 c0
        obtain ⟨A', cap', hv, hle, hmx, hrow⟩ := H.own.form
        have hrw := H.own
        replace hq := hide hq
        replace hL := hide hL
        by_cases hL0 : 0 < L
        · rw [if_pos hL0] at hres2
          replace hres2 := hide hres2
          go_wp2_with fail
          go_ret2
          rw [hres2.out]
          exact readPost_none _ _ _ H.only
        · rw [if_neg hL0] at hres2
          replace hres2 := hide hres2
          go_wp2_with fail
          go_ret2
          rw [hres2.out]
          clear hres2
          subst hv
          refine ⟨H.only, A', cap', fs, rfl, rfl, H.own.mono (by omega), fun f hf => ?_⟩
          obtain ⟨m1, fr1⟩ := H.mine f hf
          exact ⟨m1.mono (by omega), fun a ha h0 => ⟨by have := m1.new.1 a ha; omega, (fr1.1 a ha h0).2⟩, fun a ha h0 => ⟨by have := m1.new.2 a ha; omega, (fr1.2 a ha h0).2⟩⟩
  · rw [show readP ks l = (2, []) from if_neg hr]
    rw [show rowOk ks = false by simpa using hr] at RW
    clear hr
    obtain ⟨n, hn⟩ : ∃ n, n = ks.length := ⟨_, rfl⟩
    rw [← hn] at RW ⊢
    obtain ⟨ll, hll⟩ : ∃ ll, ll = l.length := ⟨_, rfl⟩
    rw [← hll]
    replace hll := hide hll
    replace hn := hide hn
    go_enter Tryz.func56, Tryz.ntmps56
    go_wp2_with fail
    go_call RW as e w1 ⟨rfl, rfl⟩
    go_wp2_with fail
    go_ret2
    exact readPost_none _ _ _ (Only.refl _ _)
theorem read_any (w : World) (kA lA : Option Addr) (ks l : List Int) (kc lc : Nat) (m : Int) (hm : w.cell? ⟨0, 0, none⟩ = some (.int .i64 m)) (hk : RdI w kA ks) (h : Rd w lA l) (hl : ∀ x ∈ l, 0 ≤ x ∧ x < 256)
    (hkn : ks.length < 1000000) (hln : l.length ≤ 140737488355000) (hlc : l.length ≤ lc) (hlm : lc ≤ maxLen) (hal : ∀ a, lA = some a → a.block < w.heap.size) :
    Calls Tryz.prog 56 #[.slice kA ks.length kc, .slice lA l.length lc] w (ReadPost w (readP ks l)) := read_anyP w kA lA ks l kc lc m hm hk h hl hkn hln hlc hlm (fun a ha _ => hal a ha)
end Go.Proofs.YtkgikodiecmakaaGreatDoor

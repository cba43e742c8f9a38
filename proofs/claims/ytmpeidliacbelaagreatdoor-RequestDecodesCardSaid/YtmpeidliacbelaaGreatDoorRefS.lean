/- The document's answer for layer 1: Read; no condition but the numbers of kinds and bytes. -/
import Derived.Test.YtmpeidliacbelaaGreatDoorRefR
import Derived.Test.YtmpeidliacbelaaGreatDoorRefJ
namespace Go.Proofs.YtmpeidliacbelaaGreatDoor
set_option linter.all false
open Go.RowKit

theorem part_drop {w : World} {A : Option Addr} {l : List Int} (c T : Nat) (h : Rd w A l) (hT : T ≤ l.length) (hc : l.length ≤ c) (hm : c ≤ maxLen) :
    ∃ A9 c9, ((c = T ∧ A9 = A ∧ c9 = 0) ∨ (¬ c = T ∧ A9 = (A.map fun x => x.add T) ∧ c9 = c - T)) ∧ Rd w A9 (l.drop T) ∧ (l.drop T).length ≤ c9 ∧ c9 ≤ maxLen := by
  by_cases hck : c = T
  · refine ⟨A, 0, .inl ⟨hck, rfl, rfl⟩, ?_, by rw [List.length_drop]; omega, Nat.zero_le _⟩
    rw [List.drop_eq_nil_of_le (by omega)]
    exact RdG.nil (mk := .int .u8)
  · exact ⟨_, _, .inr ⟨hck, rfl, rfl⟩, RdG.drop (mk := .int .u8) h T, by rw [List.length_drop]; omega, by omega⟩
def RefReadPost (w : World) (res : Int × List PF) : Ending → World → Prop := fun E w' =>
  Only [] w w' ∧ ∃ A cap fs, E = .returned (.tuple #[.slice A fs.length cap, .int .i64 res.1]) ∧ fs.map FD.pf = res.2 ∧ OwnF w' w.heap.size (.slice A fs.length cap) fs ∧ ∀ f ∈ fs, FD.ok w' f
theorem refReadPost_none (w w' : World) (e : Int) (h : Only [] w w') : RefReadPost w (e, []) (.returned (.tuple #[.slice none 0 0, .int .i64 e])) w' :=
  ⟨h, none, 0, [], rfl, rfl, ownF_nil _ _, fun f hf => by simp at hf⟩
/-- Where Read's loop stands. -/
structure RRL (w wr : World) (ks : List Int) (res : Int × List PF) (k : Nat) (v : Value) (fs : List FD) (A : Option Addr) (cap : Nat) (rest : List Int) : Prop where
  res : res = readFrom (ks.drop k) rest (fs.map FD.pf)
  rd : Rd w A rest
  bytes : ∀ x ∈ rest, 0 ≤ x ∧ x < 256
  few : rest.length ≤ 140737488355000
  le : rest.length ≤ cap
  max : cap ≤ maxLen
  own : OwnF wr w.heap.size v fs
  mine : ∀ f ∈ fs, FD.mine wr f w.heap.size ∧ f.off v
  num : fs.length = k
  only : Only [] w wr

set_option maxRecDepth 100000 in
set_option maxHeartbeats 6400000 in
theorem refRead_any (w : World) (kA lA : Option Addr) (ks l : List Int) (kc lc : Nat) (hk : RdI w kA ks) (h : Rd w lA l) (hl : ∀ x ∈ l, 0 ≤ x ∧ x < 256)
    (hkn : ks.length < 1000000) (hln : l.length ≤ 140737488355000) (hlc : l.length ≤ lc) (hlm : lc ≤ maxLen) :
    Calls Tryz.prog 18 #[.slice kA ks.length kc, .slice lA l.length lc] w (RefReadPost w (readP ks l)) := by
  have KN := refKinds_any kA ks kc w hk (by unfold maxLen; omega)
  by_cases hr : rowOk ks = true
  · rw [show readP ks l = readFrom ks l [] from if_pos hr]
    rw [hr] at KN
    obtain ⟨n, hn⟩ : ∃ n, n = ks.length := ⟨_, rfl⟩
    rw [← hn] at KN hkn ⊢
    obtain ⟨res, hres⟩ : ∃ res, res = readFrom ks l [] := ⟨_, rfl⟩
    rw [← hres]
    replace hres := hide hres
    replace hn := hide hn
    have H0 : RRL w w ks res 0 (.slice none 0 0) [] lA lc l := ⟨by simpa using hres.out, h, hl, hln, hlc, hlm, ownF_nil _ _, fun f hf => by simp at hf, rfl, Only.refl _ _⟩
    obtain ⟨ll, hll⟩ : ∃ ll, l.length = ll := ⟨_, rfl⟩
    rw [hll]
    replace hll := hide hll
    go_enter Tryz.func18, Tryz.ntmps18
    go_wp2_with fail
    go_call KN as e w1 ⟨rfl, rfl⟩
    clear KN
    go_wp2_with fail
    go_loopw [17, 6, 1] (fun i o s wr => ∃ (k : Nat) (v : Value) (fs : List FD) (A : Option Addr) (cap : Nat) (rest : List Int), k ≤ n ∧ i = .int .i64 k ∧ v = o ∧ s = .slice A rest.length cap ∧ RRL w wr ks res k v fs A cap rest) (fun i _ _ _ => n - (intOf i).toNat)
    case atStart => exact ⟨0, _, [], lA, lc, l, by omega, rfl, rfl, by rw [hll.out], H0⟩
    case round =>
      obtain ⟨wo, rfl⟩ : ∃ wo : World, wo = wr := ⟨_, rfl⟩
      obtain ⟨k, v, fs, A, cap, rest, hkn2, rfl, rfl, rfl, H⟩ := hrel
      have z0 := H.only.size
      have hob := H.own.block
      have hmax := H.max
      have hle := H.le
      by_cases hlt : k < n
      · obtain ⟨b, off, x, rfl, hb, hx, cx⟩ := (hk.only H.only).at k (by have := hn.out; omega)
        obtain ⟨x1, x6⟩ := rowOk_at hr hx
        have TK := take_any x x1 x6 A rest cap wo (H.rd.only H.only) H.bytes H.few hle hmax
        have hdrop : ks.drop k = x :: ks.drop (k + 1) := by
          have hki : k < ks.length := by have := hn.out; omega
          rw [List.drop_eq_getElem_cons hki]
          congr 1
          rw [List.getElem?_eq_getElem hki] at hx
          injection hx
        have hres2 := H.res
        rw [hdrop] at hres2
        unfold readFrom at hres2
        obtain ⟨r, hrk⟩ : ∃ r, rKind x.toNat rest = r := ⟨_, rfl⟩
        rw [hrk] at TK hres2
        obtain ⟨rl, hrl⟩ : ∃ rl, rest.length = rl := ⟨_, rfl⟩
        rw [hrl] at TK hle ⊢
        unfold maxLen at hmax
        replace hrk := hide hrk
        replace hrl := hide hrl
        replace hres2 := hide hres2
        replace hx := hide hx
        replace hdrop := hide hdrop
        go_wp2_with fail
        go_call TK as e w4 ⟨P4, f, nn, rfl, hok⟩
        clear TK
        have z4 := P4.size
        obtain ⟨E, N, tx, ls, rs⟩ := r
        dsimp only at hok ⊢
        by_cases hE : E = 0
        · subst hE
          have hE2 : ((0 : Int) != 0) = false := rfl
          obtain ⟨hpf, hnn, hrest, my⟩ := hok rfl
          rw [hrl.out] at hnn
          obtain ⟨A9, c9, hc9, R9, l9, m9⟩ := part_drop cap nn H.rd (by rw [hrl.out]; exact hnn) H.le H.max
          have i1 : (nn : Int) ≤ (rl : Int) := by omega
          have i2 : (nn : Int) ≤ (cap : Int) := by omega
          have X5 : Only [] wo ((w4.alloc (.cells #[.int .i64 f.kind, .int .u32 f.n, .slice f.tA f.text.length f.tc, .slice f.lA f.list.length f.lc] 61)).alloc (.cells #[.int .i64 f.kind, .int .u32 f.n, .slice f.tA f.text.length f.tc, .slice f.lA f.list.length f.lc] 61)) := (P4.alloc _).alloc _
          have V5 := H.own.far X5 (fun x hx => by simp at hx)
          have B5 : Blk ((w4.alloc (.cells #[.int .i64 f.kind, .int .u32 f.n, .slice f.tA f.text.length f.tc, .slice f.lA f.list.length f.lc] 61)).alloc (.cells #[.int .i64 f.kind, .int .u32 f.n, .slice f.tA f.text.length f.tc, .slice f.lA f.list.length f.lc] 61)) (w4.heap.size + 1) 61 f.cells := by
            have := Blk.new (w4.alloc (.cells #[.int .i64 f.kind, .int .u32 f.n, .slice f.tA f.text.length f.tc, .slice f.lA f.list.length f.lc] 61)) 61 [.int .i64 f.kind, .int .u32 f.n, .slice f.tA f.text.length f.tc, .slice f.lA f.list.length f.lc]
            rw [show (w4.alloc (.cells #[.int .i64 f.kind, .int .u32 f.n, .slice f.tA f.text.length f.tc, .slice f.lA f.list.length f.lc] 61)).heap.size = w4.heap.size + 1 by simp] at this
            exact this
          have mg := my.only (((Only.refl [] w4).alloc (.cells #[.int .i64 f.kind, .int .u32 f.n, .slice f.tA f.text.length f.tc, .slice f.lA f.list.length f.lc] 61)).alloc (.cells #[.int .i64 f.kind, .int .u32 f.n, .slice f.tA f.text.length f.tc, .slice f.lA f.list.length f.lc] 61))
          have hfew : fs.length < 1000000 := by rw [H.num]; omega
          have hbase : w.heap.size ≤ ((w4.alloc (.cells #[.int .i64 f.kind, .int .u32 f.n, .slice f.tA f.text.length f.tc, .slice f.lA f.list.length f.lc] 61)).alloc (.cells #[.int .i64 f.kind, .int .u32 f.n, .slice f.tA f.text.length f.tc, .slice f.lA f.list.length f.lc] 61)).heap.size := Nat.le_trans z0 X5.size
          have hres3 : res = readFrom (ks.drop (k + 1)) (rest.drop nn) ((fs ++ [f]).map FD.pf) := by
            have e1 := hres2.out
            rw [if_neg (by simp)] at e1
            rw [e1, List.map_append, List.map_cons, List.map_nil, hpf, hrest]
          replace hres3 := hide hres3
          replace hpf := hide hpf
          replace hrest := hide hrest
          unfold FD.val
          clear hres2 hok
          rcases hc9 with ⟨hc9, rfl, rfl⟩ | ⟨hc9, rfl, rfl⟩
          all_goals (
            go_wp2_with (at_builtin; go_must (refine wpList_appF rfl (.tmp 31) (.tmp 33) rfl w.heap.size v fs rfl V5 (w4.heap.size + 1) f rfl B5 hfew hbase ?_; intro A9' k9 w9 V9 P9 G9))
            go_roundw
            case rel =>
              refine ⟨k + 1, _, fs ++ [f], _, _, rest.drop nn, by omega, by go_num, rfl, ?_, ⟨hres3.out, R9, fun y hy => H.bytes y (List.mem_of_mem_drop hy), by rw [List.length_drop]; have := H.few; omega, l9, m9, V9.out, mine_snoc X5 P9 G9.out hob H.mine mg z0, by rw [List.length_append, H.num]; rfl, (H.only.trans X5 (by simp)).trans P9 (fun x hx => .inr (hob x (by simpa using hx)).1)⟩⟩
              rw [List.length_drop, hrl.out]
            case measure => simp [intOf]; omega)
        · have hE2 : (E != 0) = true := by simpa using hE
          have hfin : res = (E, []) := by
            have e1 := hres2.out
            rw [if_pos hE] at e1
            exact e1
          replace hfin := hide hfin
          unfold FD.val
          clear hres2 hok
          go_wp2_with fail
          go_ret2
          rw [hfin.out]
          exact refReadPost_none _ _ _ (H.only.trans (P4.alloc _) (by simp))
      · obtain rfl : k = n := by omega
        have hres2 := H.res
        rw [List.drop_eq_nil_of_le (by have := hn.out; omega)] at hres2
        unfold readFrom at hres2
        obtain ⟨rl, hrl⟩ : ∃ rl, rest.length = rl := ⟨_, rfl⟩
        rw [hrl] at hres2 ⊢
        by_cases h0 : 0 < rl
        · rw [if_pos h0] at hres2
          have h0' : (0 : Int) < (rl : Int) := by omega
          replace hres2 := hide hres2
          go_wp2_with fail
          go_ret2
          rw [hres2.out]
          exact refReadPost_none _ _ _ H.only
        · rw [if_neg h0] at hres2
          have h0' : ¬ (0 : Int) < (rl : Int) := by omega
          obtain ⟨A', cap', rfl, _, _, _⟩ := H.own.form
          have V := H.own
          have M := H.mine
          have OO := H.only
          replace hres2 := hide hres2
          go_wp2_with fail
          go_ret2
          rw [hres2.out]
          exact ⟨OO, A', cap', fs, rfl, rfl, V, fun f hf => (M f hf).1.ok⟩
  · have hr' : rowOk ks = false := by simpa using hr
    rw [hr'] at KN
    rw [show readP ks l = (2, []) from if_neg hr]
    obtain ⟨ll, hll⟩ : ∃ ll, l.length = ll := ⟨_, rfl⟩
    rw [hll]
    go_enter Tryz.func18, Tryz.ntmps18
    go_wp2_with fail
    go_call KN as e w1 ⟨rfl, rfl⟩
    go_wp2_with fail
    go_ret2
    exact refReadPost_none _ _ _ (Only.refl _ _)
end Go.Proofs.YtmpeidliacbelaaGreatDoor

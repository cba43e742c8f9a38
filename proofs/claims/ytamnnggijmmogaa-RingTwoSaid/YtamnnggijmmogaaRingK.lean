/- The steps that a law of layer 5 is handed; how many they are; for all steps, no condition. -/
import Derived.Test.YtamnnggijmmogaaRingI
import Derived.Test.YtamnnggijmmogaaOpenS
namespace Go.Proofs.Ytamnnggijmmogaa
set_option linter.all false
open Go.ChangeShapes Go.WideShapes Go.ChangeAt Go.RowKit Go.Deep

/-- A step that came in. -/
structure StepD where
  kind : Int
  n : Int
  A : Option Addr
  cap : Nat
  b : List Int
def StepD.ok (w : World) (o : StepD) : Prop := Rd w o.A o.b ∧ o.b.length ≤ o.cap ∧ o.cap ≤ maxLen ∧ (-9223372036854775808 ≤ o.n ∧ o.n ≤ 9223372036854775807) ∧ o.b.length ≤ 140737488351232
structure StepAt (w : World) (q off : Nat) (o : StepD) : Prop where
  c0 : w.cell? ⟨q, off, none⟩ = some (.int .i64 o.kind)
  c1 : w.cell? ⟨q, off + 1, none⟩ = some (.int .i64 o.n)
  c2 : w.cell? ⟨q, off + 2, none⟩ = some (.slice o.A o.b.length o.cap)
  ok : o.ok w
/-- A slice of steps that came in. -/
def Steps5 (w : World) (P : Option Addr) (os : List StepD) : Prop :=
  0 < os.length → ∃ q off, P = some ⟨q, off, none⟩ ∧ q < w.heap.size ∧ ∀ i o, os[i]? = some o → StepAt w q (off + i * 3) o
theorem Steps5.only {w w' : World} {P : Option Addr} {os : List StepD} (h : Steps5 w P os) (hb : Only [] w w') : Steps5 w' P os := by
  intro h0
  obtain ⟨q, off, rfl, hq, hc⟩ := h h0
  refine ⟨q, off, rfl, Nat.lt_of_lt_of_le hq hb.size, fun i o hi => ?_⟩
  have hk := hb.block q hq (by simp)
  obtain ⟨a, b, c, d⟩ := hc i o hi
  exact ⟨(World.cell?_of_block (w := w) hk).trans a, (World.cell?_of_block (w := w) hk).trans b, (World.cell?_of_block (w := w) hk).trans c, d.1.only hb, d.2⟩

set_option maxRecDepth 100000 in
theorem steps_open {H : Type} {enc : TypeId × Value → H} {w : World} {base base' : Nat} {spare : Nat → Bool} {held : Bool} {r : Reach} {v : Value} {d : DataW H} {p : List MemPlace}
    (hv : Value.okWide Try.prog w r base' 76 v) (h : DataW.Trod enc Try.prog w base spare held 76 v d p) (hsz : Light Try.prog 76 d) :
    ∃ P cap os, v = .slice P os.length cap ∧ os.length ≤ cap ∧ cap ≤ maxLen ∧ os.length * 40 ≤ 140737488351232 ∧ Steps5 w P os := by
  have hB : Try.prog.bytesOf 82 = 40 := by kernel_rfl
  have hB1 : Try.prog.bytesOf 5 = 1 := by kernel_rfl
  obtain ⟨A, len, cap, rfl, hl, hm, hr, hc⟩ := openS_structs Try.underlying76 Try.underlying82 (by kernel_rfl) (by kernel_rfl) (by decide) hv h hsz
  rw [hB] at hr
  replace hr : len * 40 ≤ 140737488351232 := hr
  by_cases h0 : 0 < len
  · obtain ⟨b, off, rfl, hb, hf⟩ := hc h0
    have each : ∀ i, i < len → ∃ o : StepD, StepAt w b (off + i * 3) o := by
      intro i hil
      obtain ⟨n, hf⟩ := hf i hil
      obtain ⟨v0, y0, e0, t0, _⟩ := hf 0 _ rfl
      obtain ⟨v1, y1, e1, t1, _⟩ := hf 1 _ rfl
      obtain ⟨v2, y2, e2, t2, l2⟩ := hf 2 _ rfl
      obtain ⟨k, rfl, wk⟩ := agg_int Try.underlying3 t0
      obtain ⟨q, rfl, wq⟩ := agg_int Try.underlying3 t1
      obtain ⟨A, ln, c2, zs, rfl, h1, h2, h3, h4⟩ := aggS_ints Try.underlying65 Try.underlying5 (by kernel_rfl) t2 l2
      have hz := h3.1
      subst hz
      rw [hB1, Nat.mul_one] at h4
      exact ⟨⟨k, q, A, c2, zs⟩, e0, by simpa [Nat.add_assoc] using e1, by simpa [Nat.add_assoc] using e2, ⟨h3.rd, h1, h2, wf_i64 wq, (show _ ≤ 140737488351232 from h4)⟩⟩
    have : Inhabited StepD := ⟨⟨0, 0, none, 0, []⟩⟩
    obtain ⟨f, hf⟩ := choose_lt each
    refine ⟨some ⟨b, off, none⟩, cap, (List.range len).map f, by simp, by simpa using hl, hm, by simpa using hr, fun _ => ⟨b, off, rfl, hb, fun i o' hi => ?_⟩⟩
    rw [List.getElem?_map] at hi
    by_cases hil : i < len
    · rw [List.getElem?_range hil] at hi
      simp at hi
      subst hi
      exact hf i hil
    · rw [List.getElem?_eq_none (by simp; omega)] at hi
      simp at hi
  · obtain rfl : len = 0 := by omega
    exact ⟨A, cap, [], rfl, hl, hm, Nat.zero_le _, fun h => absurd h (Nat.lt_irrefl _)⟩

/-- How many bytes steps have, each by at most 100000. -/
def bulk : List StepD → Nat
  | [] => 0
  | o :: os => min o.b.length 100000 + bulk os
theorem bulk_take (os : List StepD) (k : Nat) : bulk (os.take k) ≤ k * 100000 := by
  induction os generalizing k with
  | nil => simp [bulk]
  | cons o os ih =>
    cases k with
    | zero => simp [bulk]
    | succ k =>
      have := ih k
      simp only [List.take_succ_cons, bulk]
      omega
theorem bulk_snoc (os : List StepD) (k : Nat) (o : StepD) (h : os[k]? = some o) : bulk (os.take (k + 1)) = bulk (os.take k) + min o.b.length 100000 := by
  induction os generalizing k with
  | nil => simp at h
  | cons p os ih =>
    cases k with
    | zero => simp at h; subst h; simp [bulk]
    | succ k =>
      simp at h
      have := ih k h
      simp only [List.take_succ_cons, bulk]
      omega
theorem bulk_mem (os : List StepD) (k : Nat) (o : StepD) (h : os[k]? = some o) : min o.b.length 100000 ≤ bulk os := by
  induction os generalizing k with
  | nil => simp at h
  | cons p os ih =>
    cases k with
    | zero => simp at h; subst h; simp [bulk]
    | succ k =>
      simp at h
      have := ih k h
      simp only [bulk]
      omega
def great5 (os : List StepD) : Bool := decide (200 < os.length) || decide (100000 < bulk os)

set_option maxRecDepth 100000 in
set_option maxHeartbeats 1600000 in
theorem great5_any (w : World) (P : Option Addr) (os : List StepD) (cap : Nat) (h : Steps5 w P os) (hcap : os.length ≤ cap) (hm : cap ≤ maxLen) (hr : os.length * 40 ≤ 140737488351232) :
    Calls Try.prog 38 #[.slice P os.length cap] w fun e w' => e = .returned (.bool (great5 os)) ∧ Only [] w w' := by
  unfold maxLen at hm
  obtain ⟨n, hn⟩ : ∃ n, n = os.length := ⟨_, rfl⟩
  obtain ⟨G, hG⟩ : ∃ G, G = great5 os := ⟨_, rfl⟩
  rw [← hG]
  rw [← hn] at hcap hr ⊢
  have HN := hide hn
  have HG := hide hG
  have HS := hide h
  clear hn hG h
  go_enter Try.func38, Try.ntmps38
  go_wp2
  go_loopw [3, 8] (fun s i wr => ∃ k : Nat, k ≤ n ∧ i = .int .i64 k ∧ s = .int .i64 (bulk (os.take k)) ∧ Only [] w wr) (fun _ i _ => n - (intOf i).toNat)
  case atStart => exact ⟨0, by omega, rfl, by simp [bulk], Only.refl _ _⟩
  case round =>
    obtain ⟨k, hk, rfl, rfl, O⟩ := hrel
    have hbk := bulk_take os k
    by_cases hlt : k < n
    · have hn := HN.out
      obtain ⟨o, ho⟩ : ∃ o, os[k]? = some o := ⟨_, List.getElem?_eq_getElem (by omega)⟩
      obtain ⟨q, off, rfl, hq, hc⟩ := HS.out (by omega)
      obtain ⟨c0, c1, c2, ok⟩ := hc k o ho
      have hql : q < wr.heap.size := Nat.lt_of_lt_of_le hq O.size
      have hkk := O.block q hq (by simp)
      have c0 : wr.cell? ⟨q, off + k * 3, none⟩ = some (.int .i64 o.kind) := (World.cell?_of_block (w := w) hkk).trans c0
      have c1 : wr.cell? ⟨q, off + k * 3 + 1, none⟩ = some (.int .i64 o.n) := (World.cell?_of_block (w := w) hkk).trans c1
      have c2 : wr.cell? ⟨q, off + k * 3 + 2, none⟩ = some (.slice o.A o.b.length o.cap) := (World.cell?_of_block (w := w) hkk).trans c2
      have hs := bulk_snoc os k o ho
      obtain ⟨bl, hbl⟩ : ∃ bl, bl = o.b.length := ⟨_, rfl⟩
      have hbm : bl ≤ 9223372036854775807 := by have := ok.2.1; have := ok.2.2.1; unfold maxLen at *; omega
      rw [← hbl] at c2 hs
      obtain ⟨S, hS⟩ : ∃ S, S = bulk (os.take k) := ⟨_, rfl⟩
      rw [← hS] at hs hbk ⊢
      have hs := hide hs
      clear hn hc hkk hbl hS ok
      have hSb : (S : Int) ≤ 351843720878080000 := by omega
      go_wp2
      all_goals
        go_roundw
        case rel => exact ⟨k + 1, by omega, by go_num, by rw [hs.out]; congr 1; omega, by repeat (first | exact O | apply Only.setCell _ (.inr (by simp; exact O.size)) | apply Only.alloc | apply Only.drew)⟩
        case measure => simp [intOf]; omega
    · have hn := HN.out
      obtain rfl : k = n := by omega
      have e : os.take k = os := List.take_of_length_le (by omega)
      rw [e] at hbk ⊢
      have hg := HG.out
      unfold great5 at hg
      rw [← hn] at hg
      obtain ⟨S, hS⟩ : ∃ S, S = bulk os := ⟨_, rfl⟩
      rw [← hS] at hg hbk ⊢
      have HG2 := hide hg
      clear hg hn hS e
      by_cases h1 : 200 < k
      · go_wp2
        go_ret
        exact ⟨ret_bool (by rw [HG2.out]; simp [h1]), O⟩
      · go_wp2
        go_ret
        exact ⟨ret_bool (by rw [HG2.out, Bool.eq_iff_iff]; simp [h1]; omega), O⟩
end Go.Proofs.Ytamnnggijmmogaa

/- Layer 17: a terminal of our own; both its ends, by the discipline: the plain law. No condition. -/
import Derived.Test.YtnfcdbjckdhieaaGreatPtI
import Derived.Test.YtnfcdbjckdhieaaGreatPtE
import Derived.Test.YtnfcdbjckdhieaaGreatPtP
namespace Go.Proofs.YtnfcdbjckdhieaaGreat
set_option linter.all false
set_option maxRecDepth 100000
open Go.RowKit

def newP (q : SZ) : PM := ⟨q.co, q.ro, q.wi, q.he, 0, 0, 0, false⟩
theorem pnew_any (t : TM) (q : SZ) (w : World) : Calls Tryz.prog 12 #[t.val, q.val] w (NewB2 w 42 96 (fun (_ : Unit) g => ptyV (newP q) g) (fun _ => discV (newD t) nilS) (fun _ _ => True)) := by
  refine Hs.enter Tryz.func12 [] [] [] [.g t.sc, .g q.sc] (Mem.start0 w) (by kernel_rfl) (by kernel_rfl) ?_
  refine Hs.run2 300 (fun _ => by kernel_rfl) fun b0 b1 => ?_
  refine Hs.any [0, 1] (by kernel_rfl) ?_
  refine Hs.run0 300 (fun _ => by kernel_rfl) ?_
  refine Hs.callB0 2 (fun _ => discSC (newD t) nilS) (Nx.start w) (fun w' H => new16_any t w') (fun β x => rfl) (fun x j => disc_wf _ _ _) (by kernel_rfl) (by kernel_rfl) fun g s1 w1 L1 N1 => ?_
  refine Hs.run1 300 (fun _ => by kernel_rfl) fun p => ?_
  exact Hs.ret (v := .pointer (some ⟨p, 0, none⟩)) Tryz.func12 (by kernel_rfl) fun w' H => N1.newB2 H 3 2 () rfl rfl (by kernel_rfl : _ = some (HB.b true 42 ((ptyV (newP q) g).map SC.v))) (by kernel_rfl : _ = some (HB.b true 96 (discSC (newD t) nilS))) (by decide) rfl rfl fun w h => trivial
def typedD (d : DM) (l : List Int) : DM := l.foldl (fun d c => (inputD d c).1) d
theorem typedD_snoc (d : DM) (l : List Int) (c : Int) : typedD d (l ++ [c]) = (inputD (typedD d l) c).1 := by simp [typedD]
theorem typedD_iv (l : List Int) : ∀ {n : Nat} {d : DM}, Iv n d → Iv (n + 3 * l.length) (typedD d l) := by
  induction l with
  | nil => exact fun h => h
  | cons c l ih =>
    intro n d h
    have := ih (inputD_iv (c := c) h)
    rw [List.length_cons, show n + 3 * (l.length + 1) = n + 3 + 3 * l.length by omega]
    exact this
theorem typeD_all : ∀ (l : List Int) {n : Nat} {d : DM}, Iv n d → n + 3 * l.length ≤ 4095 → (typeD d l).1 = typedD d l ∧ (typeD d l).2.1 = l.length
  | [], _, _, _, _ => ⟨rfl, rfl⟩
  | c :: l, n, d, h, hn => by
    rw [List.length_cons] at hn
    have hu := h.used
    have ih := typeD_all l (inputD_iv (c := c) h) (by omega)
    unfold typeD
    rw [if_neg (by omega)]
    exact ⟨ih.1, by rw [ih.2]; rfl⟩
theorem newD_iv {t : TM} (ht : TOk t) : Iv 0 (newD t) := ⟨Nat.le_refl _, Nat.zero_le _, Nat.zero_le _, ht.mn, ht.tm, by show (-9223372036854775808 : Int) ≤ 0 ∧ (0 : Int) ≤ 9223372036854775807; omega⟩
theorem readD_no {d : DM} {n q : Int} (h : (readD d n q).2.2 = false) : (readD d n q).2.1 = [] := by
  unfold readD at h ⊢
  split
  · rename_i h1
    rw [if_pos h1] at h
    split
    · rename_i h2
      rw [if_pos h2] at h
      cases h
    · rfl
  · rename_i h1
    rw [if_neg h1] at h
    split
    · rename_i h2
      rw [if_pos h2] at h
      cases h
    · rfl
theorem sread_is {x : PM} {d : DM} {n q : Int} (hx : x.hung = false) : ∃ e, sreadP x d n q = ((readD d n q).1, (readD d n q).2.1, e) ∧ (e == 0) = (readD d n q).2.2 := by
  unfold sreadP
  rw [if_neg (by rw [hx]; decide)]
  cases h : (readD d n q).2.2
  · exact ⟨10, by rw [if_neg (by decide), readD_no h], rfl⟩
  · exact ⟨0, by rw [if_pos rfl], rfl⟩
theorem mread_is {x : PM} {d : DM} {n : Int} (hx : x.hung = false) (hs : 0 < x.sl) (hn : 0 < n) : ∃ e, mreadP x d n = ((outputD d n).1, (outputD d n).2, e) ∧ (e == 0) = decide (((outputD d n).2.length : Int) > 0) := by
  unfold mreadP
  rw [if_neg (by rw [hx]; decide)]
  by_cases h : ((outputD d n).2.length : Int) > 0
  · exact ⟨0, by rw [if_pos h], by rw [decide_eq_true h]; rfl⟩
  · have h0 : (outputD d n).2 = [] := List.length_eq_zero_iff.1 (by omega)
    rw [if_neg h, if_neg (fun h => by omega), if_pos hn, h0]
    exact ⟨10, rfl, by rw [h0] at h; simp at h; simp⟩
theorem swrite_is {x : PM} {d : DM} {b : List Int} (hx : x.hung = false) : ∃ e, swriteP x d b = (writeD d b, ((fitN d b : Nat) : Int), e) ∧ (e != 0) = (((fitN d b : Nat) : Int) == 0 && decide ((b.length : Int) > 0)) := by
  unfold swriteP
  rw [if_neg (by rw [hx]; decide)]
  generalize fitN d b = k
  by_cases h : ((k : Nat) : Int) = 0 ∧ (b.length : Int) > 0
  · rw [if_pos h, h.1]
    exact ⟨10, rfl, by rw [decide_eq_true h.2]; rfl⟩
  · rw [if_neg h]
    refine ⟨0, rfl, ?_⟩
    by_cases h1 : ((k : Nat) : Int) = 0
    · have h2 : ¬ (b.length : Int) > 0 := fun h2 => h ⟨h1, h2⟩
      rw [decide_eq_false h2, Bool.and_false]
      rfl
    · rw [show (((k : Nat) : Int) == 0) = false by simpa using h1]
      rfl
end Go.Proofs.YtnfcdbjckdhieaaGreat

/- Layer 13: the bytes of all lines, one behind the other; for all lines; no condition but their size. -/
import Derived.Test.YtnfcdbjckdhieaaGreatLdAU
namespace Go.Proofs.YtnfcdbjckdhieaaGreat
set_option linter.all false
set_option maxRecDepth 100000
open Go.RowKit

def flatM (ls : List (List Int × Bool)) : List Int := ls.flatMap fun p => p.1
theorem flatM_app (a b : List (List Int × Bool)) : flatM (a ++ b) = flatM a ++ flatM b := by simp [flatM]
theorem flatM_le : ∀ ls : List (List Int × Bool), (flatM ls).length ≤ usedM ls
  | [] => Nat.le_refl _
  | p :: l => by
    have ih := flatM_le l
    have e : flatM (p :: l) = p.1 ++ flatM l := by simp [flatM]
    have e2 : usedM (p :: l) = sizeM p + usedM l := by simp [usedM]
    rw [e, e2, List.length_append]
    unfold sizeM
    omega
set_option maxHeartbeats 2000000 in
theorem flat_any (A : Option Addr) (c : Nat) (xs : List Ln) (w : World) (hr : RdL w A c xs) (hu : usedM (xs.map Ln.m) ≤ 1000000) : Calls Tryz.prog 141 #[.slice A xs.length c] w (OwnU (flatM (xs.map Ln.m)) w fun A' cap => .slice A' (flatM (xs.map Ln.m)).length cap) := by
  have hm : xs.length ≤ maxLen := Nat.le_trans hr.le hr.cap
  have J : ∀ (d i : Nat), xs.length - i = d → i ≤ xs.length → ∀ (acc : List Int), acc = flatM ((xs.take i).map Ln.m) → ∀ (n1 : Nat), acc.length = n1 → ∀ (A1 : Option Addr) (c1 : Nat) (u : Nat → Value), Hs Tryz.prog 141 (OwnU (flatM (xs.map Ln.m)) w fun A' cap => .slice A' (flatM (xs.map Ln.m)).length cap) (Tryz.f141).ntmps w [] [0] ⟨.no, loopAt Tryz.f141 0, pins [(3, .c (.v (.slice A1 n1 c1))), (6, .c (.v (.slice A xs.length c))), (7, .c (.v (.int .i64 xs.length))), (8, .c (.v (.int .i64 i)))] (.vals u), [.s A1 c1 n1 5 1 (acc.flatMap cu8)]⟩ := by
    intro d
    induction d with
    | zero =>
      intro i hd hi acc hacc n1 hn A1 c1 u
      obtain rfl : i = xs.length := by omega
      rw [List.take_length] at hacc
      subst hn
      subst hacc
      refine Hs.run0 300 (fun _ => by kernel_rfl) ?_
      refine Hs.condP ((xs.length : Int) < (xs.length : Int)) (by kernel_rfl) (fun h => by omega) (fun h => ?_)
      refine Hs.run0 300 (fun _ => by kernel_rfl) ?_
      exact Hs.ret (v := .slice A1 (flatM (xs.map Ln.m)).length c1) Tryz.func141 (by kernel_rfl) fun w' H => ⟨A1, c1, rfl, H.only, H.fresh 0 rfl (by kernel_rfl)⟩
    | succ d ih =>
      intro i hd hi acc hacc n1 hn A1 c1 u
      have hil : i < xs.length := by omega
      obtain ⟨x, hx⟩ : ∃ x, xs[i]? = some x := ⟨_, List.getElem?_eq_getElem hil⟩
      have hxm : x ∈ xs := List.mem_of_getElem? hx
      obtain ⟨ab, aoff, hA, _, _⟩ := hr.rd (by omega)
      subst hA
      have hs : flatM ((xs.take (i + 1)).map Ln.m) = acc ++ x.txt := by
        rw [List.take_add_one, hx, List.map_append, flatM_app, ← hacc]
        simp [flatM, Ln.m]
      have hle := usedM_take (xs.map Ln.m) (i + 1)
      rw [← List.map_take] at hle
      have hfl := flatM_le ((xs.take (i + 1)).map Ln.m)
      rw [hs, List.length_append, hn] at hfl
      refine Hs.run0 300 (fun _ => by kernel_rfl) ?_
      refine Hs.condP ((i : Int) < (xs.length : Int)) (by kernel_rfl) (fun h => ?_) (fun h => by omega)
      refine Hs.run0 300 (fun _ => by kernel_rfl) ?_
      refine Hs.idx (b := ab) (off := aoff) (c := c) elemLn hil (by kernel_rfl) ?_
      refine Hs.ldx (cf := cLn) (size := 2) (E := 128) (b := ab) (off := aoff) (i := i) (l := xs) (x := x) cLn_len (.g x.sc) (by kernel_rfl) (fun w' H => hr.rd.only H.only) hx (by kernel_rfl) (by kernel_rfl) rfl (by kernel_rfl) ?_
      refine Hs.run1 300 (fun _ => by kernel_rfl) fun b0 => ?_
      refine Hs.app (cf := cu8) (c := x.c) (ty := 27) 0 elemU8 acc x.txt n1 x.txt.length hn rfl cu8_one cu8_len (A := A1) (B := x.A) (cap := c1) (by kernel_rfl) (by kernel_rfl) (by kernel_rfl) (fun w' H => ((hr.all x hxm).only H.only).1) (by unfold maxLen; omega) (by rw [by_u8]; omega) fun A3 c3 h3 => ?_
      refine Hs.run0 300 (fun _ => by kernel_rfl) ?_
      refine Hs.slot 8 (.c (.v (.int .i64 (i + 1 : Nat)))) rfl ((by kernel_rfl : _ = Value.int .i64 (IntKind.i64.wrap ((i : Int) + 1))).trans (wrap_nextJ hm)) ?_
      refine Hs.loop (by kernel_rfl) ?_
      exact Hs.goto (loopAt Tryz.f141 0) [0] [.s A3 c3 (n1 + x.txt.length) 5 1 ((acc ++ x.txt).flatMap cu8)] [(3, .c (.v (.slice A3 (n1 + x.txt.length) c3))), (6, .c (.v (.slice (some ⟨ab, aoff, none⟩) xs.length c))), (7, .c (.v (.int .i64 xs.length))), (8, .c (.v (.int .i64 (i + 1 : Nat))))] (by kernel_rfl) (by decide) (by kernel_rfl) (by kernel_rfl) (fun _ => (by kernel_rfl)) (fun u => ih (i + 1) (by omega) (by omega) _ hs.symm _ (by rw [List.length_append, hn]) A3 c3 u)
  refine Hs.enter Tryz.func141 [] [] [] [.c (.v (.slice A xs.length c))] (Mem.start0 w) (by kernel_rfl) (by kernel_rfl) ?_
  refine Hs.run0 300 (fun _ => by kernel_rfl) ?_
  refine Hs.nilS 5 1 (by kernel_rfl) ?_ (by kernel_rfl)
  refine Hs.loop (by kernel_rfl) ?_
  exact Hs.goto (loopAt Tryz.f141 0) [0] [.s none 0 0 5 1 (([] : List Int).flatMap cu8)] [(3, .c (.v (.slice none 0 0))), (6, .c (.v (.slice A xs.length c))), (7, .c (.v (.int .i64 xs.length))), (8, .c (.v (.int .i64 (0 : Nat))))] (by kernel_rfl) (by decide) (by kernel_rfl) (by kernel_rfl) (fun _ => (by kernel_rfl)) (fun u => J xs.length 0 (by omega) (by omega) [] rfl 0 rfl none 0 u)
end Go.Proofs.YtnfcdbjckdhieaaGreat

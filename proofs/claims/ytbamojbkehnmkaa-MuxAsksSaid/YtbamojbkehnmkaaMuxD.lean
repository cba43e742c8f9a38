/- Layer 26: the table of kinds, the least number that is free, a channel's place among them; for all channels; no condition. -/
import Derived.Test.YtbamojbkehnmkaaMuxC
import Derived.Test.YtbamojbkehnmkaaEngL
namespace Go.Proofs.Ytbamojbkehnmkaa
set_option linter.all false
set_option maxRecDepth 100000
open Go.RowKit

/-- The table of kinds. -/
def kindsL : List (Int × Value) := [(1, .func (.func 34) #[] #[]), (80, .func (.func 35) #[] #[]), (90, .func (.func 36) #[] #[]), (93, .func (.func 37) #[] #[]), (94, .func (.func 38) #[] #[]), (95, .func (.func 38) #[] #[]), (96, .func (.func 39) #[] #[]), (97, .func (.func 40) #[] #[]), (98, .func (.func 41) #[] #[])]
theorem keyK : KeyT Try.prog 84 3 82 (.nilFunc) (kI .i64) := ⟨(by kernel_rfl), fun w => by kernel_rfl, ⟨.int .i64, by kernel_rfl, fun a => rfl⟩, kI_inj⟩
theorem kinds_any (w : World) : Calls Try.prog 25 #[] w fun e w' => ∃ r : Nat, e = .returned (.map (some r)) ∧ Only [] w w' ∧ MapM (kI .i64) w' r kindsL ∧ ∀ a, (some ⟨r, 0, none⟩ : Option Addr) = some a → w.heap.size ≤ a.block ∧ a.block < w'.heap.size := by
  refine Hs.enter Try.func25 [] [] [] [] (Mem.start0 w) (by kernel_rfl) (by kernel_rfl) ?_
  refine Hs.run0 300 (fun _ => by kernel_rfl) ?_
  refine Hs.mkM (T := 84) (kI .i64) (by kernel_rfl) (by kernel_rfl) fun r => ?_
  refine Hs.putM (r := r) (es := []) 0 keyK 1 (.func (.func 34) #[] #[]) (by kernel_rfl) (by kernel_rfl) (by kernel_rfl) (by kernel_rfl) ?_
  refine Hs.putM (r := r) (es := [(1, .func (.func 34) #[] #[])]) 0 keyK 80 (.func (.func 35) #[] #[]) (by kernel_rfl) (by kernel_rfl) (by kernel_rfl) (by kernel_rfl) ?_
  refine Hs.putM (r := r) (es := [(1, .func (.func 34) #[] #[]), (80, .func (.func 35) #[] #[])]) 0 keyK 90 (.func (.func 36) #[] #[]) (by kernel_rfl) (by kernel_rfl) (by kernel_rfl) (by kernel_rfl) ?_
  refine Hs.putM (r := r) (es := [(1, .func (.func 34) #[] #[]), (80, .func (.func 35) #[] #[]), (90, .func (.func 36) #[] #[])]) 0 keyK 93 (.func (.func 37) #[] #[]) (by kernel_rfl) (by kernel_rfl) (by kernel_rfl) (by kernel_rfl) ?_
  refine Hs.putM (r := r) (es := [(1, .func (.func 34) #[] #[]), (80, .func (.func 35) #[] #[]), (90, .func (.func 36) #[] #[]), (93, .func (.func 37) #[] #[])]) 0 keyK 94 (.func (.func 38) #[] #[]) (by kernel_rfl) (by kernel_rfl) (by kernel_rfl) (by kernel_rfl) ?_
  refine Hs.putM (r := r) (es := [(1, .func (.func 34) #[] #[]), (80, .func (.func 35) #[] #[]), (90, .func (.func 36) #[] #[]), (93, .func (.func 37) #[] #[]), (94, .func (.func 38) #[] #[])]) 0 keyK 95 (.func (.func 38) #[] #[]) (by kernel_rfl) (by kernel_rfl) (by kernel_rfl) (by kernel_rfl) ?_
  refine Hs.putM (r := r) (es := [(1, .func (.func 34) #[] #[]), (80, .func (.func 35) #[] #[]), (90, .func (.func 36) #[] #[]), (93, .func (.func 37) #[] #[]), (94, .func (.func 38) #[] #[]), (95, .func (.func 38) #[] #[])]) 0 keyK 96 (.func (.func 39) #[] #[]) (by kernel_rfl) (by kernel_rfl) (by kernel_rfl) (by kernel_rfl) ?_
  refine Hs.putM (r := r) (es := [(1, .func (.func 34) #[] #[]), (80, .func (.func 35) #[] #[]), (90, .func (.func 36) #[] #[]), (93, .func (.func 37) #[] #[]), (94, .func (.func 38) #[] #[]), (95, .func (.func 38) #[] #[]), (96, .func (.func 39) #[] #[])]) 0 keyK 97 (.func (.func 40) #[] #[]) (by kernel_rfl) (by kernel_rfl) (by kernel_rfl) (by kernel_rfl) ?_
  refine Hs.putM (r := r) (es := [(1, .func (.func 34) #[] #[]), (80, .func (.func 35) #[] #[]), (90, .func (.func 36) #[] #[]), (93, .func (.func 37) #[] #[]), (94, .func (.func 38) #[] #[]), (95, .func (.func 38) #[] #[]), (96, .func (.func 39) #[] #[]), (97, .func (.func 40) #[] #[])]) 0 keyK 98 (.func (.func 41) #[] #[]) (by kernel_rfl) (by kernel_rfl) (by kernel_rfl) (by kernel_rfl) ?_
  refine Hs.run0 300 (fun _ => by kernel_rfl) ?_
  exact Hs.ret (v := .map (some r)) Try.func25 (by kernel_rfl) fun w' H => ⟨r, rfl, H.only, H.mapM 0 (es := kindsL) (by kernel_rfl), fun a ha => by
    injection ha with ha; subst ha
    exact ⟨(H.own 0 (HB.mp (kI .i64) r kindsL) r (by kernel_rfl) rfl rfl).resolve_left (by simp), (H.mapM 0 (ke := kI .i64) (r := r) (es := kindsL) (by kernel_rfl)).lt⟩⟩
/-- The least number that no channel has. -/
def freeN (l : List CH) : Nat := ((List.range l.length).find? fun (n : Nat) => decide (ixI (locP (n : Int)) l < 0)).getD l.length
theorem freeN_le (l : List CH) : freeN l ≤ l.length := by
  unfold freeN
  cases h : (List.range l.length).find? fun (n : Nat) => decide (ixI (locP (n : Int)) l < 0) with
  | none => simp
  | some n =>
    have := List.mem_of_find?_eq_some h
    simp at this ⊢
    omega
/-- A taker: channels, what is sent, what is told, an error. -/
structure TK where
  x : MX
  out : Value
  ev : Value
  e : Int
def TK.sc (t : TK) : List SC := [.v (.slice t.x.A t.x.l.length t.x.cap), .v (.int .u32 t.x.lim), .v (.bool t.x.dead), .v t.out, .v t.ev, .v (.int .i64 t.e)]
def TK.cells (t : TK) : List Value := [.slice t.x.A t.x.l.length t.x.cap, .int .u32 t.x.lim, .bool t.x.dead, t.out, t.ev, .int .i64 t.e]
theorem find_some {p : Nat → Bool} {n : Nat} : ∀ {d : Nat}, (∀ j, j < n → p j = false) → p n = true → n < d → (List.range d).find? p = some n := fun {d} h1 h2 h3 => by
  rw [List.find?_range_eq_some]
  exact ⟨h2, by simpa using h3, fun j hj => by simp [h1 j hj]⟩
theorem find_none {p : Nat → Bool} {d : Nat} (h : ∀ j, j < d → p j = false) : (List.range d).find? p = none := by
  rw [List.find?_eq_none]
  intro x hx
  simp at hx
  simp [h x hx]
theorem tkFree_any (t : TK) (g : Nat) (w : World) (hg : Blk w g 81 t.cells) (hx : t.x.ok w) (hs : t.x.l.length < 1000) : Calls Try.prog 50 #[.pointer (some ⟨g, 0, none⟩)] w fun e w' => e = .returned (.int .u32 (freeN t.x.l)) ∧ Only [] w w' := by
  obtain ⟨⟨A, cap, l, lim, dead⟩, out, ev, te⟩ := t
  dsimp only at hs
  refine Hs.enter Try.func50 [] [g] [.b false 81 (TK.sc ⟨⟨A, cap, l, lim, dead⟩, out, ev, te⟩)] [.c (.p 0 0)] (Mem.rd1 w g hg) (by kernel_rfl) (by kernel_rfl) ?_
  have hwl : IntKind.u32.wrap (l.length : Int) = (l.length : Int) := by rw [IntKind.wrap_u32]; omega
  have J : ∀ (d i : Nat), l.length - i = d → i ≤ l.length → (∀ j, j < i → decide (ixI (locP (j : Int)) l < 0) = false) → ∀ (u : Nat → Value), Hs Try.prog 50 (fun e w' => e = .returned (.int .u32 (freeN l)) ∧ Only [] w w') (Try.f50).ntmps w [] [g] ⟨.no, loopAt Try.f50 0, pins [(0, .c (.p 0 0)), (10, .c (.v (.int .u32 l.length))), (11, .c (.v (.int .u32 (i : Nat))))] (.vals u), [.b false 81 (TK.sc ⟨⟨A, cap, l, lim, dead⟩, out, ev, te⟩)]⟩ := by
    intro d
    induction d with
    | zero =>
      intro i hd hi hj u
      obtain rfl : i = l.length := by omega
      have e : freeN l = l.length := by unfold freeN; rw [find_none hj]; rfl
      rw [e]
      refine Hs.run0 300 (fun _ => by kernel_rfl) ?_
      refine Hs.condP ((l.length : Int) < (l.length : Int)) (by kernel_rfl) (fun h => by omega) (fun h => ?_)
      refine Hs.run0 300 (fun _ => by kernel_rfl) ?_
      exact Hs.ret (v := .int .u32 (IntKind.u32.wrap (l.length : Int))) Try.func50 (by kernel_rfl) fun w' H => ⟨by rw [hwl], H.only⟩
    | succ d ih =>
      intro i hd hi hj u
      refine Hs.run0 300 (fun _ => by kernel_rfl) ?_
      refine Hs.condP ((i : Int) < (l.length : Int)) (by kernel_rfl) (fun h => ?_) (fun h => by omega)
      refine Hs.run0 300 (fun _ => by kernel_rfl) ?_
      refine Hs.callV (fun w' H => find_any ⟨A, cap, l, lim, dead⟩ i w' (hx.only H.only)) (by kernel_rfl) ?_
      refine Hs.run0 300 (fun _ => by kernel_rfl) ?_
      refine Hs.condP (ixI (locP (i : Int)) l < 0) (by kernel_rfl) (fun hp => ?_) (fun hp => ?_)
      · have e : freeN l = i := by unfold freeN; rw [find_some (n := i) hj (by simpa using hp) (by omega)]; rfl
        rw [e]
        refine Hs.run0 300 (fun _ => by kernel_rfl) ?_
        exact Hs.ret (v := .int .u32 (i : Nat)) Try.func50 (by kernel_rfl) fun w' H => ⟨rfl, H.only⟩
      refine Hs.run0 300 (fun _ => by kernel_rfl) ?_
      refine Hs.slot 11 (.c (.v (.int .u32 (i + 1 : Nat)))) rfl ((by kernel_rfl : _ = Value.int .u32 (IntKind.u32.wrap ((i : Int) + 1))).trans (congrArg (Value.int .u32) (by rw [IntKind.wrap_u32]; omega))) ?_
      refine Hs.loop (by kernel_rfl) ?_
      exact Hs.goto (loopAt Try.f50 0) [0] [.b false 81 (TK.sc ⟨⟨A, cap, l, lim, dead⟩, out, ev, te⟩)] [(0, .c (.p 0 0)), (10, .c (.v (.int .u32 l.length))), (11, .c (.v (.int .u32 (i + 1 : Nat))))] (by kernel_rfl) (by decide) (by kernel_rfl) (by kernel_rfl) (fun _ => (by kernel_rfl)) (fun u => ih (i + 1) (by omega) (by omega) (fun j hlt => by
        rcases Nat.lt_or_ge j i with h1 | h1
        · exact hj j h1
        · obtain rfl : j = i := by omega
          simpa using hp) u)
  refine Hs.run0 300 (fun _ => by kernel_rfl) ?_
  refine Hs.slot 10 (.c (.v (.int .u32 l.length))) rfl ((by kernel_rfl : _ = Value.int .u32 (IntKind.u32.wrap (l.length : Int))).trans (congrArg (Value.int .u32) hwl)) ?_
  refine Hs.loop (by kernel_rfl) ?_
  exact Hs.goto (loopAt Try.f50 0) [0] [.b false 81 (TK.sc ⟨⟨A, cap, l, lim, dead⟩, out, ev, te⟩)] [(0, .c (.p 0 0)), (10, .c (.v (.int .u32 l.length))), (11, .c (.v (.int .u32 (0 : Nat))))] (by kernel_rfl) (by decide) (by kernel_rfl) (by kernel_rfl) (fun _ => (by kernel_rfl)) (fun u => J _ 0 rfl (by omega) (fun j h => by omega) u)
end Go.Proofs.Ytbamojbkehnmkaa

/- Layer 27: what is done with what is asked, method by method; for all sessions and requests; the slice of programs lies elsewhere · Layer 27: a terminal is asked for. No condition · Layer 27: a variable is looked for. No condition but the number of variables · Layer 27: a session that is asked; for all sessions and requests; the bytes lie in memory, the lengths are small. -/
import Derived.Test.YtdplnedpbkpgpaaGreatDoorSsG
import Derived.Test.YtdplnedpbkpgpaaGreatDoorShelf
import Derived.Test.YtdplnedpbkpgpaaGreatDoorSsD
namespace Go.Proofs.YtdplnedpbkpgpaaGreatDoor
set_option linter.all false
set_option maxRecDepth 100000
open Go.RowKit

def AC.sc (a : AC) : List SC := [.v (.bool a.ok), .v (.int .i64 a.what), .v (.int .i64 a.prog), .v (.int .i64 a.sig), .v (.int .u32 a.c0), .v (.int .u32 a.c1), .v (.int .u32 a.c2), .v (.int .u32 a.c3)]
/-- What is asked of a session, as it lies in a block. -/
def askSC (s : SS) (A : Option Addr) (cap : Nat) (m : RQ) (pA : Option Addr) (pl pc : Nat) (a : AC) : List SC := s.sc A cap ++ (m.sc ++ (.v (.slice pA pl pc) :: a.sc))
def askL (s : SS) (A : Option Addr) (cap : Nat) (m : RQ) (pA : Option Addr) (pl pc : Nat) (a : AC) : List Value := dens [] (askSC s A cap m pA pl pc a)
theorem dens_ask (β : List Nat) (s : SS) (A : Option Addr) (cap : Nat) (m : RQ) (pA : Option Addr) (pl pc : Nat) (a : AC) : dens β (askSC s A cap m pA pl pc a) = askL s A cap m pA pl pc a := by kernel_rfl
abbrev AskAt (w : World) (g : Nat) (s : SS) (A : Option Addr) (cap : Nat) (m : RQ) (pA : Option Addr) (pl pc : Nat) (a : AC) : Prop := Blk w g 88 (askL s A cap m pA pl pc a)
def AskPost (w : World) (g : Nat) (A : Option Addr) (cap : Nat) (m : RQ) (pA : Option Addr) (pl pc : Nat) (r : SS × AC) : Ending → World → Prop := fun e w' => e = .returned (.tuple #[]) ∧ Only [g] w w' ∧ AskAt w' g r.1 A cap m pA pl pc r.2
theorem cell_far {w w' : World} {g : Nat} {v : Value} (O : Only [g] w w') (h : w.cell? ⟨0, 0, none⟩ = some v) (hg : g ≠ 0) : w'.cell? ⟨0, 0, none⟩ = some v := by
  have hb := block_lt_of_cell h
  rw [← h]
  exact World.cell?_of_block (w := w) (w' := w') (O.block 0 hb (by simp [Ne.symm hg]))
section
variable {w w' : World} {g : Nat} {s s' : SS} {A : Option Addr} {cap : Nat} {m : RQ} {pA : Option Addr} {pl pc : Nat} {a a' : AC} {β : List Nat} {hp : List HB}
theorem Mem.ask (hB : AskAt w g s A cap m pA pl pc a) : Mem w [g] [g] [.b true 88 (askSC s A cap m pA pl pc a)] w := Mem.one w g (by rw [dens_ask]; exact hB)
theorem Mem.askB (H : Mem w [g] β hp w') (hg : nm β 0 = g) (hk : hp[0]? = some (.b true 88 (askSC s' A cap m pA pl pc a'))) : AskAt w' g s' A cap m pA pl pc a' := by
  have := H.at 0 hk
  rw [dens_ask, hg] at this
  exact this
theorem Mem.askE {r : SS × AC} (H : Mem w [g] β hp w') (hg : nm β 0 = g) (hk : hp[0]? = some (.b true 88 (askSC r.1 A cap m pA pl pc r.2))) : AskPost w g A cap m pA pl pc r (.returned (.tuple #[])) w' := ⟨rfl, H.only, H.askB hg hk⟩
end
section
variable (s : SS) (A : Option Addr) (cap : Nat) (m : RQ) (pA : Option Addr) (pc : Nat) (ps : List PR) (w : World) (g : Nat)
theorem start_any27 (nm : ByteArray) (hB : AskAt w g s A cap m pA ps.length pc noA) (hr : RdX cPr w pA ps) (hl : ps.length ≤ maxLen) (hf : ∀ a, pA = some a → 0 < ps.length → a.block ≠ g) : Calls Tryz.prog 98 #[.pointer (some ⟨g, 0, none⟩), .string nm] w (AskPost w g A cap m pA ps.length pc (startS s nm ps)) := by
  refine Hs.enter Tryz.func98 [g] [g] [.b true 88 (askSC s A cap m pA ps.length pc noA)] [.c (.p 0 0), .c (.v (.string nm))] (Mem.ask hB) (by kernel_rfl) (by kernel_rfl) ?_
  unfold startS
  refine Hs.run0 300 (fun _ => by kernel_rfl) ?_
  refine Hs.callV (fun w' H => find_any27 nm pA pc ps w' (hr.far H.only (fun a ha h0 hm => hf a ha h0 (List.mem_singleton.1 hm))) hl) (by kernel_rfl) ?_
  refine Hs.run0 300 (fun _ => by kernel_rfl) ?_
  refine Hs.bool 20 s.st (by kernel_rfl) (fun h1 => ?_) (fun h1 => ?_)
  · refine Hs.rung0 [5] 300 (fun _ => by kernel_rfl) ?_
    refine Hs.condT (by kernel_rfl) ?_
    refine Hs.run0 300 (fun _ => by kernel_rfl) ?_
    rw [if_pos h1]
    exact Hs.ret (v := .tuple #[]) Tryz.func98 (by kernel_rfl) fun w' H => H.askE rfl (by kernel_rfl)
  · refine Hs.rung0 [5] 300 (fun _ => by kernel_rfl) ?_
    rw [if_neg (by rw [h1]; decide)]
    refine Hs.cond (!findB nm ps) (by kernel_rfl) (fun h2 => ?_) (fun h2 => ?_)
    · rw [if_neg (by simpa using h2)]
      refine Hs.run0 300 (fun _ => by kernel_rfl) ?_
      exact Hs.ret (v := .tuple #[]) Tryz.func98 (by kernel_rfl) fun w' H => H.askE rfl (by kernel_rfl)
    · rw [if_pos (by simpa using h2)]
      refine Hs.runK [100, 95] 1000 0 Tryz.func98 rfl (by kernel_rfl) (fun ν => by kernel_rfl) (fun ν => by kernel_rfl) fun ν hν => ?_
      obtain rfl := List.length_eq_zero_iff.1 hν
      exact Hs.ret (v := .tuple #[]) Tryz.func98 (by kernel_rfl) fun w' H => H.askE rfl (by kernel_rfl)
theorem nothing_any27 (hB : AskAt w g s A cap m pA ps.length pc noA) : Calls Tryz.prog 51 #[.pointer (some ⟨g, 0, none⟩)] w (AskPost w g A cap m pA ps.length pc (s, noA)) := by
  refine Hs.enter Tryz.func51 [g] [g] [.b true 88 (askSC s A cap m pA ps.length pc noA)] [.c (.p 0 0)] (Mem.ask hB) (by kernel_rfl) (by kernel_rfl) ?_
  refine Hs.run0 300 (fun _ => by kernel_rfl) ?_
  exact Hs.ret (v := .tuple #[]) Tryz.func51 (by kernel_rfl) fun w' H => H.askE rfl (by kernel_rfl)
theorem shell_any27 (hB : AskAt w g s A cap m pA ps.length pc noA) (hr : RdX cPr w pA ps) (hl : ps.length ≤ maxLen) (hf : ∀ a, pA = some a → 0 < ps.length → a.block ≠ g) : Calls Tryz.prog 54 #[.pointer (some ⟨g, 0, none⟩)] w (AskPost w g A cap m pA ps.length pc (startS s shellS ps)) := by
  refine Hs.enter Tryz.func54 [g] [g] [.b true 88 (askSC s A cap m pA ps.length pc noA)] [.c (.p 0 0)] (Mem.ask hB) (by kernel_rfl) (by kernel_rfl) ?_
  generalize hz : startS s shellS ps = z
  refine Hs.run0 300 (fun _ => by kernel_rfl) ?_
  refine Hs.callP 0 88 (askSC z.1 A cap m pA ps.length pc z.2) (v := .tuple #[]) (fun w' H => (start_any27 s A cap m pA pc ps w' g shellS (H.askB rfl (by kernel_rfl)) (hr.far H.only (fun a ha h0 hm => hf a ha h0 (List.mem_singleton.1 hm))) hl hf).mono fun e w1 h => by rw [hz] at h; rw [dens_ask]; exact h) (by kernel_rfl) (by kernel_rfl) ?_
  refine Hs.run0 300 (fun _ => by kernel_rfl) ?_
  exact Hs.ret (v := .tuple #[]) Tryz.func54 (by kernel_rfl) fun w' H => H.askE rfl (by kernel_rfl)
theorem subsystem_any27 (hB : AskAt w g s A cap m pA ps.length pc noA) (hr : RdX cPr w pA ps) (hl : ps.length ≤ maxLen) (hf : ∀ a, pA = some a → 0 < ps.length → a.block ≠ g) : Calls Tryz.prog 56 #[.pointer (some ⟨g, 0, none⟩)] w (AskPost w g A cap m pA ps.length pc (startS s m.text ps)) := by
  refine Hs.enter Tryz.func56 [g] [g] [.b true 88 (askSC s A cap m pA ps.length pc noA)] [.c (.p 0 0)] (Mem.ask hB) (by kernel_rfl) (by kernel_rfl) ?_
  generalize hz : startS s m.text ps = z
  refine Hs.run0 300 (fun _ => by kernel_rfl) ?_
  refine Hs.callP 0 88 (askSC z.1 A cap m pA ps.length pc z.2) (v := .tuple #[]) (fun w' H => (start_any27 s A cap m pA pc ps w' g m.text (H.askB rfl (by kernel_rfl)) (hr.far H.only (fun a ha h0 hm => hf a ha h0 (List.mem_singleton.1 hm))) hl hf).mono fun e w1 h => by rw [hz] at h; rw [dens_ask]; exact h) (by kernel_rfl) (by kernel_rfl) ?_
  refine Hs.run0 300 (fun _ => by kernel_rfl) ?_
  exact Hs.ret (v := .tuple #[]) Tryz.func56 (by kernel_rfl) fun w' H => H.askE rfl (by kernel_rfl)
theorem exec_any27 (i0 : Int) (h00 : w.cell? ⟨0, 0, none⟩ = some (.int .i64 i0)) (hg0 : g ≠ 0) (hsz : m.text.size < 4294967281) (hB : AskAt w g s A cap m pA ps.length pc noA) (hr : RdX cPr w pA ps) (hl : ps.length ≤ maxLen) (hf : ∀ a, pA = some a → 0 < ps.length → a.block ≠ g) : Calls Tryz.prog 55 #[.pointer (some ⟨g, 0, none⟩)] w (AskPost w g A cap m pA ps.length pc (startS s (cutS m.text) ps)) := by
  refine Hs.enter Tryz.func55 [g] [g] [.b true 88 (askSC s A cap m pA ps.length pc noA)] [.c (.p 0 0)] (Mem.ask hB) (by kernel_rfl) (by kernel_rfl) ?_
  generalize hz : startS s (cutS m.text) ps = z
  refine Hs.run0 300 (fun _ => by kernel_rfl) ?_
  refine Hs.callV (v := .tuple #[.string (cutS m.text), .string ⟨(Lib.cut m.text.data.toList [32]).2.1.toArray⟩, .bool (Lib.cut m.text.data.toList [32]).2.2]) (fun w' H => (Tryz.strings_Cut m.text ⟨#[32]⟩ i0 w' hsz (cell_far H.only h00 hg0)).mono fun e w1 ⟨h1, q, h2⟩ => ⟨h1, by rw [h2]; exact (Only.refl _ _).drewN q⟩) (by kernel_rfl) ?_
  refine Hs.run0 300 (fun _ => by kernel_rfl) ?_
  refine Hs.callP 0 88 (askSC z.1 A cap m pA ps.length pc z.2) (v := .tuple #[]) (fun w' H => (start_any27 s A cap m pA pc ps w' g (cutS m.text) (H.askB rfl (by kernel_rfl)) (hr.far H.only (fun a ha h0 hm => hf a ha h0 (List.mem_singleton.1 hm))) hl hf).mono fun e w1 h => by rw [hz] at h; rw [dens_ask]; exact h) (by kernel_rfl) (by kernel_rfl) ?_
  refine Hs.run0 300 (fun _ => by kernel_rfl) ?_
  exact Hs.ret (v := .tuple #[]) Tryz.func55 (by kernel_rfl) fun w' H => H.askE rfl (by kernel_rfl)
theorem resize_any27 (hB : AskAt w g s A cap m pA ps.length pc noA) : Calls Tryz.prog 57 #[.pointer (some ⟨g, 0, none⟩)] w (AskPost w g A cap m pA ps.length pc (sizeM s m)) := by
  refine Hs.enter Tryz.func57 [g] [g] [.b true 88 (askSC s A cap m pA ps.length pc noA)] [.c (.p 0 0)] (Mem.ask hB) (by kernel_rfl) (by kernel_rfl) ?_
  unfold sizeM
  refine Hs.run0 300 (fun _ => by kernel_rfl) ?_
  refine Hs.cond (!s.pty) (by kernel_rfl) (fun h1 => ?_) (fun h1 => ?_)
  · rw [if_neg (by simpa using h1)]
    refine Hs.run0 300 (fun _ => by kernel_rfl) ?_
    exact Hs.ret (v := .tuple #[]) Tryz.func57 (by kernel_rfl) fun w' H => H.askE rfl (by kernel_rfl)
  rw [if_pos (by simpa using h1)]
  refine Hs.run0 300 (fun _ => by kernel_rfl) ?_
  refine Hs.cond (!s.st) (by kernel_rfl) (fun h2 => ?_) (fun h2 => ?_)
  · rw [if_neg (by simpa using h2)]
    refine Hs.runK [100, 95] 1000 0 Tryz.func57 rfl (by kernel_rfl) (fun ν => by kernel_rfl) (fun ν => by kernel_rfl) fun ν hν => ?_
    obtain rfl := List.length_eq_zero_iff.1 hν
    exact Hs.ret (v := .tuple #[]) Tryz.func57 (by kernel_rfl) fun w' H => H.askE rfl (by kernel_rfl)
  · rw [if_pos (by simpa using h2)]
    refine Hs.runK [100, 95] 1000 0 Tryz.func57 rfl (by kernel_rfl) (fun ν => by kernel_rfl) (fun ν => by kernel_rfl) fun ν hν => ?_
    obtain rfl := List.length_eq_zero_iff.1 hν
    exact Hs.ret (v := .tuple #[]) Tryz.func57 (by kernel_rfl) fun w' H => H.askE rfl (by kernel_rfl)
theorem signal_any27 (hB : AskAt w g s A cap m pA ps.length pc noA) : Calls Tryz.prog 58 #[.pointer (some ⟨g, 0, none⟩)] w (AskPost w g A cap m pA ps.length pc (sigM s m)) := by
  refine Hs.enter Tryz.func58 [g] [g] [.b true 88 (askSC s A cap m pA ps.length pc noA)] [.c (.p 0 0)] (Mem.ask hB) (by kernel_rfl) (by kernel_rfl) ?_
  unfold sigM
  refine Hs.run0 300 (fun _ => by kernel_rfl) ?_
  refine Hs.callV (fun w' H => number_any18 m.text w') (by kernel_rfl) ?_
  refine Hs.run0 300 (fun _ => by kernel_rfl) ?_
  refine Hs.bool 19 (!s.st) (by kernel_rfl) (fun h1 => ?_) (fun h1 => ?_)
  · refine Hs.rung0 [6, 10] 300 (fun _ => by kernel_rfl) ?_
    refine Hs.condT (by kernel_rfl) ?_
    refine Hs.run0 300 (fun _ => by kernel_rfl) ?_
    rw [if_neg (by simpa using h1)]
    exact Hs.ret (v := .tuple #[]) Tryz.func58 (by kernel_rfl) fun w' H => H.askE rfl (by kernel_rfl)
  rw [if_pos (by simpa using h1)]
  refine Hs.rung0 [6] 300 (fun _ => by kernel_rfl) ?_
  refine Hs.bool 23 (!numB m.text) (by kernel_rfl) (fun h2 => ?_) (fun h2 => ?_)
  · refine Hs.rung0 [6, 10] 300 (fun _ => by kernel_rfl) ?_
    refine Hs.condT (by kernel_rfl) ?_
    refine Hs.run0 300 (fun _ => by kernel_rfl) ?_
    rw [if_neg (by simpa using h2)]
    exact Hs.ret (v := .tuple #[]) Tryz.func58 (by kernel_rfl) fun w' H => H.askE rfl (by kernel_rfl)
  rw [if_pos (by simpa using h2)]
  refine Hs.rung0 [6, 10] 300 (fun _ => by kernel_rfl) ?_
  refine Hs.callV (fun w' H => wire_any18 (numS m.text) w') (by kernel_rfl) ?_
  refine Hs.rung0 [6, 10] 300 (fun _ => by kernel_rfl) ?_
  refine Hs.cond (!wireS (numS m.text)) (by kernel_rfl) (fun h3 => ?_) (fun h3 => ?_)
  · rw [if_neg (by simpa using h3)]
    refine Hs.run0 300 (fun _ => by kernel_rfl) ?_
    exact Hs.ret (v := .tuple #[]) Tryz.func58 (by kernel_rfl) fun w' H => H.askE rfl (by kernel_rfl)
  · rw [if_pos (by simpa using h3)]
    refine Hs.runK [100, 95] 1000 0 Tryz.func58 rfl (by kernel_rfl) (fun ν => by kernel_rfl) (fun ν => by kernel_rfl) fun ν hν => ?_
    obtain rfl := List.length_eq_zero_iff.1 hν
    exact Hs.ret (v := .tuple #[]) Tryz.func58 (by kernel_rfl) fun w' H => H.askE rfl (by kernel_rfl)
end
end Go.Proofs.YtdplnedpbkpgpaaGreatDoor

namespace Go.Proofs.YtdplnedpbkpgpaaGreatDoor
set_option linter.all false
set_option maxRecDepth 100000
open Go.RowKit

section
variable (s : SS) (A : Option Addr) (cap : Nat) (m : RQ) (pA : Option Addr) (pc : Nat) (ps : List PR) (w : World) (g : Nat)
theorem ok_any27 (a : AC) (hB : AskAt w g s A cap m pA ps.length pc a) : Calls Tryz.prog 95 #[.pointer (some ⟨g, 0, none⟩)] w (AskPost w g A cap m pA ps.length pc (s, { a with ok := true })) := by
  refine Hs.enter Tryz.func95 [g] [g] [.b true 88 (askSC s A cap m pA ps.length pc a)] [.c (.p 0 0)] (Mem.ask hB) (by kernel_rfl) (by kernel_rfl) ?_
  refine Hs.run0 300 (fun _ => by kernel_rfl) ?_
  exact Hs.ret (v := .tuple #[]) Tryz.func95 (by kernel_rfl) fun w' H => H.askE rfl (by kernel_rfl)
set_option maxHeartbeats 8000000 in
theorem pty_any27 (hB : AskAt w g s A cap m pA ps.length pc noA) (hm : RdU w m.mA m.mc m.modes) (hb : ∀ x ∈ m.modes, 0 ≤ x ∧ x < 256) (hf : ∀ a, m.mA = some a → 0 < m.modes.length → a.block ≠ g) : Calls Tryz.prog 52 #[.pointer (some ⟨g, 0, none⟩)] w (AskPost w g A cap m pA ps.length pc (ptyM s m)) := by
  refine Hs.enter Tryz.func52 [g] [g] [.b true 88 (askSC s A cap m pA ps.length pc noA)] [.c (.p 0 0)] (Mem.ask hB) (by kernel_rfl) (by kernel_rfl) ?_
  unfold ptyM
  refine Hs.run0 300 (fun _ => by kernel_rfl) ?_
  refine Hs.bool 9 s.pty (by kernel_rfl) (fun h1 => ?_) (fun h1 => ?_)
  · refine Hs.rung0 [5] 300 (fun _ => by kernel_rfl) ?_
    refine Hs.condT (by kernel_rfl) ?_
    refine Hs.run0 300 (fun _ => by kernel_rfl) ?_
    rw [if_pos h1]
    exact Hs.ret (v := .tuple #[]) Tryz.func52 (by kernel_rfl) fun w' H => H.askE rfl (by kernel_rfl)
  rw [if_neg (by rw [h1]; decide)]
  refine Hs.rung0 [5] 300 (fun _ => by kernel_rfl) ?_
  refine Hs.cond s.st (by kernel_rfl) (fun h2 => ?_) (fun h2 => ?_)
  · rw [if_pos h2]
    refine Hs.run0 300 (fun _ => by kernel_rfl) ?_
    exact Hs.ret (v := .tuple #[]) Tryz.func52 (by kernel_rfl) fun w' H => H.askE rfl (by kernel_rfl)
  rw [if_neg (by rw [h2]; decide)]
  refine Hs.run0 300 (fun _ => by kernel_rfl) ?_
  refine Hs.any [0] (by kernel_rfl) ?_
  obtain ⟨z, hz⟩ : ∃ z, z = modesD tDef m.modes := ⟨_, rfl⟩
  rw [← hz]
  obtain ⟨t2, e2⟩ := z
  dsimp only
  refine Hs.run0 300 (fun _ => by kernel_rfl) ?_
  apply Hs.share1 (β' := [g])
  · intro K
    refine Hs.branch2 5 10 (by kernel_rfl) ?_ ?_
    · refine Hs.callV (fun w' H => default_any27 w') (by kernel_rfl) ?_
      refine Hs.run0 300 (fun _ => by kernel_rfl) ?_
      refine Hs.branch2 6 10 (by kernel_rfl) ?_ ?_
      · refine Hs.callV (v := .tuple #[t2.val, .int .i64 e2]) (fun w' H => by have := mdecode_any tDef m.mA m.mc m.modes w' ⟨hm.1.far H.only (fun a ha h0 hm => hf a ha h0 (List.mem_singleton.1 hm)), hm.2⟩ hb; rw [← hz] at this; exact this) (by kernel_rfl) ?_
        refine Hs.run1 300 (fun _ => by kernel_rfl) fun b1 => ?_
        exact K b1
      · refine Hs.run1 300 (fun _ => by kernel_rfl) fun b1 => ?_
        refine Hs.callV (v := .tuple #[t2.val, .int .i64 e2]) (fun w' H => by have := mdecode_any tDef m.mA m.mc m.modes w' ⟨hm.1.far H.only (fun a ha h0 hm => hf a ha h0 (List.mem_singleton.1 hm)), hm.2⟩ hb; rw [← hz] at this; exact this) (by kernel_rfl) ?_
        refine Hs.run0 300 (fun _ => by kernel_rfl) ?_
        exact Hs.eqM (K b1) (by kernel_rfl) (by kernel_rfl)
    · refine Hs.run1 300 (fun _ => by kernel_rfl) fun b1 => ?_
      refine Hs.callV (fun w' H => default_any27 w') (by kernel_rfl) ?_
      refine Hs.run0 300 (fun _ => by kernel_rfl) ?_
      refine Hs.callV (v := .tuple #[t2.val, .int .i64 e2]) (fun w' H => by have := mdecode_any tDef m.mA m.mc m.modes w' ⟨hm.1.far H.only (fun a ha h0 hm => hf a ha h0 (List.mem_singleton.1 hm)), hm.2⟩ hb; rw [← hz] at this; exact this) (by kernel_rfl) ?_
      refine Hs.run0 300 (fun _ => by kernel_rfl) ?_
      exact Hs.eqM (K b1) (by kernel_rfl) (by kernel_rfl)
  intro b1
  refine Hs.bool 28 (e2 != 0) (by kernel_rfl) (fun h3 => ?_) (fun h3 => ?_)
  · rw [if_pos (by simpa using h3)]
    refine Hs.rung0 [2] 300 (fun _ => by kernel_rfl) ?_
    refine Hs.condT (by kernel_rfl) ?_
    refine Hs.run0 300 (fun _ => by kernel_rfl) ?_
    exact Hs.ret (v := .tuple #[]) Tryz.func52 (by kernel_rfl) fun w' H => H.askE rfl (by kernel_rfl)
  rw [if_neg (by simpa using h3)]
  refine Hs.rung0 [2] 300 (fun _ => by kernel_rfl) ?_
  refine Hs.callV (v := .bool (rightB t2)) (fun w' H => (right_any t2 w').mono fun e w1 ⟨h1, h2⟩ => ⟨h1, only_of_below h2⟩) (by kernel_rfl) ?_
  refine Hs.rung0 [2] 300 (fun _ => by kernel_rfl) ?_
  refine Hs.cond (!rightB t2) (by kernel_rfl) (fun h4 => ?_) (fun h4 => ?_)
  · rw [if_neg (by simpa using h4)]
    refine Hs.run0 300 (fun _ => by kernel_rfl) ?_
    exact Hs.ret (v := .tuple #[]) Tryz.func52 (by kernel_rfl) fun w' H => H.askE rfl (by kernel_rfl)
  rw [if_pos (by simpa using h4)]
  obtain ⟨S2, hS⟩ : ∃ S2 : SS, S2 = { s with pty := true, term := m.text, c0 := m.cols, c1 := m.rows, c2 := m.width, c3 := m.height, t := t2 } := ⟨_, rfl⟩
  rw [← hS]
  subst hS
  refine Hs.run0 300 (fun _ => by kernel_rfl) ?_
  refine Hs.any [1] (by kernel_rfl) ?_
  refine Hs.run0 300 (fun _ => by kernel_rfl) ?_
  refine Hs.branch2 8 13 (by kernel_rfl) ?_ ?_
  · refine Hs.run0 300 (fun _ => by kernel_rfl) ?_
    refine Hs.callP 0 88 (askSC ({ s with pty := true, term := m.text, c0 := m.cols, c1 := m.rows, c2 := m.width, c3 := m.height, t := t2 } : SS) A cap m pA ps.length pc okA) (v := .tuple #[]) (fun w' H => (ok_any27 _ A cap m pA pc ps w' g noA (H.askB rfl (by kernel_rfl))).mono fun e w1 h => by rw [dens_ask]; exact h) (by kernel_rfl) (by kernel_rfl) ?_
    refine Hs.run0 300 (fun _ => by kernel_rfl) ?_
    exact Hs.ret (v := .tuple #[]) Tryz.func52 (by kernel_rfl) fun w' H => H.askE rfl (by kernel_rfl)
  · refine Hs.run0 300 (fun _ => by kernel_rfl) ?_
    refine Hs.callP 0 88 (askSC ({ s with pty := true, term := m.text, c0 := m.cols, c1 := m.rows, c2 := m.width, c3 := m.height, t := t2 } : SS) A cap m pA ps.length pc okA) (v := .tuple #[]) (fun w' H => (ok_any27 _ A cap m pA pc ps w' g noA (H.askB rfl (by kernel_rfl))).mono fun e w1 h => by rw [dens_ask]; exact h) (by kernel_rfl) (by kernel_rfl) ?_
    refine Hs.run0 300 (fun _ => by kernel_rfl) ?_
    exact Hs.ret (v := .tuple #[]) Tryz.func52 (by kernel_rfl) fun w' H => H.askE rfl (by kernel_rfl)
end
end Go.Proofs.YtdplnedpbkpgpaaGreatDoor

namespace Go.Proofs.YtdplnedpbkpgpaaGreatDoor
set_option linter.all false
set_option maxRecDepth 100000
open Go.RowKit
def envFV (b : Nat) : Value := .func (.func 97) #[] #[.pointer (some ⟨b, 0, none⟩)]
theorem Mem.env {w : World} {b g : Nat} {s : SS} {A : Option Addr} {cap : Nat} {m : RQ} {pA : Option Addr} {pl pc : Nat} {a : AC} (h : Blk w b 86 [.pointer (some ⟨g, 0, none⟩)]) (hB : AskAt w g s A cap m pA pl pc a) (hbg : b ≠ g) : Mem w [] [b, g] [.b false 86 [.p 1 0], .b false 88 (askSC s A cap m pA pl pc a)] w := by
  refine Mem.start _ _ _ _ rfl (fun k x hk => ?_) (fun k x y hk hw => ?_) (fun i j x y z hi hj ei ej => ?_)
  · match k, hk with
    | 0, hk => injection hk with hk; subst hk; exact h
    | 1, hk =>
      injection hk with hk
      subst hk
      show Blk w g 88 (dens [b, g] (askSC s A cap m pA pl pc a))
      rw [dens_ask]
      exact hB
  · match k, hk with
    | 0, hk => injection hk with hk; subst hk; cases hw
    | 1, hk => injection hk with hk; subst hk; cases hw
  · match i, j, hi, hj with
    | 0, 0, _, _ => rfl
    | 1, 1, _, _ => rfl
    | 0, 1, hi, hj =>
      injection hi with hi; injection hj with hj; subst hi; subst hj
      injection ei with ei; injection ej with ej
      exact absurd (ei.trans ej.symm) hbg
    | 1, 0, hi, hj =>
      injection hi with hi; injection hj with hj; subst hi; subst hj
      injection ei with ei; injection ej with ej
      exact absurd (ej.trans ei.symm) hbg
set_option maxHeartbeats 4000000 in
theorem indexV_any (s : SS) (A1 : Option Addr) (cap1 : Nat) (m : RQ) (pA : Option Addr) (pl pc : Nat) (a : AC) (b g : Nat) (hbg : b ≠ g) (A : Option Addr) (c : Nat) (ps : List VR) (w : World) (h : Blk w b 86 [.pointer (some ⟨g, 0, none⟩)]) (hB : AskAt w g s A1 cap1 m pA pl pc a) (hr : RdX cVar w A ps) (hl : ps.length ≤ maxLen) : Calls Tryz.prog 96 #[.slice A ps.length c, envFV b] w fun e w' => e = .returned (.int .i64 (varI m.text ps)) ∧ Only [] w w' := by
  have J : ∀ (d i : Nat), ps.length - i = d → i ≤ ps.length → (∀ x ∈ ps.take i, (x.n.toList == m.text.toList) = false) → ∀ (u : Nat → Value), Hs Tryz.prog 96 (fun e w' => e = .returned (.int .i64 (varI m.text ps)) ∧ Only [] w w') (Tryz.f96).ntmps w [] [b, g] ⟨.no, loopAt Tryz.f96 0, pins [(0, .c (.v (.slice A ps.length c))), (1, .c (.v (envFV b))), (7, .c (.v (.int .i64 ps.length))), (8, .c (.v (.int .i64 i)))] (.vals u), [.b false 86 [.p 1 0], .b false 88 (askSC s A1 cap1 m pA pl pc a)]⟩ := by
    intro d
    induction d with
    | zero =>
      intro i hd hi hno u
      obtain rfl : i = ps.length := by omega
      rw [List.take_length] at hno
      have e : varI m.text ps = -1 := by
        unfold varI
        have := idxS_app m.text [] ((ps.map VR.n)) 0 (fun s hs => by
          obtain ⟨x, hx, rfl⟩ := List.mem_map.1 hs
          exact hno x hx)
        rw [List.append_nil] at this
        rw [this]
        rfl
      rw [e]
      refine Hs.run0 300 (fun _ => by kernel_rfl) ?_
      refine Hs.condP ((ps.length : Int) < (ps.length : Int)) (by kernel_rfl) (fun h => by omega) (fun _ => ?_)
      refine Hs.run0 300 (fun _ => by kernel_rfl) ?_
      exact Hs.ret (v := .int .i64 (-1)) Tryz.func96 (by kernel_rfl) fun w' H => ⟨rfl, H.only⟩
    | succ d ih =>
      intro i hd hi hno u
      have hil : i < ps.length := by omega
      obtain ⟨x, hx⟩ : ∃ x, ps[i]? = some x := ⟨_, List.getElem?_eq_getElem hil⟩
      obtain ⟨ab, aoff, hA, _, _⟩ := hr (by omega)
      have hih := fun h u => ih (i + 1) (by omega) (by omega) h u
      clear ih
      rw [hA] at hih hr ⊢
      refine Hs.run0 300 (fun _ => by kernel_rfl) ?_
      refine Hs.condP ((i : Int) < (ps.length : Int)) (by kernel_rfl) (fun _ => ?_) (fun h => by omega)
      refine Hs.run0 300 (fun _ => by kernel_rfl) ?_
      refine Hs.idx (b := ab) (off := aoff) (len := ps.length) (c := c) (i := i) elemVr hil (by kernel_rfl) ?_
      refine Hs.ldx (cf := cVar) (size := 2) (E := 59) (b := ab) (off := aoff) (i := i) (l := ps) (x := x) cVar_len (.g x.sc) (by kernel_rfl) (fun w' H => hr.only H.only) hx (by kernel_rfl) (by kernel_rfl) rfl (by kernel_rfl) ?_
      refine Hs.inl Tryz.func97 [.g x.sc, .c (.p 0 0)] (by kernel_rfl) (by kernel_rfl) ?_
      refine Hs.run1 300 (fun _ => by kernel_rfl) fun b2 => ?_
      refine Hs.any [0, 1, 2] (by kernel_rfl) ?_
      refine Hs.run0 300 (fun _ => by kernel_rfl) ?_
      refine Hs.retI Tryz.func97 (by kernel_rfl) (by kernel_rfl) (by kernel_rfl) ?_
      refine Hs.run0 300 (fun _ => by kernel_rfl) ?_
      refine Hs.cond (x.n.toList == m.text.toList) (by kernel_rfl) (fun h1 => ?_) (fun h1 => ?_)
      · have e : varI m.text ps = i := by
          unfold varI
          have e2 : (ps.map VR.n) = ((ps.take i).map VR.n) ++ (x.n :: ((ps.drop (i + 1)).map VR.n)) := by
            have e3 : ps = ps.take i ++ x :: ps.drop (i + 1) := by
              have h3 := List.drop_eq_getElem_cons hil
              rw [List.getElem?_eq_getElem hil] at hx
              injection hx with hx
              rw [hx] at h3
              rw [← h3, List.take_append_drop]
            rw [← List.map_cons, ← List.map_append, ← e3]
          rw [e2, idxS_app m.text _ _ 0 (fun s hs => by
            obtain ⟨y, hy, rfl⟩ := List.mem_map.1 hs
            exact hno y hy), idx_yes (by rw [← h1]; exact Bool.beq_comm)]
          rw [List.length_map, List.length_take]
          omega
        rw [e]
        refine Hs.run0 300 (fun _ => by kernel_rfl) ?_
        exact Hs.ret (v := .int .i64 i) Tryz.func96 (by kernel_rfl) fun w' H => ⟨rfl, H.only⟩
      · refine Hs.run0 300 (fun _ => by kernel_rfl) ?_
        refine Hs.slot 8 (.c (.v (.int .i64 (i + 1 : Nat)))) rfl ((by kernel_rfl : _ = Value.int .i64 (IntKind.i64.wrap ((i : Int) + 1))).trans (wrap_nextJ hl)) ?_
        refine Hs.loop (by kernel_rfl) ?_
        exact Hs.goto (loopAt Tryz.f96 0) [0, 1] [.b false 86 [.p 1 0], .b false 88 (askSC s A1 cap1 m pA pl pc a)] [(0, .c (.v (.slice (some ⟨ab, aoff, none⟩) ps.length c))), (1, .c (.v (envFV b))), (7, .c (.v (.int .i64 ps.length))), (8, .c (.v (.int .i64 (i + 1 : Nat))))] (by kernel_rfl) (by decide) (by kernel_rfl) (by kernel_rfl) (fun _ => (by kernel_rfl)) (fun u => hih (by
          rw [List.take_add_one, hx]
          intro y hy
          rcases List.mem_append.1 hy with hy | hy
          · exact hno y hy
          · rw [Option.mem_toList] at hy
            injection hy with hy
            subst hy
            exact h1) u)
  refine Hs.enter Tryz.func96 [] [b, g] [.b false 86 [.p 1 0], .b false 88 (askSC s A1 cap1 m pA pl pc a)] [.c (.v (.slice A ps.length c)), .c (.v (envFV b))] (Mem.env h hB hbg) (by kernel_rfl) (by kernel_rfl) ?_
  refine Hs.run0 300 (fun _ => by kernel_rfl) ?_
  refine Hs.loop (by kernel_rfl) ?_
  exact Hs.goto (loopAt Tryz.f96 0) [0, 1] [.b false 86 [.p 1 0], .b false 88 (askSC s A1 cap1 m pA pl pc a)] [(0, .c (.v (.slice A ps.length c))), (1, .c (.v (envFV b))), (7, .c (.v (.int .i64 ps.length))), (8, .c (.v (.int .i64 (0 : Nat))))] (by kernel_rfl) (by decide) (by kernel_rfl) (by kernel_rfl) (fun _ => (by kernel_rfl)) (fun u => J ps.length 0 (by omega) (by omega) (by simp) u)
end Go.Proofs.YtdplnedpbkpgpaaGreatDoor

namespace Go.Proofs.YtdplnedpbkpgpaaGreatDoor
set_option linter.all false
set_option maxRecDepth 100000
open Go.RowKit
def mAo (m : RQ) : Option Addr := if m.modes.length = 0 then none else m.mA
theorem RQ.ok.stable2 {w w' : World} {m : RQ} (h1 : ∀ a, mAo m = some a → w'.heap[a.block]? = w.heap[a.block]?) (h2 : w.heap.size ≤ w'.heap.size) (h : m.ok w) : m.ok w' :=
  ⟨fun h0 => by
    obtain ⟨b, off, e, hlt, hc⟩ := h.modes h0
    exact ⟨b, off, e, Nat.lt_of_lt_of_le hlt h2, fun i x hx => (World.cell?_of_block (w := w) (show w'.heap[b]? = w.heap[b]? from h1 ⟨b, off, none⟩ (by unfold mAo; rw [if_neg (by omega)]; exact e))).trans (hc i x hx)⟩, h.mle, h.mmax, h.bytes, h.nums, h.text, h.value, h.lang⟩
theorem cell_step {w w' : World} {v : Value} (O : Only [] w w') (h : w.cell? ⟨0, 0, none⟩ = some v) : w'.cell? ⟨0, 0, none⟩ = some v := by
  rw [← h]
  exact World.cell?_of_block (w := w) (w' := w') (O.block 0 (block_lt_of_cell h) (by simp))
theorem dec_q {w w' : World} {nm : ByteArray} {l : List Int} {e : Ending} (h : RDecPost w nm l e w') : ∃ x : RQ × Int, e = .returned (.tuple #[x.1.val, .int .i64 x.2]) ∧ Only [] w w' ∧ (x.1.ok w' ∧ DecR nm l x.1 x.2) ∧ ∀ a, mAo x.1 = some a → w.heap.size ≤ a.block ∧ a.block < w'.heap.size := by
  obtain ⟨O, m, E, he, hok, hnew, _, hD⟩ := h
  refine ⟨(m, E), he, O, ⟨hok, hD⟩, fun a ha => ?_⟩
  unfold mAo at ha
  split at ha
  · cases ha
  · rename_i h0
    have h0' : ¬ m.modes.length = 0 := h0
    obtain ⟨b, off, e1, hlt, _⟩ := hok.modes (by omega)
    have ha' : m.mA = some a := ha
    refine ⟨hnew a ha', ?_⟩
    rw [ha'] at e1
    injection e1 with e1
    rw [e1]
    exact hlt
theorem long_le27 {n : Nat} (h : longE n = 0) : n ≤ 1024 := by
  unfold longE at h
  split at h
  · cases h
  · omega
theorem dec_text {nm : ByteArray} {l : List Int} {m : RQ} (h : DecR nm l m 0) (h4 : m.kind = 4) : m.text.size ≤ 1024 := by
  unfold DecR at h
  split at h
  · exact absurd h.1 (by decide)
  · rename_i k hk
    obtain ⟨h1, h2, _⟩ := kindL_range hk
    have hk4 := decK_kind h1 h2 h
    obtain rfl : k = 4 := by omega
    unfold DecK at h
    split at h
    · rename_i hn; exact absurd h.1.symm hn
    · obtain ⟨fs, hf, h⟩ := h
      split at h
      · rename_i hq
        rw [← h.2] at hq
        exact long_le27 hq
      · rename_i hn; exact absurd h.1.symm hn
theorem own_ge {w w' : World} {β : List Nat} {hp : List HB} {T : Nat} {cs : List SC} (H : Mem w [] β hp w') (k : Nat) (hk : hp[k]? = some (.b true T cs)) : w.heap.size ≤ nm β k := (H.own k _ _ hk rfl rfl).resolve_left (by simp)
theorem own_apart {w w' : World} {β : List Nat} {hp : List HB} {T : Nat} {cs : List SC} {A : Option Addr} {Q : World → Prop} {st : ∀ w w' : World, (∀ a, A = some a → w'.heap[a.block]? = w.heap[a.block]?) → w.heap.size ≤ w'.heap.size → Q w → Q w'} (H : Mem w [] β hp w') (i j : Nat) (hi : hp[i]? = some (.q true A Q st)) (hj : hp[j]? = some (.b true T cs)) (hij : i ≠ j) (a : Addr) (ha : A = some a) : a.block ≠ nm β j := fun he =>
  hij (H.inj i j _ _ a.block hi hj (by show Option.map Addr.block A = _; rw [ha]; rfl) (by show some (nm β j) = _; rw [he]))
theorem startS_env (s : SS) (nm : ByteArray) (ps : List PR) : (startS s nm ps).1.env = s.env := by
  unfold startS
  split
  · rfl
  · split <;> rfl
theorem ptyM_env (s : SS) (m : RQ) : (ptyM s m).1.env = s.env := by
  unfold ptyM
  repeat' split
  all_goals rfl
theorem sizeM_env (s : SS) (m : RQ) : (sizeM s m).1.env = s.env := by
  unfold sizeM
  repeat' split
  all_goals rfl
theorem sigM_env (s : SS) (m : RQ) : (sigM s m).1.env = s.env := by
  unfold sigM
  repeat' split
  all_goals rfl
def SS.valL (s : SS) (A : Option Addr) (n cap : Nat) : Value := .agg (#[.bool s.pty, .string s.term, .int .u32 s.c0, .int .u32 s.c1, .int .u32 s.c2, .int .u32 s.c3, .int .u8 (s.t.ch 0), .int .u8 (s.t.ch 1), .int .u8 (s.t.ch 2), .int .u8 (s.t.ch 3), .int .u8 (s.t.ch 4), .int .u8 (s.t.ch 5), .int .u8 (s.t.ch 6), .int .u8 (s.t.ch 7), .int .u8 (s.t.ch 8), .int .u8 (s.t.ch 9), .int .u8 (s.t.ch 10), .int .u8 (s.t.ch 11), .int .u8 (s.t.ch 12), .int .u8 (s.t.ch 13), .int .u8 (s.t.ch 14), .int .u8 (s.t.ch 15), .int .u8 (s.t.ch 16), .int .u8 (s.t.ch 17), .int .u8 (s.t.ch 18), .int .u64 s.t.fl, .int .u32 s.t.inn, .int .u32 s.t.out, .int .i64 s.t.mn, .int .i64 s.t.tm, .slice A n cap, .bool s.st])
theorem var_len (l : List VR) : (l.flatMap cVar).length = l.length * 2 := by
  induction l with
  | nil => rfl
  | cons x l ih => rw [List.flatMap_cons, List.length_append, ih, cVar_len, List.length_cons]; omega
theorem splice_var : ∀ (l : List VR) (i : Nat), i < l.length → ∀ v : ByteArray, splice (l.flatMap cVar) (i * 2 + 1) [.string v] = (l.set i ⟨((l.map VR.n)[i]?).getD ⟨#[]⟩, v⟩).flatMap cVar
  | x :: l, 0, _, v => by simp [splice, cVar]
  | x :: l, i + 1, h, v => by
    have ih := splice_var l i (by simpa using h) v
    have e : (i + 1) * 2 + 1 = i * 2 + 1 + 1 + 1 := by omega
    simp only [List.flatMap_cons, List.set_cons_succ, List.map_cons, List.getElem?_cons_succ]
    rw [← ih, e]
    simp [splice, cVar]
theorem idxS_lt (nm : ByteArray) : ∀ (l : List ByteArray) (k : Int), 0 ≤ k → idxS nm l k < k + l.length
  | [], k, h => by
    show (-1 : Int) < k + ((0 : Nat) : Int)
    omega
  | s :: l, k, h => by
    have ih := idxS_lt nm l (k + 1) (by omega)
    unfold idxS
    rw [List.length_cons]
    split
    · omega
    · omega
theorem varI_lt {nm : ByteArray} {l : List VR} {i : Nat} (h : varI nm l = i) : i < l.length := by
  have := idxS_lt nm (l.map VR.n) 0 (Int.le_refl _)
  unfold varI at h
  rw [h, List.length_map] at this
  omega
theorem SS.val_env (s : SS) (l : List VR) (n : Nat) (h : l.length = n) (A : Option Addr) (cap : Nat) : s.valL A n cap = ({ s with env := l } : SS).val A cap := by
  subst h
  rfl
theorem own_ne {w w' : World} {β : List Nat} {hp : List HB} {T T' : Nat} {cs cs' : List SC} (H : Mem w [] β hp w') (i j : Nat) (hi : hp[i]? = some (.b true T cs)) (hj : hp[j]? = some (.b true T' cs')) (hij : i ≠ j) : nm β i ≠ nm β j := fun he =>
  hij (H.inj i j _ _ (nm β j) hi hj (by show some (nm β i) = _; rw [he]) rfl)
section
variable {P : Program} {f : FuncId} {R : Ending → World → Prop} {n : Nat} {β : List Nat} {m : SM} {w0 : World} {L : List Nat} {E size : Nat}
theorem Hs.stc2 (k : Nat) {g cap nl : Nat} {vs vs' : List Value} (hk : m.hp[k]? = some (.s (some ⟨g, 0, none⟩) cap nl E size vs)) (j : Nat) (hj : j < vs.length) {v : Value} (hv : v.cells = #[v]) (hone : v.oneCell' = true) {E' : TypeId} (hz : szB P E' = some 1)
    (hs : semOf n β m = some (unitS (Instr.storeAt E' (.pointer (some ⟨g, j, none⟩)) v))) (hrd : (rdOf m).contains k = false) (e : splice vs j [v] = vs')
    (h : Hs P f R n w0 L β (m.put (dstOf m) (.c (.v undef)) (m.hp.set k (.s (some ⟨g, 0, none⟩) cap nl E size vs')))) : Hs P f R n w0 L β m := by
  subst e
  exact Hs.stc k hk j hj hv hone hz hs hrd h
end
/-- What Ask answers. -/
def AskD (s : SS) (nam : ByteArray) (l : List Int) (ps : List PR) (w : World) : Ending → World → Prop := fun e w' => Only [] w w' ∧ ∃ (m : RQ) (E : Int) (A' : Option Addr) (cap' : Nat), DecR nam l m E ∧ e = .returned (.tuple #[(askM s m E ps).1.val A' cap', (askM s m E ps).2.val]) ∧ OwnX cVar 59 2 w' w.heap.size (.slice A' (askM s m E ps).1.env.length cap') (askM s m E ps).1.env
theorem askD_ok {s : SS} {nam : ByteArray} {l : List Int} {ps : List PR} {w w' : World} {m : RQ} {E : Int} {z : SS × AC} (hz : askM s m E ps = z) (hD : DecR nam l m E) {A' : Option Addr} {cap' : Nat} {β : List Nat} {hp : List HB} (H : Mem w [] β hp w') {vs : List Value} {nl : Nat} (hv : vs = z.1.env.flatMap cVar) (hn : z.1.env.length = nl) (hk : hp[3]? = some (.s A' cap' nl 59 2 vs)) {v : Value} (he : v = z.1.val A' cap') : AskD s nam l ps w (.returned (.tuple #[v, z.2.val])) w' := by
  subst hz hv hn he
  exact ⟨H.only, m, E, A', cap', hD, rfl, H.fresh 3 rfl hk⟩
theorem rd_modes {w : World} {m : RQ} (h : m.ok w) : RdX cu8 w m.mA m.modes := rd_rdX h.modes
theorem Hs.fact27 {P : Program} {f : FuncId} {R : Ending → World → Prop} {n : Nat} {w0 : World} {L : List Nat} {β : List Nat} {m : SM} {p : Prop} (hp : ∀ w, Mem w0 L β m.hp w → p) (h : p → Hs P f R n w0 L β m) : Hs P f R n w0 L β m := ⟨fun w H W => (h (hp w H)).go w H W⟩
set_option maxHeartbeats 8000000 in
theorem ask_any27 (s : SS) (A : Option Addr) (cap : Nat) (nam : ByteArray) (B : Option Addr) (c : Nat) (l : List Int) (pA : Option Addr) (pc : Nat) (ps : List PR) (w : World) (i0 : Int) (h00 : w.cell? ⟨0, 0, none⟩ = some (.int .i64 i0)) (hs : RdX cVar w A s.env) (hse : s.env.length ≤ 1000000) (hd : Rd w B l) (hl : ∀ x ∈ l, 0 ≤ x ∧ x < 256) (hln : l.length ≤ 140737488355000) (hlc : l.length ≤ c) (hlm : c ≤ maxLen) (hal : ∀ a, B = some a → a.block < w.heap.size) (hr : RdX cPr w pA ps) (hpl : ps.length ≤ maxLen) :
    Calls Tryz.prog 11 #[s.val A cap, .string nam, .slice B l.length c, .slice pA ps.length pc] w (AskD s nam l ps w) := by
  have hw0 : 0 < w.heap.size := block_lt_of_cell h00
  refine Hs.enter Tryz.func11 [] [] [] [.g (s.sc A cap), .c (.v (.string nam)), .c (.v (.slice B l.length c)), .c (.v (.slice pA ps.length pc))] (Mem.start0 w) (by kernel_rfl) (by kernel_rfl) ?_
  refine Hs.run3 300 (fun _ => by kernel_rfl) fun b0 b1 b2 => ?_
  refine Hs.callS (cf := cVar) (E := 59) (size := 2) (fun A cap => .slice A s.env.length cap) s.env s.env.length rfl (fun w' H => cloneV_any s.env A cap w' (hs.only H.only) (by omega)) (by kernel_rfl) (by kernel_rfl) fun A' cap' h1 h2 => ?_
  refine Hs.run0 300 (fun _ => by kernel_rfl) ?_
  refine Hs.callQ (X := RQ × Int) (fun x => mAo x.1) (fun x => .tuple #[x.1.val, .int .i64 x.2]) (fun x w => x.1.ok w ∧ DecR nam l x.1 x.2) (fun x w w' h1 h2 h => ⟨h.1.stable2 h1 h2, h.2⟩) (fun w' H => (rdecode_any nam B l c i0 w' (cell_step H.only h00) (hd.only H.only) hl hln hlc hlm (fun a ha => Nat.lt_of_lt_of_le (hal a ha) H.only.size)).mono fun e w1 h => dec_q h) (by kernel_rfl) (by kernel_rfl) fun x => ?_
  obtain ⟨m, E⟩ := x
  refine Hs.run1 300 (fun _ => by kernel_rfl) fun b5 => ?_
  refine Hs.fact27 (fun w' H => (H.atQ 4 (wr := true) (A := mAo m) (Q := fun w => m.ok w ∧ DecR nam l m E) (st := fun w w' h1 h2 h => ⟨h.1.stable2 h1 h2, h.2⟩) (by kernel_rfl)).2) fun hD => ?_
  refine Hs.cond (E != 0) (by kernel_rfl) (fun h3 => ?_) (fun h3 => ?_)
  · have hz : askM s m E ps = (s, noA) := by unfold askM; rw [if_pos (by simpa using h3)]
    refine Hs.run0 300 (fun _ => by kernel_rfl) ?_
    exact Hs.ret (v := .tuple #[s.val A' cap', noA.val]) Tryz.func11 (by kernel_rfl) fun w' H => askD_ok hz hD H rfl rfl (by kernel_rfl) rfl
  obtain rfl : E = 0 := by simpa using h3
  obtain ⟨k, hk1, hk2, hk⟩ := decR_kind27 hD
  have hz : askM s m 0 ps = kindM s m ps k := by unfold askM; rw [if_neg (by simp), hk]; rfl
  refine Hs.run1 300 (fun _ => by kernel_rfl) fun b6 => ?_
  refine Hs.any [5] (by kernel_rfl) ?_
  refine Hs.run0 300 (fun _ => by kernel_rfl) ?_
  refine Hs.callV (fun w' H => kinds_any27 w') (by kernel_rfl) ?_
  refine Hs.slot 34 (.c (.v (.int .i64 k))) rfl ((by kernel_rfl : _ = Value.int .i64 m.kind).trans (by rw [hk]; rfl)) ?_
  rcases k10 hk1 hk2 with rfl | rfl | rfl | rfl | rfl | rfl | rfl | rfl | rfl | rfl
  · replace hz : askM s m 0 ps = ptyM s m := hz
    obtain ⟨z, hzz⟩ : ∃ z, ptyM s m = z := ⟨_, rfl⟩
    rw [hzz] at hz
    have henv : z.1.env = s.env := (congrArg (fun z : SS × AC => z.1.env) hzz.symm).trans (ptyM_env s m)
    refine Hs.run0 300 (fun _ => by kernel_rfl) ?_
    refine Hs.callP 6 88 (askSC z.1 A' cap' m pA ps.length pc z.2) (v := .tuple #[]) (fun w' H => by
      have hq := (H.atQ 4 (wr := true) (A := mAo m) (Q := fun w => m.ok w ∧ DecR nam l m 0) (st := fun w w' h1 h2 h => ⟨h.1.stable2 h1 h2, h.2⟩) (by kernel_rfl)).1
      have hB := H.at (wr := true) (T := 88) (cs := askSC s A' cap' m pA ps.length pc noA) 6 (by kernel_rfl)
      rw [dens_ask] at hB
      have hg : ∀ a, m.mA = some a → 0 < m.modes.length → a.block ≠ b6 := fun a ha h0 => own_apart H (A := mAo m) (Q := fun w => m.ok w ∧ DecR nam l m 0) (st := fun w w' h1 h2 h => ⟨h.1.stable2 h1 h2, h.2⟩) (T := 88) (cs := askSC s A' cap' m pA ps.length pc noA) 4 6 (by kernel_rfl) (by kernel_rfl) (by decide) a (by unfold mAo; rw [if_neg (by omega)]; exact ha)
      exact (pty_any27 s A' cap' m pA pc ps w' b6 hB ⟨rd_modes hq, hq.mle, hq.mmax⟩ hq.bytes hg).mono fun e w1 h => by rw [hzz] at h; rw [dens_ask]; exact h) (by kernel_rfl) (by kernel_rfl) ?_
    refine Hs.run0 300 (fun _ => by kernel_rfl) ?_
    refine Hs.any [6] (by kernel_rfl) ?_
    refine Hs.run0 300 (fun _ => by kernel_rfl) ?_
    exact Hs.ret (v := .tuple #[z.1.val A' cap', z.2.val]) Tryz.func11 (by kernel_rfl) fun w' H => askD_ok hz hD H (vs := s.env.flatMap cVar) (nl := s.env.length) (by rw [henv]) (by rw [henv]) (by kernel_rfl) rfl
  · replace hz : askM s m 0 ps = envM s m := hz
    unfold envM at hz
    refine Hs.run0 300 (fun _ => by kernel_rfl) ?_
    refine Hs.inl Tryz.func53 [.c (.p 6 0)] (by kernel_rfl) (by kernel_rfl) ?_
    refine Hs.run1 300 (fun _ => by kernel_rfl) fun b7 => ?_
    refine Hs.cond s.st (by kernel_rfl) (fun h4 => ?_) (fun h4 => ?_)
    · rw [if_pos h4] at hz
      refine Hs.run0 300 (fun _ => by kernel_rfl) ?_
      refine Hs.retI Tryz.func53 (by kernel_rfl) (by kernel_rfl) (by kernel_rfl) ?_
      refine Hs.run0 300 (fun _ => by kernel_rfl) ?_
      refine Hs.any [6] (by kernel_rfl) ?_
      refine Hs.run0 300 (fun _ => by kernel_rfl) ?_
      exact Hs.ret (v := .tuple #[s.val A' cap', noA.val]) Tryz.func11 (by kernel_rfl) fun w' H => askD_ok hz hD H rfl rfl (by kernel_rfl) rfl
    rw [if_neg (by rw [h4]; decide)] at hz
    refine Hs.run0 300 (fun _ => by kernel_rfl) ?_
    refine Hs.callV (v := .int .i64 (varI m.text s.env)) (fun w' H => by
      have hB := H.at (wr := true) (T := 88) (cs := askSC s A' cap' m pA ps.length pc noA) 6 (by kernel_rfl)
      rw [dens_ask] at hB
      have hne : b7 ≠ b6 := own_ne H 7 6 (T := 86) (cs := [.p 6 0]) (T' := 88) (cs' := askSC s A' cap' m pA ps.length pc noA) (by kernel_rfl) (by kernel_rfl) (by decide)
      have hR : RdX cVar w' A' s.env := H.rdX 3 (A := A') (cap := cap') (E := 59) (size := 2) rfl (by kernel_rfl)
      have hP : Blk w' b7 86 [.pointer (some ⟨b6, 0, none⟩)] := H.at (wr := true) (T := 86) (cs := [.p 6 0]) 7 (by kernel_rfl)
      exact indexV_any s A' cap' m pA ps.length pc noA b7 b6 hne A' cap' s.env w' hP hB hR (by unfold maxLen; omega)) (by kernel_rfl) ?_
    refine Hs.run0 300 (fun _ => by kernel_rfl) ?_
    refine Hs.condP (varI m.text s.env ≥ 0) (by kernel_rfl) (fun h5 => ?_) (fun h5 => ?_)
    · rw [if_pos h5] at hz
      obtain ⟨i, hi⟩ : ∃ i : Nat, varI m.text s.env = i := ⟨_, (Int.toNat_of_nonneg h5).symm⟩
      have hil : i < s.env.length := varI_lt hi
      rw [hi, Int.toNat_natCast] at hz
      refine Hs.someS (A := A') (cap := cap') (nl := s.env.length) (E := 59) (size := 2) (vs := s.env.flatMap cVar) 3 (by kernel_rfl) (by omega) fun g hA => ?_
      subst hA
      refine Hs.run0 300 (fun _ => by kernel_rfl) ?_
      refine Hs.any [6, 7] (by kernel_rfl) ?_
      refine Hs.run0 300 (fun _ => by kernel_rfl) ?_
      refine Hs.slot 45 (.c (.v (.int .i64 i))) rfl ((by kernel_rfl : _ = Value.int .i64 (varI m.text s.env)).trans (congrArg (Value.int .i64) hi)) ?_
      refine Hs.idx (b := g) (off := 0) (c := cap') (len := s.env.length) (i := i) elemVr hil (by kernel_rfl) ?_
      refine Hs.run0 300 (fun _ => by kernel_rfl) ?_
      refine Hs.stc2 (E := 59) (size := 2) (g := g) (cap := cap') (nl := s.env.length) (vs := s.env.flatMap cVar) (E' := 9) 3 (by kernel_rfl) (0 + i * 2 + 1) (by rw [var_len]; omega) (v := .string m.value) rfl rfl (by kernel_rfl) (by kernel_rfl) (by kernel_rfl) (vs' := (s.env.set i ⟨((s.env.map VR.n)[i]?).getD ⟨#[]⟩, m.value⟩).flatMap cVar) (by rw [Nat.zero_add]; exact splice_var s.env i hil m.value) ?_
      refine Hs.run0 300 (fun _ => by kernel_rfl) ?_
      refine Hs.callP 6 88 (askSC s (some ⟨g, 0, none⟩) cap' m pA ps.length pc okA) (v := .tuple #[]) (fun w' H => (ok_any27 s (some ⟨g, 0, none⟩) cap' m pA pc ps w' b6 noA (by have := H.at (wr := true) (T := 88) (cs := askSC s (some ⟨g, 0, none⟩) cap' m pA ps.length pc noA) 6 (by kernel_rfl); rw [dens_ask] at this; exact this)).mono fun e w1 h => by rw [dens_ask]; exact h) (by kernel_rfl) (by kernel_rfl) ?_
      refine Hs.run0 300 (fun _ => by kernel_rfl) ?_
      refine Hs.retI Tryz.func53 (by kernel_rfl) (by kernel_rfl) (by kernel_rfl) ?_
      refine Hs.run0 300 (fun _ => by kernel_rfl) ?_
      refine Hs.any [6] (by kernel_rfl) ?_
      refine Hs.run0 300 (fun _ => by kernel_rfl) ?_
      exact Hs.ret (v := .tuple #[s.val (some ⟨g, 0, none⟩) cap', okA.val]) Tryz.func11 (by kernel_rfl) fun w' H => askD_ok hz hD H rfl List.length_set (by kernel_rfl) (SS.val_env s _ _ List.length_set _ _)
    rw [if_neg h5] at hz
    refine Hs.run0 300 (fun _ => by kernel_rfl) ?_
    refine Hs.condP ((s.env.length : Int) ≥ 16) (by kernel_rfl) (fun h6 => ?_) (fun h6 => ?_)
    · rw [if_pos h6] at hz
      refine Hs.run0 300 (fun _ => by kernel_rfl) ?_
      refine Hs.retI Tryz.func53 (by kernel_rfl) (by kernel_rfl) (by kernel_rfl) ?_
      refine Hs.run0 300 (fun _ => by kernel_rfl) ?_
      refine Hs.any [6] (by kernel_rfl) ?_
      refine Hs.run0 300 (fun _ => by kernel_rfl) ?_
      exact Hs.ret (v := .tuple #[s.val A' cap', noA.val]) Tryz.func11 (by kernel_rfl) fun w' H => askD_ok hz hD H rfl rfl (by kernel_rfl) rfl
    rw [if_neg h6] at hz
    refine Hs.run0 300 (fun _ => by kernel_rfl) ?_
    refine Hs.any [6, 7, 1022] (by kernel_rfl) ?_
    refine Hs.run1 300 (fun _ => by kernel_rfl) fun b8 => ?_
    refine Hs.app (cf := cVar) (c := 1) (ty := 39) 3 elemVr s.env [(⟨m.text, m.value⟩ : VR)] s.env.length 1 rfl rfl cVar_one cVar_len (A := A') (B := some ⟨b8, 0, none⟩) (cap := cap') (by kernel_rfl) (by kernel_rfl) (by kernel_rfl) (fun w' H => H.rdB (gs := [(⟨m.text, m.value⟩ : VR)]) 8 (wr := true) (T := 59) (cs := VR.sc ⟨m.text, m.value⟩) (by kernel_rfl) rfl) (by unfold maxLen; omega) (by rw [by_vr]; omega) fun A2 cap2 h7 => ?_
    refine Hs.runK [95] 1000 0 Tryz.func53 rfl (by kernel_rfl) (fun ν => by kernel_rfl) (fun ν => by kernel_rfl) fun ν hν => ?_
    obtain rfl := List.length_eq_zero_iff.1 hν
    refine Hs.retI Tryz.func53 (by kernel_rfl) (by kernel_rfl) (by kernel_rfl) ?_
    refine Hs.run0 300 (fun _ => by kernel_rfl) ?_
    refine Hs.any [6] (by kernel_rfl) ?_
    refine Hs.run0 300 (fun _ => by kernel_rfl) ?_
    exact Hs.ret (v := .tuple #[s.valL A2 (s.env.length + 1) cap2, okA.val]) Tryz.func11 (by kernel_rfl) fun w' H => askD_ok hz hD H (A' := A2) (cap' := cap2) (nl := s.env.length + 1) rfl (by show (s.env ++ [_]).length = _; rw [List.length_append]; rfl) (by kernel_rfl) (SS.val_env s (s.env ++ [⟨m.text, m.value⟩]) (s.env.length + 1) (by rw [List.length_append]; rfl) A2 cap2)
  · replace hz : askM s m 0 ps = startS s shellS ps := hz
    obtain ⟨z, hzz⟩ : ∃ z, startS s shellS ps = z := ⟨_, rfl⟩
    rw [hzz] at hz
    have henv : z.1.env = s.env := (congrArg (fun z : SS × AC => z.1.env) hzz.symm).trans (startS_env s shellS ps)
    refine Hs.run0 300 (fun _ => by kernel_rfl) ?_
    refine Hs.callP 6 88 (askSC z.1 A' cap' m pA ps.length pc z.2) (v := .tuple #[]) (fun w' H => (shell_any27 s A' cap' m pA pc ps w' b6 (by have := H.at (wr := true) (T := 88) (cs := askSC s A' cap' m pA ps.length pc noA) 6 (by kernel_rfl); rw [dens_ask] at this; exact this) (hr.only H.only) hpl (fun a ha h0 => by obtain ⟨b, off, e, hlt, _⟩ := hr h0; rw [ha] at e; injection e with e; have : w.heap.size ≤ b6 := own_ge H 6 (T := 88) (cs := askSC s A' cap' m pA ps.length pc noA) (by kernel_rfl); rw [e]; show b ≠ b6; omega)).mono fun e w1 h => by rw [hzz] at h; rw [dens_ask]; exact h) (by kernel_rfl) (by kernel_rfl) ?_
    refine Hs.run0 300 (fun _ => by kernel_rfl) ?_
    refine Hs.any [6] (by kernel_rfl) ?_
    refine Hs.run0 300 (fun _ => by kernel_rfl) ?_
    exact Hs.ret (v := .tuple #[z.1.val A' cap', z.2.val]) Tryz.func11 (by kernel_rfl) fun w' H => askD_ok hz hD H (vs := s.env.flatMap cVar) (nl := s.env.length) (by rw [henv]) (by rw [henv]) (by kernel_rfl) rfl
  · replace hz : askM s m 0 ps = startS s (cutS m.text) ps := hz
    obtain ⟨z, hzz⟩ : ∃ z, startS s (cutS m.text) ps = z := ⟨_, rfl⟩
    rw [hzz] at hz
    have henv : z.1.env = s.env := (congrArg (fun z : SS × AC => z.1.env) hzz.symm).trans (startS_env s (cutS m.text) ps)
    refine Hs.run0 300 (fun _ => by kernel_rfl) ?_
    refine Hs.callP 6 88 (askSC z.1 A' cap' m pA ps.length pc z.2) (v := .tuple #[]) (fun w' H => (exec_any27 s A' cap' m pA pc ps w' b6 i0 (cell_step H.only h00) (by have : w.heap.size ≤ b6 := own_ge H 6 (T := 88) (cs := askSC s A' cap' m pA ps.length pc noA) (by kernel_rfl); omega) (by have := dec_text hD hk; omega) (by have := H.at (wr := true) (T := 88) (cs := askSC s A' cap' m pA ps.length pc noA) 6 (by kernel_rfl); rw [dens_ask] at this; exact this) (hr.only H.only) hpl (fun a ha h0 => by obtain ⟨b, off, e, hlt, _⟩ := hr h0; rw [ha] at e; injection e with e; have : w.heap.size ≤ b6 := own_ge H 6 (T := 88) (cs := askSC s A' cap' m pA ps.length pc noA) (by kernel_rfl); rw [e]; show b ≠ b6; omega)).mono fun e w1 h => by rw [hzz] at h; rw [dens_ask]; exact h) (by kernel_rfl) (by kernel_rfl) ?_
    refine Hs.run0 300 (fun _ => by kernel_rfl) ?_
    refine Hs.any [6] (by kernel_rfl) ?_
    refine Hs.run0 300 (fun _ => by kernel_rfl) ?_
    exact Hs.ret (v := .tuple #[z.1.val A' cap', z.2.val]) Tryz.func11 (by kernel_rfl) fun w' H => askD_ok hz hD H (vs := s.env.flatMap cVar) (nl := s.env.length) (by rw [henv]) (by rw [henv]) (by kernel_rfl) rfl
  · replace hz : askM s m 0 ps = startS s m.text ps := hz
    obtain ⟨z, hzz⟩ : ∃ z, startS s m.text ps = z := ⟨_, rfl⟩
    rw [hzz] at hz
    have henv : z.1.env = s.env := (congrArg (fun z : SS × AC => z.1.env) hzz.symm).trans (startS_env s m.text ps)
    refine Hs.run0 300 (fun _ => by kernel_rfl) ?_
    refine Hs.callP 6 88 (askSC z.1 A' cap' m pA ps.length pc z.2) (v := .tuple #[]) (fun w' H => (subsystem_any27 s A' cap' m pA pc ps w' b6 (by have := H.at (wr := true) (T := 88) (cs := askSC s A' cap' m pA ps.length pc noA) 6 (by kernel_rfl); rw [dens_ask] at this; exact this) (hr.only H.only) hpl (fun a ha h0 => by obtain ⟨b, off, e, hlt, _⟩ := hr h0; rw [ha] at e; injection e with e; have : w.heap.size ≤ b6 := own_ge H 6 (T := 88) (cs := askSC s A' cap' m pA ps.length pc noA) (by kernel_rfl); rw [e]; show b ≠ b6; omega)).mono fun e w1 h => by rw [hzz] at h; rw [dens_ask]; exact h) (by kernel_rfl) (by kernel_rfl) ?_
    refine Hs.run0 300 (fun _ => by kernel_rfl) ?_
    refine Hs.any [6] (by kernel_rfl) ?_
    refine Hs.run0 300 (fun _ => by kernel_rfl) ?_
    exact Hs.ret (v := .tuple #[z.1.val A' cap', z.2.val]) Tryz.func11 (by kernel_rfl) fun w' H => askD_ok hz hD H (vs := s.env.flatMap cVar) (nl := s.env.length) (by rw [henv]) (by rw [henv]) (by kernel_rfl) rfl
  · replace hz : askM s m 0 ps = sizeM s m := hz
    obtain ⟨z, hzz⟩ : ∃ z, sizeM s m = z := ⟨_, rfl⟩
    rw [hzz] at hz
    have henv : z.1.env = s.env := (congrArg (fun z : SS × AC => z.1.env) hzz.symm).trans (sizeM_env s m)
    refine Hs.run0 300 (fun _ => by kernel_rfl) ?_
    refine Hs.callP 6 88 (askSC z.1 A' cap' m pA ps.length pc z.2) (v := .tuple #[]) (fun w' H => (resize_any27 s A' cap' m pA pc ps w' b6 (by have := H.at (wr := true) (T := 88) (cs := askSC s A' cap' m pA ps.length pc noA) 6 (by kernel_rfl); rw [dens_ask] at this; exact this)).mono fun e w1 h => by rw [hzz] at h; rw [dens_ask]; exact h) (by kernel_rfl) (by kernel_rfl) ?_
    refine Hs.run0 300 (fun _ => by kernel_rfl) ?_
    refine Hs.any [6] (by kernel_rfl) ?_
    refine Hs.run0 300 (fun _ => by kernel_rfl) ?_
    exact Hs.ret (v := .tuple #[z.1.val A' cap', z.2.val]) Tryz.func11 (by kernel_rfl) fun w' H => askD_ok hz hD H (vs := s.env.flatMap cVar) (nl := s.env.length) (by rw [henv]) (by rw [henv]) (by kernel_rfl) rfl
  · replace hz : askM s m 0 ps = ((s, noA) : SS × AC) := hz
    obtain ⟨z, hzz⟩ : ∃ z, ((s, noA) : SS × AC) = z := ⟨_, rfl⟩
    rw [hzz] at hz
    have henv : z.1.env = s.env := (congrArg (fun z : SS × AC => z.1.env) hzz.symm).trans (rfl)
    refine Hs.run0 300 (fun _ => by kernel_rfl) ?_
    refine Hs.callP 6 88 (askSC z.1 A' cap' m pA ps.length pc z.2) (v := .tuple #[]) (fun w' H => (nothing_any27 s A' cap' m pA pc ps w' b6 (by have := H.at (wr := true) (T := 88) (cs := askSC s A' cap' m pA ps.length pc noA) 6 (by kernel_rfl); rw [dens_ask] at this; exact this)).mono fun e w1 h => by rw [hzz] at h; rw [dens_ask]; exact h) (by kernel_rfl) (by kernel_rfl) ?_
    refine Hs.run0 300 (fun _ => by kernel_rfl) ?_
    refine Hs.any [6] (by kernel_rfl) ?_
    refine Hs.run0 300 (fun _ => by kernel_rfl) ?_
    exact Hs.ret (v := .tuple #[z.1.val A' cap', z.2.val]) Tryz.func11 (by kernel_rfl) fun w' H => askD_ok hz hD H (vs := s.env.flatMap cVar) (nl := s.env.length) (by rw [henv]) (by rw [henv]) (by kernel_rfl) rfl
  · replace hz : askM s m 0 ps = sigM s m := hz
    obtain ⟨z, hzz⟩ : ∃ z, sigM s m = z := ⟨_, rfl⟩
    rw [hzz] at hz
    have henv : z.1.env = s.env := (congrArg (fun z : SS × AC => z.1.env) hzz.symm).trans (sigM_env s m)
    refine Hs.run0 300 (fun _ => by kernel_rfl) ?_
    refine Hs.callP 6 88 (askSC z.1 A' cap' m pA ps.length pc z.2) (v := .tuple #[]) (fun w' H => (signal_any27 s A' cap' m pA pc ps w' b6 (by have := H.at (wr := true) (T := 88) (cs := askSC s A' cap' m pA ps.length pc noA) 6 (by kernel_rfl); rw [dens_ask] at this; exact this)).mono fun e w1 h => by rw [hzz] at h; rw [dens_ask]; exact h) (by kernel_rfl) (by kernel_rfl) ?_
    refine Hs.run0 300 (fun _ => by kernel_rfl) ?_
    refine Hs.any [6] (by kernel_rfl) ?_
    refine Hs.run0 300 (fun _ => by kernel_rfl) ?_
    exact Hs.ret (v := .tuple #[z.1.val A' cap', z.2.val]) Tryz.func11 (by kernel_rfl) fun w' H => askD_ok hz hD H (vs := s.env.flatMap cVar) (nl := s.env.length) (by rw [henv]) (by rw [henv]) (by kernel_rfl) rfl
  · replace hz : askM s m 0 ps = ((s, noA) : SS × AC) := hz
    obtain ⟨z, hzz⟩ : ∃ z, ((s, noA) : SS × AC) = z := ⟨_, rfl⟩
    rw [hzz] at hz
    have henv : z.1.env = s.env := (congrArg (fun z : SS × AC => z.1.env) hzz.symm).trans (rfl)
    refine Hs.run0 300 (fun _ => by kernel_rfl) ?_
    refine Hs.callP 6 88 (askSC z.1 A' cap' m pA ps.length pc z.2) (v := .tuple #[]) (fun w' H => (nothing_any27 s A' cap' m pA pc ps w' b6 (by have := H.at (wr := true) (T := 88) (cs := askSC s A' cap' m pA ps.length pc noA) 6 (by kernel_rfl); rw [dens_ask] at this; exact this)).mono fun e w1 h => by rw [hzz] at h; rw [dens_ask]; exact h) (by kernel_rfl) (by kernel_rfl) ?_
    refine Hs.run0 300 (fun _ => by kernel_rfl) ?_
    refine Hs.any [6] (by kernel_rfl) ?_
    refine Hs.run0 300 (fun _ => by kernel_rfl) ?_
    exact Hs.ret (v := .tuple #[z.1.val A' cap', z.2.val]) Tryz.func11 (by kernel_rfl) fun w' H => askD_ok hz hD H (vs := s.env.flatMap cVar) (nl := s.env.length) (by rw [henv]) (by rw [henv]) (by kernel_rfl) rfl
  · replace hz : askM s m 0 ps = ((s, noA) : SS × AC) := hz
    obtain ⟨z, hzz⟩ : ∃ z, ((s, noA) : SS × AC) = z := ⟨_, rfl⟩
    rw [hzz] at hz
    have henv : z.1.env = s.env := (congrArg (fun z : SS × AC => z.1.env) hzz.symm).trans (rfl)
    refine Hs.run0 300 (fun _ => by kernel_rfl) ?_
    refine Hs.callP 6 88 (askSC z.1 A' cap' m pA ps.length pc z.2) (v := .tuple #[]) (fun w' H => (nothing_any27 s A' cap' m pA pc ps w' b6 (by have := H.at (wr := true) (T := 88) (cs := askSC s A' cap' m pA ps.length pc noA) 6 (by kernel_rfl); rw [dens_ask] at this; exact this)).mono fun e w1 h => by rw [hzz] at h; rw [dens_ask]; exact h) (by kernel_rfl) (by kernel_rfl) ?_
    refine Hs.run0 300 (fun _ => by kernel_rfl) ?_
    refine Hs.any [6] (by kernel_rfl) ?_
    refine Hs.run0 300 (fun _ => by kernel_rfl) ?_
    exact Hs.ret (v := .tuple #[z.1.val A' cap', z.2.val]) Tryz.func11 (by kernel_rfl) fun w' H => askD_ok hz hD H (vs := s.env.flatMap cVar) (nl := s.env.length) (by rw [henv]) (by rw [henv]) (by kernel_rfl) rfl
end Go.Proofs.YtdplnedpbkpgpaaGreatDoor

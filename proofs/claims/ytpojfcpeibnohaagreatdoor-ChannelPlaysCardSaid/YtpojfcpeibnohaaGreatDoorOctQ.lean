/- Layer 1: Read; for all kinds and bytes, no condition but their number. -/
import Derived.Test.YtpojfcpeibnohaaGreatDoorOctP
namespace Go.Proofs.YtpojfcpeibnohaaGreatDoor
set_option linter.all false
open Go.RowKit

/-- What Read hands on. -/
def ReadPost (w : World) (res : Int × List PF) : Ending → World → Prop := fun E w' =>
  Only [] w w' ∧ ∃ A cap fs, E = .returned (.tuple #[.slice A fs.length cap, .int .i64 res.1]) ∧ fs.map FD.pf = res.2 ∧ OwnF w' w.heap.size (.slice A fs.length cap) fs ∧
    ∀ f ∈ fs, FD.mine w' f w.heap.size ∧ f.far w.heap.size (.slice A fs.length cap)
theorem readPost_none (w w' : World) (e : Int) (h : Only [] w w') : ReadPost w (e, []) (.returned (.tuple #[.slice none 0 0, .int .i64 e])) w' :=
  ⟨h, none, 0, [], rfl, rfl, ownF_nil _ _, fun f hf => by simp at hf⟩

theorem RdrV.farL {w w' : World} {g : Nat} {L : List Nat} {A : Option Addr} {cap : Nat} {l : List Int} {e : Int} (h : RdrV w g A cap l e) (hb : Only L w w') (hq : ∀ x ∈ L, g < x) : RdrV w' g A cap l e :=
  { h with
    blk := h.blk.only hb (fun hm => by have := hq _ hm; omega)
    rd := RdG.onlyL (mk := .int .u8) h.rd hb (fun a ha _ hm => by have h1 := h.far a ha; have h2 := hq _ hm; omega) }
theorem FD.mine.off {w w' : World} {f : FD} {B : Nat} {L : List Nat} (h : FD.mine w f B) (hb : Only L w w') (h1 : ∀ a, f.tA = some a → 0 < f.text.length → a.block ∉ L) (h2 : ∀ a, f.lA = some a → 0 < f.list.length → a.block ∉ L) : FD.mine w' f B :=
  { h with
    ok := { h.ok with text := h.ok.text.onlyL hb h1, list := h.ok.list.onlyL hb h2 }
    soft := fun a ha i hi => by
      obtain ⟨b, off, e, hlt, _⟩ := h.ok.text (by omega)
      rw [ha] at e
      injection e with e
      refine (World.frozen?_of_block (w := w) ?_).trans (h.soft a ha i hi)
      rw [block_add]
      exact hb.block _ (by rw [e]; exact hlt) (h1 a ha (by omega)) }
theorem OwnF.mono {w : World} {base base' : Nat} {v : Value} {fs : List FD} (h : OwnF w base v fs) (hb : base' ≤ base) : OwnF w base' v fs := by
  refine ⟨h.1, ?_⟩
  rcases h.2 with h | ⟨g, cap, cur, e, hg, r⟩
  · exact .inl h
  · exact .inr ⟨g, cap, cur, e, by omega, r⟩
theorem FD.ok.tlt {w : World} {f : FD} (h : f.ok w) : ∀ a, f.tA = some a → 0 < f.text.length → a.block < w.heap.size := fun a ha h0 => h.text.lt h0 a ha
theorem FD.ok.llt {w : World} {f : FD} (h : f.ok w) : ∀ a, f.lA = some a → 0 < f.list.length → a.block < w.heap.size := fun a ha h0 => h.list.lt h0 a ha

/-- Where Read's loop stands: k kinds are read, these fields, this is left. -/
structure RL (w wr : World) (q : Nat) (ks : List Int) (res : Int × List PF) (k : Nat) (v : Value) (fs : List FD) (A : Option Addr) (cap : Nat) (rest : List Int) : Prop where
  res : res = readFrom (ks.drop k) rest (fs.map FD.pf)
  rdr : RdrV wr (q + 1) A cap rest 0
  bytes : ∀ x ∈ rest, 0 ≤ x ∧ x < 256
  few : rest.length ≤ 140737488355000
  tab : Blk wr q 140 tab.toList
  own : OwnF wr (q + 2) v fs
  mine : ∀ f ∈ fs, FD.mine wr f (q + 2) ∧ f.far (q + 1) v
  num : fs.length = k
  only : Only [] w wr
  low : w.heap.size ≤ q

end Go.Proofs.YtpojfcpeibnohaaGreatDoor

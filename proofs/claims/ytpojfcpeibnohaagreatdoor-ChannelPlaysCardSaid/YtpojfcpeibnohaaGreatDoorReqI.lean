/- Layer 4: Decode; no condition but the number of bytes. -/
import Derived.Test.YtpojfcpeibnohaaGreatDoorReqG
import Derived.Test.YtpojfcpeibnohaaGreatDoorReqD
namespace Go.Proofs.YtpojfcpeibnohaaGreatDoor
set_option linter.all false
open Go.RowKit

/-- The result set. -/
def rset (w : World) (q : Nat) (m : RQ) : World := (((((((((((w.setCell ⟨q, 0, none⟩ (.int .i64 m.kind)).setCell ⟨q, 1, none⟩ (.string m.text)).setCell ⟨q, 2, none⟩ (.string m.value)).setCell ⟨q, 3, none⟩ (.string m.lang)).setCell ⟨q, 4, none⟩ (.int .u32 m.cols)).setCell ⟨q, 5, none⟩ (.int .u32 m.rows)).setCell ⟨q, 6, none⟩ (.int .u32 m.width)).setCell ⟨q, 7, none⟩ (.int .u32 m.height)).setCell ⟨q, 8, none⟩ (.slice m.mA m.modes.length m.mc)).setCell ⟨q, 9, none⟩ (.bool m.on)).setCell ⟨q, 10, none⟩ (.int .u32 m.code))
theorem rsetB {w : World} {q : Nat} {m0 : RQ} (m : RQ) (K : Blk w q 39 m0.cells) : Blk (rset w q m) q 39 m.cells := (((((((((((K.set_ 0 _).set_ 1 _).set_ 2 _).set_ 3 _).set_ 4 _).set_ 5 _).set_ 6 _).set_ 7 _).set_ 8 _).set_ 9 _).set_ 10 _)
theorem rsetO {L : List Nat} {w0 w : World} {q : Nat} (m : RQ) (hq : q ∈ L ∨ w0.heap.size ≤ q) (h : Only L w0 w) : Only L w0 (rset w q m) := (((((((((((h.setCell (p := ⟨q, 0, none⟩) hq _).setCell (p := ⟨q, 1, none⟩) hq _).setCell (p := ⟨q, 2, none⟩) hq _).setCell (p := ⟨q, 3, none⟩) hq _).setCell (p := ⟨q, 4, none⟩) hq _).setCell (p := ⟨q, 5, none⟩) hq _).setCell (p := ⟨q, 6, none⟩) hq _).setCell (p := ⟨q, 7, none⟩) hq _).setCell (p := ⟨q, 8, none⟩) hq _).setCell (p := ⟨q, 9, none⟩) hq _).setCell (p := ⟨q, 10, none⟩) hq _)
theorem ret_req {fn : Func} {p t : Tmp} {R : Ending → World → Prop} {a : Act} {w : World} {g : Nat} (m : RQ) (h : fn.results = #[.cell p 39, .tmp t]) (hp : a.tmps.getD p undef = .pointer (some ⟨g, 0, none⟩)) (hd : a.defers = [])
    (hg : Blk w g 39 m.cells) (hR : R (.returned (.tuple #[m.val, a.tmps.getD t undef])) w) : bodyPost Tryz.prog fn R .ret a w :=
  ret_row_tmp m.cells.toArray h hp hd hg Tryz.underlying39 rfl (by unfold RQ.cells; kernel_rfl) hR
/-- A request's modes can be written. -/
def RSoft (m : RQ) (w : World) : Prop := ∀ a, m.mA = some a → ∀ i, i < m.modes.length → w.frozen? (a.add i) = false
theorem RSoft.onlyL {w w' : World} {m : RQ} {L : List Nat} (h : RSoft m w) (ho : m.ok w) (hb : Only L w w') (hL : ∀ a, m.mA = some a → 0 < m.modes.length → a.block ∉ L) : RSoft m w' := by
  intro a ha i hi
  obtain ⟨b, off, e, hlt, _⟩ := ho.modes (by omega)
  rw [ha] at e
  injection e with e
  refine (World.frozen?_of_block (w := w) ?_).trans (h a ha i hi)
  rw [block_add]
  exact hb.block _ (by rw [e]; exact hlt) (hL a ha (by omega))
theorem RQ.ok.onlyL {w w' : World} {L : List Nat} {m : RQ} (h : m.ok w) (hb : Only L w w') (hn : ∀ a, m.mA = some a → 0 < m.modes.length → a.block ∉ L) : m.ok w' :=
  { h with modes := RdG.onlyL h.modes hb hn }
/-- What Decode hands on. -/
def RDecPost (w : World) (s : ByteArray) (l : List Int) : Ending → World → Prop := fun e w' => Only [] w w' ∧ ∃ (m : RQ) (E : Int), e = .returned (.tuple #[m.val, .int .i64 E]) ∧ m.ok w' ∧ (∀ a, m.mA = some a → w.heap.size ≤ a.block) ∧ RSoft m w' ∧ DecR s l m E
theorem zeroR_new (B : Nat) : ∀ a, zeroR.mA = some a → B ≤ a.block := fun a ha => by simp [zeroR] at ha
theorem zeroR_soft (w : World) : RSoft zeroR w := fun a ha => by simp [zeroR] at ha
structure PutOk (w : World) (B : Nat) (m : RQ) : Prop where
  ok : m.ok w
  new : ∀ a, m.mA = some a → B ≤ a.block
  soft : RSoft m w
theorem put_ok {w : World} {B : Nat} {fs : List FD} (k : Nat) (h1 : 1 ≤ k) (h2 : k ≤ 10) (hk : fs.map (fun f => f.pf.kind) = rkinds k) (hm : ∀ f ∈ fs, FD.mine w f B) (hn : ∀ f ∈ fs, U32 f.n ∧ InB f.text) : PutOk w B (putR (firstR k) k fs) := by
  have z0 : PutOk w B (firstR k) := ⟨firstR_ok w k, fun a ha => by simp [firstR, zeroR] at ha, fun a ha => by simp [firstR, zeroR] at ha⟩
  have hs : ∀ f ∈ fs, (strOfNums f.text).size ≤ maxLen := fun f hf => by rw [str_size]; exact Nat.le_trans (hm f hf).ok.tle (hm f hf).ok.tmax
  have z : U32 0 := ⟨by decide, by decide⟩
  rcases k10 h1 h2 with rfl | rfl | rfl | rfl | rfl | rfl | rfl | rfl | rfl | rfl
  · obtain ⟨x1, x2, x3, x4, x5, x6, rfl, _⟩ := ks6 hk
    exact ⟨{ z0.ok with text := hs x1 (by simp), nums := ⟨(hn x2 (by simp)).1, (hn x3 (by simp)).1, (hn x4 (by simp)).1, (hn x5 (by simp)).1, z⟩, modes := (hm x6 (by simp)).ok.text, mle := (hm x6 (by simp)).ok.tle, mmax := (hm x6 (by simp)).ok.tmax, bytes := (hn x6 (by simp)).2 }, (hm x6 (by simp)).new.1, (hm x6 (by simp)).soft⟩
  · obtain ⟨x1, x2, rfl, _⟩ := ks2 hk
    exact ⟨{ z0.ok with text := hs x1 (by simp), value := hs x2 (by simp) }, z0.new, z0.soft⟩
  · exact z0
  · obtain ⟨x1, rfl, _⟩ := ks1 hk
    exact ⟨{ z0.ok with text := hs x1 (by simp) }, z0.new, z0.soft⟩
  · obtain ⟨x1, rfl, _⟩ := ks1 hk
    exact ⟨{ z0.ok with text := hs x1 (by simp) }, z0.new, z0.soft⟩
  · obtain ⟨x1, x2, x3, x4, rfl, _⟩ := ks4 hk
    exact ⟨{ z0.ok with nums := ⟨(hn x1 (by simp)).1, (hn x2 (by simp)).1, (hn x3 (by simp)).1, (hn x4 (by simp)).1, z⟩ }, z0.new, z0.soft⟩
  · obtain ⟨x1, rfl, _⟩ := ks1 hk
    exact ⟨{ z0.ok with }, z0.new, z0.soft⟩
  · obtain ⟨x1, rfl, _⟩ := ks1 hk
    exact ⟨{ z0.ok with text := hs x1 (by simp) }, z0.new, z0.soft⟩
  · obtain ⟨x1, rfl, _⟩ := ks1 hk
    exact ⟨{ z0.ok with nums := ⟨z, z, z, z, (hn x1 (by simp)).1⟩ }, z0.new, z0.soft⟩
  · obtain ⟨x1, x2, x3, x4, rfl, _⟩ := ks4 hk
    exact ⟨{ z0.ok with text := hs x1 (by simp), value := hs x3 (by simp), lang := hs x4 (by simp) }, z0.new, z0.soft⟩
theorem str_ne {x y : ByteArray} (h : ¬ x = y) : (x.toList == y.toList) = false := by
  rw [beq_eq_false_iff_ne]
  intro e
  rw [ByteArray.toList_eq, ByteArray.toList_eq] at e
  exact h (bytes_ext e)
theorem rule_index0 (q : Nat) (w : World) : (Instr.index 132 (.agg (rtab q)) (.int .i64 ((0 : Nat) : Int))).run Tryz.prog w = .ok (.agg #[.string ⟨#[]⟩, .slice none 0 0, .nilFunc, .nilFunc, .nilFunc]) w := by kernel_rfl
theorem kinds_len (k : Nat) : (rkinds k).length ≤ 6 := by unfold rkinds; split <;> decide
theorem decR_none {s : ByteArray} (l : List Int) (h : ∀ j, 1 ≤ j → j < 11 → rname j ≠ s) : DecR s l zeroR 8 := by
  unfold DecR
  cases hk : kindL s.data.toList with
  | none => exact ⟨rfl, rfl⟩
  | some k =>
    obtain ⟨h1, h2, e⟩ := kindL_range hk
    exact absurd (bytes_ext (by rw [rname_data, e])) (h k h1 (by omega))
theorem decR_kind {k : Nat} (h1 : 1 ≤ k) (h2 : k ≤ 10) {l : List Int} {m : RQ} {E : Int} (h : DecK k l m E) : DecR (rname k) l m E := by
  unfold DecR
  rw [rname_data, kindL_name k h1 h2]
  exact h
end Go.Proofs.YtpojfcpeibnohaaGreatDoor

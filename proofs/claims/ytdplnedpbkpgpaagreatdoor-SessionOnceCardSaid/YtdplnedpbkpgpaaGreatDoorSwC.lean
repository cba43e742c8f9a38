/- Layer 4: the getters; no condition but the sizes that can be · A text of bytes that are read; no condition · Layer 4: the putters; no condition but that the fields are there · Layer 4: the getters and the putters, by the kind; no condition but the sizes · Layer 4: a kind's rule, its name; no condition · Layer 4: what is asked of a request; no condition · Layer 4: Decode; no condition but the number of bytes · Layer 8: whether a setting may be: all flags, one by one (a range over a function); for all settings; no condition · Layer 27: a session, and what is asked of it; the plain answer, and its parts. No condition · Layer 27: what is done with what is asked, method by method; for all sessions and requests; the slice of programs lies elsewhere · The machine: a way on that is shared by several ways; states that differ in the order of their slots alone. No condition. -/
import Derived.Test.YtdplnedpbkpgpaaGreatDoorSwB
import Derived.Test.YtdplnedpbkpgpaaGreatDoorApX
import Derived.Test.YtdplnedpbkpgpaaGreatDoorShelf
import Derived.RangeFuncNested
import Derived.RangeFuncBound
import Derived.RangeFuncCalls
import Derived.RangeFuncLeaves
import Derived.Shelf.Abstract
import Derived.Shelf.RegionOpen
import Derived.WalkKit
import Derived.OwnWalkIn
import Derived.TacticsInMore
import Derived.LoopNIn
import Derived.LoopIn
import Derived.Test.YtdplnedpbkpgpaaGreatDoorSwA
import Derived.Test.YtdplnedpbkpgpaaGreatDoorEngF
namespace Go.Proofs.YtdplnedpbkpgpaaGreatDoor
set_option linter.all false
open Go.RowKit

theorem elemF : ElemT Tryz.prog 120 123 4 64 := elemT_of Tryz.underlying120 fieldInfos rfl (by decide)
theorem oneF : ∀ f : FD, ∀ u ∈ f.cells, u.oneCell' = true := by intro f u hu; simp [FD.cells] at hu; rcases hu with rfl | rfl | rfl | rfl <;> rfl
theorem lenF : ∀ f : FD, f.cells.length = 4 := fun _ => rfl
theorem okOff_app {w w' : World} {v v' : Value} {fs : List FD} (P : Only v.ownBlock.toList w w') (G : Where2 v v' w.heap.size) (h : ∀ f ∈ fs, FD.ok w f ∧ f.off v) : ∀ f ∈ fs, FD.ok w' f ∧ f.off v' := by
  intro f hf
  obtain ⟨ok, off⟩ := h f hf
  have t1 := ok.tlt
  have t2 := ok.llt
  refine ⟨{ ok with text := ok.text.onlyL P (fun a ha h0 hx => off.1 a ha h0 (by simpa using hx)), list := ok.list.onlyL P (fun a ha h0 hx => off.2 a ha h0 (by simpa using hx)) }, fun a ha h0 hx => ?_, fun a ha h0 hx => ?_⟩
  · rcases G with e | e
    · rw [e] at hx; exact off.1 a ha h0 hx
    · rw [e] at hx; injection hx with hx; have := t1 a ha h0; omega
  · rcases G with e | e
    · rw [e] at hx; exact off.2 a ha h0 hx
    · rw [e] at hx; injection hx with hx; have := t2 a ha h0; omega
theorem off_plain {f : FD} {v : Value} (h1 : f.text = []) (h2 : f.list = []) : f.off v := ⟨fun a ha h0 => by rw [h1] at h0; simp at h0, fun a ha h0 => by rw [h2] at h0; simp at h0⟩
theorem sizes_plain {m : RQ} {fs : List FD} (h : fs.map FD.pf = (partsR m 6).map (fun p => { p with kind := 0 })) : ∀ f ∈ fs, f.text = [] ∧ f.list = [] := by
  intro f hf
  have : f.pf ∈ fs.map FD.pf := List.mem_map_of_mem hf
  rw [h] at this
  simp only [partsR, List.map_cons, List.map_nil, List.mem_cons, List.not_mem_nil, or_false] at this
  have e1 : f.text = f.pf.text := rfl
  have e2 : f.list = f.pf.list := rfl
  rw [e1, e2]
  rcases this with e | e | e | e <;> rw [e] <;> exact ⟨rfl, rfl⟩
theorem rdX_one {w : World} {q : Nat} {f : FD} (h : Blk w q 123 f.cells) : RdX FD.cells w (some ⟨q, 0, none⟩) [f] := fun _ => ⟨q, 0, rfl, h.lt, fun j u hj => by
  rw [Nat.zero_add, h.cell]
  simpa using hj⟩
section
variable (m : RQ) (g : Nat) (w : World)
theorem pty_end {m : RQ} {w x : World} {v : Value} {fs1 fs2 : List FD} (hm : m.ok w) (PE : Only [] w x) (V : OwnX FD.cells 123 4 x w.heap.size v ((fs1 ++ fs2) ++ [⟨0, 0, m.mA, m.mc, m.modes, none, 0, []⟩])) (M : ∀ f ∈ fs1 ++ fs2, FD.ok x f ∧ f.off v)
    (hp1 : fs1.map FD.pf = (partsR m 4).map (fun p => { p with kind := 0 })) (hp2 : fs2.map FD.pf = (partsR m 6).map (fun p => { p with kind := 0 })) (hn1 : ∀ f ∈ fs1, U32 f.n) (hn2 : ∀ f ∈ fs2, U32 f.n) : GetsPost w (partsR m 1) (.returned v) x := by
  refine ⟨PE, v, _, rfl, V, ?_, fun f hf => ?_, fun f hf => ?_⟩
  · rw [List.map_append, List.map_append, hp1, hp2]; rfl
  · rcases List.mem_append.1 hf with hf | hf
    · exact M f hf
    · rw [List.mem_singleton] at hf
      subst hf
      refine ⟨⟨hm.modes.only PE, RdG.nil, hm.mle, hm.mmax, by simp, by simp, by simp⟩, fun a ha h0 hx => ?_, fun a ha => by simp at ha⟩
      have h1 := (V.block _ hx).1
      have h2 := RdG.lt (mk := .int .u8) hm.modes h0 a ha
      omega
  · rcases List.mem_append.1 hf with hf | hf
    · rcases List.mem_append.1 hf with hf | hf
      · exact hn1 f hf
      · exact hn2 f hf
    · rw [List.mem_singleton] at hf
      subst hf
      exact ⟨Int.le_refl 0, show (0 : Int) ≤ 4294967295 by decide⟩
set_option maxRecDepth 100000 in
set_option maxHeartbeats 1600000 in
theorem getPtyR_any (hg : Blk w g 119 m.cells) (hm : m.ok w) (hs : m.text.size ≤ 140737488355328) : Calls Tryz.prog 71 #[.pointer (some ⟨g, 0, none⟩)] w (GetsPost w (partsR m 1)) := by
  have hlt := hg.lt
  go_enter Tryz.func71, Tryz.ntmps71
  go_wp2_with fail
  have hI : (fun w' : World => Blk w' g 119 m.cells) { w with drawn := w.drawn + 1 } := hg
  refine wp_region_E (fun w' : World => Blk w' g 119 m.cells) [] (by kernel_rfl) ?_
  refine wpAnyE_take 0 (v := (.pointer (some ⟨g, 0, none⟩))) rfl (by kernel_rfl) (fun _ _ _ h => h) hI (fun w' hw' => Or.inl ⟨by kernel_rfl, Or.inl (by go_simp)⟩) ?_
  refine wpAnyE_take 2 (v := (.pointer (some ⟨g, 0, none⟩))) rfl (by kernel_rfl) (fun _ _ _ h => h) hI (fun w' hw' => Or.inl ⟨by kernel_rfl, Or.inl (by go_simp)⟩) ?_
  refine wpAnyE_take 5 (v := (.pointer (some ⟨g, 0, none⟩))) rfl (by kernel_rfl) (fun _ _ _ h => h) hI (fun w' hw' => Or.inl ⟨by kernel_rfl, Or.inl (by go_simp)⟩) ?_
  refine wpAnyE_take 6 (v := (.pointer (some ⟨g, 0, none⟩))) rfl (by kernel_rfl) (fun _ _ _ h => h) hI (fun w' hw' => Or.inl ⟨by kernel_rfl, Or.inl (by go_simp)⟩) ?_
  refine wpAnyE_take 7 (v := (.pointer (some ⟨g, 0, none⟩))) rfl (by kernel_rfl) (fun _ _ _ h => h) hI (fun w' hw' => Or.inl ⟨by kernel_rfl, Or.inl (by go_simp)⟩) ?_
  refine wpAnyE_take 8 (v := (.pointer (some ⟨g, 8, none⟩))) rfl (by kernel_rfl) (fun _ _ _ h => h) hI (fun w' hw' => Or.inl ⟨by kernel_rfl, Or.inl (by go_simp)⟩) ?_
  refine wpAnyE_take 9 (v := (.slice m.mA m.modes.length m.mc)) rfl (by kernel_rfl) (fun _ _ _ h => h) hI (fun w' hw' => Or.inl ⟨by kernel_rfl, Or.inl (by have y0 : w'.cell? ⟨g, 8, none⟩ = some (.slice m.mA m.modes.length m.mc) := hw'.cell 8; go_simp)⟩) ?_
  refine wpAnyE_take 10 (v := (.agg #[.int .i64 0, .int .u32 0, .slice m.mA m.modes.length m.mc, .slice none 0 0])) rfl (by kernel_rfl) (fun _ _ _ h => h) hI (fun w' hw' => Or.inl ⟨by kernel_rfl, Or.inl (by go_simp)⟩) ?_
  have P0 : Only [] w w.drew := (Only.refl _ _).drew
  refine wpAnyE_two 1 11 rfl rfl (by kernel_rfl) hI (fun K hK => ?_) (fun K hK => ?_)
  · rw [if_pos (by kernel_rfl)]
    have T := getTextR_any m g w.drew hI hs
    go_simp
    go_call T as e x1 ⟨Q1, v1, fs1, rfl, V1, hp1, M1, hn1⟩
    clear T
    have o1 := OwnF.block V1
    replace V1 : OwnX FD.cells 123 4 x1 w.heap.size v1 fs1 := OwnX.mono (cf := FD.cells) V1 P0.size
    have P1 : Only [] w x1 := P0.trans Q1 (by simp)
    have hI1 : (fun w' : World => Blk w' g 119 m.cells) x1 := hg.only P1 (by simp)
    have z1 := Q1.size
    refine hK _ _ ?_
    clear hK K
    refine wpAnyE_two 3 11 rfl rfl (by kernel_rfl) hI1 (fun K hK => ?_) (fun K hK => ?_)
    · rw [if_pos (by kernel_rfl)]
      have T := getSizeR_any m g x1 hI1 hm.nums
      go_simp
      go_call T as e x2 ⟨Q2, v2, fs2, rfl, V2, hp2, M2x, hn2⟩
      clear T
      replace V2 : OwnX FD.cells 123 4 x2 w.heap.size v2 fs2 := OwnX.mono (cf := FD.cells) V2 P1.size
      have M2 := fun f hf => (M2x f hf).1
      clear M2x
      have P2 : Only [] w x2 := P1.trans Q2 (by simp)
      have hI2 : (fun w' : World => Blk w' g 119 m.cells) x2 := hg.only P2 (by simp)
      have z2 := Q2.size
      have V1 := V1.only Q2
      have M1 := fun f hf => (⟨(M1 f hf).1.only Q2, (M1 f hf).2⟩ : FD.ok x2 f ∧ f.off v1)
      obtain ⟨A2, c2, rfl, hc2, hm2, R2, _⟩ := V2.form
      refine hK _ _ ?_
      clear hK K
      refine wpAnyE_two 4 11 rfl rfl (by kernel_rfl) hI2 (fun K hK => ?_) (fun K hK => ?_)
      · rw [if_pos (by kernel_rfl)]
        have R2' : RdX FD.cells x2 A2 fs2 := by obtain ⟨A2', c2', e2, _, _, R2', _⟩ := V2.form; rw [(Value.slice.inj e2).1]; exact R2'
        have l1 : fs1.length = 1 := by have := congrArg List.length hp1; simpa [partsR] using this
        have l2 : fs2.length = 4 := by have := congrArg List.length hp2; simpa [partsR] using this
        refine wp_appX (.tmp 4) (.tmp 6) elemF rfl oneF lenF (by kernel_rfl) V1 A2 c2 fs2 _ rfl (by kernel_rfl) R2' (by simp only [maxLen]; omega) (by omega) P2.size ?_
        intro v7 x3 V7 Q3 G3
        have V7 := V7.out
        have M12 : ∀ f ∈ fs1 ++ fs2, FD.ok x2 f ∧ f.off v1 := fun f hf => by
          rcases List.mem_append.1 hf with hf | hf
          · exact M1 f hf
          · exact ⟨M2 f hf, off_plain (sizes_plain hp2 f hf).1 (sizes_plain hp2 f hf).2⟩
        have M7 := okOff_app Q3 G3.out M12
        have P3 : Only [] w x3 := P2.trans Q3 (fun x hx => .inr (V1.block x (by simpa using hx)).1)
        have hI3 : (fun w' : World => Blk w' g 119 m.cells) x3 := hg.only P3 (by simp)
        refine hK _ _ ?_
        clear hK K
        refine wpAnyE_one 11 rfl (by kernel_rfl) hI3 (fun K hK => ?_)
        rw [if_pos (by kernel_rfl)]
        have Q4 : Only [] x3 (x3.alloc (.cells #[.int .i64 0, .int .u32 0, .slice m.mA m.modes.length m.mc, .slice none 0 0] 123)) := (Only.refl [] x3).alloc _
        have B3 : Blk (x3.alloc (.cells #[.int .i64 0, .int .u32 0, .slice m.mA m.modes.length m.mc, .slice none 0 0] 123)) x3.heap.size 123 [.int .i64 0, .int .u32 0, .slice m.mA m.modes.length m.mc, .slice none 0 0] := Blk.new x3 _ _
        obtain ⟨q3, hq3⟩ : ∃ q, q = x3.heap.size := ⟨_, rfl⟩
        have hq3w : w.heap.size ≤ q3 := by have := P3.size; omega
        have hq3' : q3 ≤ x3.heap.size ∧ x3.heap.size ≤ q3 := by omega
        go_simp
        obtain ⟨x4, hx4⟩ : ∃ x, x = x3.alloc (.cells #[.int .i64 0, .int .u32 0, .slice m.mA m.modes.length m.mc, .slice none 0 0] 123) := ⟨_, rfl⟩
        rw [← hx4] at Q4 B3 ⊢
        rw [← hq3] at B3 ⊢
        have P4 : Only [] w x4 := P3.trans Q4 (by simp)
        have hI4 : (fun w' : World => Blk w' g 119 m.cells) x4 := hg.only P4 (by simp)
        have z4 := Q4.size
        have V7 := V7.only Q4
        have M7 := fun f hf => (⟨(M7 f hf).1.only Q4, (M7 f hf).2⟩ : FD.ok x4 f ∧ f.off v7)
        replace hx4 := hide hx4
        replace hq3 := hide hq3
        refine hK _ _ ?_
        clear hK K
        refine wpAnyE_one 12 rfl (by kernel_rfl) hI4 (fun K hK => ?_)
        rw [if_pos (by kernel_rfl)]
        refine wp_appX (.tmp 7) (.tmp 14) elemF rfl oneF lenF (by kernel_rfl) V7 (some ⟨q3, 0, none⟩) 1 [⟨0, 0, m.mA, m.mc, m.modes, none, 0, []⟩] 1 rfl (by kernel_rfl) (rdX_one B3) (by simp only [maxLen, List.length_append, List.length_singleton]; omega) (by simp only [List.length_append, List.length_singleton]; omega) P4.size ?_
        intro v12 x5 V12 Q5 G5
        have V12 := V12.out
        have M12' := okOff_app Q5 G5.out M7
        have PE : Only [] w x5 := P4.trans Q5 (fun x hx => .inr (V7.block x (by simpa using hx)).1)
        have hIE : (fun w' : World => Blk w' g 119 m.cells) x5 := hg.only PE (by simp)
        refine hK _ _ ?_
        clear hK K
        refine wpAnyE_take 13 (v := v12) rfl (by kernel_rfl) (fun _ _ _ h => h) hIE (fun w' hw' => Or.inl ⟨by kernel_rfl, Or.inl (by go_simp)⟩) ?_
        refine wpAnyE_end (by kernel_rfl) hIE ?_
        simp only [Exit.then]
        go_wp2_with fail
        go_ret
        exact pty_end hm PE V12 M12' hp1 hp2 hn1 hn2
      · rw [if_pos (by kernel_rfl)]
        have Q3 : Only [] x2 (x2.alloc (.cells #[.int .i64 0, .int .u32 0, .slice m.mA m.modes.length m.mc, .slice none 0 0] 123)) := (Only.refl [] x2).alloc _
        have B3 : Blk (x2.alloc (.cells #[.int .i64 0, .int .u32 0, .slice m.mA m.modes.length m.mc, .slice none 0 0] 123)) x2.heap.size 123 [.int .i64 0, .int .u32 0, .slice m.mA m.modes.length m.mc, .slice none 0 0] := Blk.new x2 _ _
        obtain ⟨q3, hq3⟩ : ∃ q, q = x2.heap.size := ⟨_, rfl⟩
        have hq3w : w.heap.size ≤ q3 := by have := P2.size; omega
        have hq3' : q3 ≤ x2.heap.size ∧ x2.heap.size ≤ q3 := by omega
        go_simp
        obtain ⟨x3, hx3⟩ : ∃ x, x = x2.alloc (.cells #[.int .i64 0, .int .u32 0, .slice m.mA m.modes.length m.mc, .slice none 0 0] 123) := ⟨_, rfl⟩
        rw [← hx3] at Q3 B3 ⊢
        rw [← hq3] at B3 ⊢
        have P3 : Only [] w x3 := P2.trans Q3 (by simp)
        have hI3 : (fun w' : World => Blk w' g 119 m.cells) x3 := hg.only P3 (by simp)
        have z3 := Q3.size
        have V1 := V1.only Q3
        have M1 := fun f hf => (⟨(M1 f hf).1.only Q3, (M1 f hf).2⟩ : FD.ok x3 f ∧ f.off v1)
        have V2 := V2.only Q3
        have M2 := fun f hf => (M2 f hf).only Q3
        replace hx3 := hide hx3
        replace hq3 := hide hq3
        refine hK _ _ ?_
        clear hK K
        refine wpAnyE_one 4 rfl (by kernel_rfl) hI3 (fun K hK => ?_)
        rw [if_pos (by kernel_rfl)]
        have R2' : RdX FD.cells x3 A2 fs2 := by obtain ⟨A2', c2', e2, _, _, R2', _⟩ := V2.form; rw [(Value.slice.inj e2).1]; exact R2'
        have l1 : fs1.length = 1 := by have := congrArg List.length hp1; simpa [partsR] using this
        have l2 : fs2.length = 4 := by have := congrArg List.length hp2; simpa [partsR] using this
        refine wp_appX (.tmp 4) (.tmp 6) elemF rfl oneF lenF (by kernel_rfl) V1 A2 c2 fs2 _ rfl (by kernel_rfl) R2' (by simp only [maxLen]; omega) (by omega) P3.size ?_
        intro v7 x4 V7 Q4 G4
        have V7 := V7.out
        have M12 : ∀ f ∈ fs1 ++ fs2, FD.ok x3 f ∧ f.off v1 := fun f hf => by
          rcases List.mem_append.1 hf with hf | hf
          · exact M1 f hf
          · exact ⟨M2 f hf, off_plain (sizes_plain hp2 f hf).1 (sizes_plain hp2 f hf).2⟩
        have M7 := okOff_app Q4 G4.out M12
        have P4 : Only [] w x4 := P3.trans Q4 (fun x hx => .inr (V1.block x (by simpa using hx)).1)
        have hI4 : (fun w' : World => Blk w' g 119 m.cells) x4 := hg.only P4 (by simp)
        have B3 := B3.only Q4 (fun hx => by have := o1 q3 (by simpa using hx); omega)
        refine hK _ _ ?_
        clear hK K
        refine wpAnyE_one 12 rfl (by kernel_rfl) hI4 (fun K hK => ?_)
        rw [if_pos (by kernel_rfl)]
        refine wp_appX (.tmp 7) (.tmp 14) elemF rfl oneF lenF (by kernel_rfl) V7 (some ⟨q3, 0, none⟩) 1 [⟨0, 0, m.mA, m.mc, m.modes, none, 0, []⟩] 1 rfl (by kernel_rfl) (rdX_one B3) (by simp only [maxLen, List.length_append, List.length_singleton]; omega) (by simp only [List.length_append, List.length_singleton]; omega) P4.size ?_
        intro v12 x5 V12 Q5 G5
        have V12 := V12.out
        have M12' := okOff_app Q5 G5.out M7
        have PE : Only [] w x5 := P4.trans Q5 (fun x hx => .inr (V7.block x (by simpa using hx)).1)
        have hIE : (fun w' : World => Blk w' g 119 m.cells) x5 := hg.only PE (by simp)
        refine hK _ _ ?_
        clear hK K
        refine wpAnyE_take 13 (v := v12) rfl (by kernel_rfl) (fun _ _ _ h => h) hIE (fun w' hw' => Or.inl ⟨by kernel_rfl, Or.inl (by go_simp)⟩) ?_
        refine wpAnyE_end (by kernel_rfl) hIE ?_
        simp only [Exit.then]
        go_wp2_with fail
        go_ret
        exact pty_end hm PE V12 M12' hp1 hp2 hn1 hn2
    · rw [if_pos (by kernel_rfl)]
      have Q2 : Only [] x1 (x1.alloc (.cells #[.int .i64 0, .int .u32 0, .slice m.mA m.modes.length m.mc, .slice none 0 0] 123)) := (Only.refl [] x1).alloc _
      have B3 : Blk (x1.alloc (.cells #[.int .i64 0, .int .u32 0, .slice m.mA m.modes.length m.mc, .slice none 0 0] 123)) x1.heap.size 123 [.int .i64 0, .int .u32 0, .slice m.mA m.modes.length m.mc, .slice none 0 0] := Blk.new x1 _ _
      obtain ⟨q3, hq3⟩ : ∃ q, q = x1.heap.size := ⟨_, rfl⟩
      have hq3w : w.heap.size ≤ q3 := by have := P1.size; omega
      have hq3' : q3 ≤ x1.heap.size ∧ x1.heap.size ≤ q3 := by omega
      go_simp
      obtain ⟨x2, hx2⟩ : ∃ x, x = x1.alloc (.cells #[.int .i64 0, .int .u32 0, .slice m.mA m.modes.length m.mc, .slice none 0 0] 123) := ⟨_, rfl⟩
      rw [← hx2] at Q2 B3 ⊢
      rw [← hq3] at B3 ⊢
      have P2 : Only [] w x2 := P1.trans Q2 (by simp)
      have hI2 : (fun w' : World => Blk w' g 119 m.cells) x2 := hg.only P2 (by simp)
      have z2 := Q2.size
      have V1 := V1.only Q2
      have M1 := fun f hf => (⟨(M1 f hf).1.only Q2, (M1 f hf).2⟩ : FD.ok x2 f ∧ f.off v1)
      replace hx2 := hide hx2
      replace hq3 := hide hq3
      refine hK _ _ ?_
      clear hK K
      refine wpAnyE_one 3 rfl (by kernel_rfl) hI2 (fun K hK => ?_)
      rw [if_pos (by kernel_rfl)]
      have T := getSizeR_any m g x2 hI2 hm.nums
      go_simp
      go_call T as e x3 ⟨Q3, v2, fs2, rfl, V2, hp2, M2x, hn2⟩
      clear T
      replace V2 : OwnX FD.cells 123 4 x3 w.heap.size v2 fs2 := OwnX.mono (cf := FD.cells) V2 P2.size
      have M2 := fun f hf => (M2x f hf).1
      clear M2x
      have P3 : Only [] w x3 := P2.trans Q3 (by simp)
      have hI3 : (fun w' : World => Blk w' g 119 m.cells) x3 := hg.only P3 (by simp)
      have z3 := Q3.size
      have V1 := V1.only Q3
      have M1 := fun f hf => (⟨(M1 f hf).1.only Q3, (M1 f hf).2⟩ : FD.ok x3 f ∧ f.off v1)
      have B3 := B3.only Q3 (by simp)
      obtain ⟨A2, c2, rfl, hc2, hm2, R2, _⟩ := V2.form
      refine hK _ _ ?_
      clear hK K
      refine wpAnyE_one 4 rfl (by kernel_rfl) hI3 (fun K hK => ?_)
      rw [if_pos (by kernel_rfl)]
      have R2' : RdX FD.cells x3 A2 fs2 := by obtain ⟨A2', c2', e2, _, _, R2', _⟩ := V2.form; rw [(Value.slice.inj e2).1]; exact R2'
      have l1 : fs1.length = 1 := by have := congrArg List.length hp1; simpa [partsR] using this
      have l2 : fs2.length = 4 := by have := congrArg List.length hp2; simpa [partsR] using this
      refine wp_appX (.tmp 4) (.tmp 6) elemF rfl oneF lenF (by kernel_rfl) V1 A2 c2 fs2 _ rfl (by kernel_rfl) R2' (by simp only [maxLen]; omega) (by omega) P3.size ?_
      intro v7 x4 V7 Q4 G4
      have V7 := V7.out
      have M12 : ∀ f ∈ fs1 ++ fs2, FD.ok x3 f ∧ f.off v1 := fun f hf => by
        rcases List.mem_append.1 hf with hf | hf
        · exact M1 f hf
        · exact ⟨M2 f hf, off_plain (sizes_plain hp2 f hf).1 (sizes_plain hp2 f hf).2⟩
      have M7 := okOff_app Q4 G4.out M12
      have P4 : Only [] w x4 := P3.trans Q4 (fun x hx => .inr (V1.block x (by simpa using hx)).1)
      have hI4 : (fun w' : World => Blk w' g 119 m.cells) x4 := hg.only P4 (by simp)
      have B3 := B3.only Q4 (fun hx => by have := o1 q3 (by simpa using hx); omega)
      refine hK _ _ ?_
      clear hK K
      refine wpAnyE_one 12 rfl (by kernel_rfl) hI4 (fun K hK => ?_)
      rw [if_pos (by kernel_rfl)]
      refine wp_appX (.tmp 7) (.tmp 14) elemF rfl oneF lenF (by kernel_rfl) V7 (some ⟨q3, 0, none⟩) 1 [⟨0, 0, m.mA, m.mc, m.modes, none, 0, []⟩] 1 rfl (by kernel_rfl) (rdX_one B3) (by simp only [maxLen, List.length_append, List.length_singleton]; omega) (by simp only [List.length_append, List.length_singleton]; omega) P4.size ?_
      intro v12 x5 V12 Q5 G5
      have V12 := V12.out
      have M12' := okOff_app Q5 G5.out M7
      have PE : Only [] w x5 := P4.trans Q5 (fun x hx => .inr (V7.block x (by simpa using hx)).1)
      have hIE : (fun w' : World => Blk w' g 119 m.cells) x5 := hg.only PE (by simp)
      refine hK _ _ ?_
      clear hK K
      refine wpAnyE_take 13 (v := v12) rfl (by kernel_rfl) (fun _ _ _ h => h) hIE (fun w' hw' => Or.inl ⟨by kernel_rfl, Or.inl (by go_simp)⟩) ?_
      refine wpAnyE_end (by kernel_rfl) hIE ?_
      simp only [Exit.then]
      go_wp2_with fail
      go_ret
      exact pty_end hm PE V12 M12' hp1 hp2 hn1 hn2
  · rw [if_pos (by kernel_rfl)]
    have Q1 : Only [] w.drew ((w.alloc (.cells #[.int .i64 0, .int .u32 0, .slice m.mA m.modes.length m.mc, .slice none 0 0] 123)).drew) := (Only.refl [] w.drew).alloc _
    have B3 : Blk ((w.alloc (.cells #[.int .i64 0, .int .u32 0, .slice m.mA m.modes.length m.mc, .slice none 0 0] 123)).drew) w.heap.size 123 [.int .i64 0, .int .u32 0, .slice m.mA m.modes.length m.mc, .slice none 0 0] := Blk.new w.drew _ _
    obtain ⟨q3, hq3⟩ : ∃ q, q = w.heap.size := ⟨_, rfl⟩
    have hq3w : w.heap.size ≤ q3 := by have := P0.size; omega
    have hq3' : q3 < ((w.alloc (.cells #[.int .i64 0, .int .u32 0, .slice m.mA m.modes.length m.mc, .slice none 0 0] 123)).drew).heap.size := by rw [hq3]; simp
    go_simp
    obtain ⟨x1, hx1⟩ : ∃ x, x = (w.alloc (.cells #[.int .i64 0, .int .u32 0, .slice m.mA m.modes.length m.mc, .slice none 0 0] 123)).drew := ⟨_, rfl⟩
    rw [← hx1] at Q1 B3 ⊢
    rw [← hx1] at hq3'
    rw [← hq3] at B3
    rw [show (Value.slice (some ⟨w.heap.size, 0, none⟩) 1 1) = Value.slice (some ⟨q3, 0, none⟩) 1 1 by rw [hq3]]
    have P1 : Only [] w x1 := P0.trans Q1 (by simp)
    have hI1 : (fun w' : World => Blk w' g 119 m.cells) x1 := hg.only P1 (by simp)
    have z1 := Q1.size
    replace hx1 := hide hx1
    replace hq3 := hide hq3
    refine hK _ _ ?_
    clear hK K
    refine wpAnyE_one 1 rfl (by kernel_rfl) hI1 (fun K hK => ?_)
    rw [if_pos (by kernel_rfl)]
    have T := getTextR_any m g x1 hI1 hs
    go_simp
    go_call T as e x2 ⟨Q2, v1, fs1, rfl, V1, hp1, M1, hn1⟩
    clear T
    have o1 := OwnF.block V1
    replace V1 : OwnX FD.cells 123 4 x2 w.heap.size v1 fs1 := OwnX.mono (cf := FD.cells) V1 P1.size
    have P2 : Only [] w x2 := P1.trans Q2 (by simp)
    have hI2 : (fun w' : World => Blk w' g 119 m.cells) x2 := hg.only P2 (by simp)
    have z2 := Q2.size
    have B3 := B3.only Q2 (by simp)
    refine hK _ _ ?_
    clear hK K
    refine wpAnyE_one 3 rfl (by kernel_rfl) hI2 (fun K hK => ?_)
    rw [if_pos (by kernel_rfl)]
    have T := getSizeR_any m g x2 hI2 hm.nums
    go_simp
    go_call T as e x3 ⟨Q3, v2, fs2, rfl, V2, hp2, M2x, hn2⟩
    clear T
    replace V2 : OwnX FD.cells 123 4 x3 w.heap.size v2 fs2 := OwnX.mono (cf := FD.cells) V2 P2.size
    have M2 := fun f hf => (M2x f hf).1
    clear M2x
    have P3 : Only [] w x3 := P2.trans Q3 (by simp)
    have hI3 : (fun w' : World => Blk w' g 119 m.cells) x3 := hg.only P3 (by simp)
    have z3 := Q3.size
    have V1 := V1.only Q3
    have M1 := fun f hf => (⟨(M1 f hf).1.only Q3, (M1 f hf).2⟩ : FD.ok x3 f ∧ f.off v1)
    have B3 := B3.only Q3 (by simp)
    obtain ⟨A2, c2, rfl, hc2, hm2, R2, _⟩ := V2.form
    refine hK _ _ ?_
    clear hK K
    refine wpAnyE_one 4 rfl (by kernel_rfl) hI3 (fun K hK => ?_)
    rw [if_pos (by kernel_rfl)]
    have R2' : RdX FD.cells x3 A2 fs2 := by obtain ⟨A2', c2', e2, _, _, R2', _⟩ := V2.form; rw [(Value.slice.inj e2).1]; exact R2'
    have l1 : fs1.length = 1 := by have := congrArg List.length hp1; simpa [partsR] using this
    have l2 : fs2.length = 4 := by have := congrArg List.length hp2; simpa [partsR] using this
    refine wp_appX (.tmp 4) (.tmp 6) elemF rfl oneF lenF (by kernel_rfl) V1 A2 c2 fs2 _ rfl (by kernel_rfl) R2' (by simp only [maxLen]; omega) (by omega) P3.size ?_
    intro v7 x4 V7 Q4 G4
    have V7 := V7.out
    have M12 : ∀ f ∈ fs1 ++ fs2, FD.ok x3 f ∧ f.off v1 := fun f hf => by
      rcases List.mem_append.1 hf with hf | hf
      · exact M1 f hf
      · exact ⟨M2 f hf, off_plain (sizes_plain hp2 f hf).1 (sizes_plain hp2 f hf).2⟩
    have M7 := okOff_app Q4 G4.out M12
    have P4 : Only [] w x4 := P3.trans Q4 (fun x hx => .inr (V1.block x (by simpa using hx)).1)
    have hI4 : (fun w' : World => Blk w' g 119 m.cells) x4 := hg.only P4 (by simp)
    have B3 := B3.only Q4 (fun hx => by have := o1 q3 (by simpa using hx); omega)
    refine hK _ _ ?_
    clear hK K
    refine wpAnyE_one 12 rfl (by kernel_rfl) hI4 (fun K hK => ?_)
    rw [if_pos (by kernel_rfl)]
    refine wp_appX (.tmp 7) (.tmp 14) elemF rfl oneF lenF (by kernel_rfl) V7 (some ⟨q3, 0, none⟩) 1 [⟨0, 0, m.mA, m.mc, m.modes, none, 0, []⟩] 1 rfl (by kernel_rfl) (rdX_one B3) (by simp only [maxLen, List.length_append, List.length_singleton]; omega) (by simp only [List.length_append, List.length_singleton]; omega) P4.size ?_
    intro v12 x5 V12 Q5 G5
    have V12 := V12.out
    have M12' := okOff_app Q5 G5.out M7
    have PE : Only [] w x5 := P4.trans Q5 (fun x hx => .inr (V7.block x (by simpa using hx)).1)
    have hIE : (fun w' : World => Blk w' g 119 m.cells) x5 := hg.only PE (by simp)
    refine hK _ _ ?_
    clear hK K
    refine wpAnyE_take 13 (v := v12) rfl (by kernel_rfl) (fun _ _ _ h => h) hIE (fun w' hw' => Or.inl ⟨by kernel_rfl, Or.inl (by go_simp)⟩) ?_
    refine wpAnyE_end (by kernel_rfl) hIE ?_
    simp only [Exit.then]
    go_wp2_with fail
    go_ret
    exact pty_end hm PE V12 M12' hp1 hp2 hn1 hn2
end
end Go.Proofs.YtdplnedpbkpgpaaGreatDoor

namespace Go.Proofs.YtdplnedpbkpgpaaGreatDoor
set_option linter.all false
open Go.RowKit

theorem conv_rd {w : World} {A : Option Addr} {l : List Int} {c : Nat} (h : RdG (.int .u8) w A l) : (convert 32 9 (.slice A l.length c)).run Tryz.prog w = .ok (.string (strOfNums l)) w := by
  by_cases h0 : 0 < l.length
  · obtain ⟨b, off, rfl, _, hc⟩ := h h0
    exact run_convert_bytes_arg (P := Tryz.prog) (w := w) 32 5 (by kernel_rfl) (by kernel_rfl) b off l.length c l rfl (fun i hi => by
      have hx : l[i]? = some (l[i]'hi) := List.getElem?_eq_getElem hi
      rw [hc i _ hx]
      simp [List.getD, hx]) 9 (by kernel_rfl)
  · obtain rfl : l = [] := List.eq_nil_of_length_eq_zero (by omega)
    cases A with
    | none =>
      have e : (convert 32 9 (.slice none 0 c)).run Tryz.prog w = (Conv.bytesToString (.slice none 0 c)).run Tryz.prog w := by simp [convert, run_underlying Tryz.underlying32, run_underlying Tryz.underlying9, run_underlying Tryz.underlying5]
      rw [show ([] : List Int).length = 0 from rfl, e]
      first | rfl | (simp [Conv.bytesToString, loadCells, loadCellsFrom, strOfNums]; try rfl)
    | some a =>
      have e : (convert 32 9 (.slice (some a) 0 c)).run Tryz.prog w = (Conv.bytesToString (.slice (some a) 0 c)).run Tryz.prog w := by simp [convert, run_underlying Tryz.underlying32, run_underlying Tryz.underlying9, run_underlying Tryz.underlying5]
      rw [show ([] : List Int).length = 0 from rfl, e]
      first | rfl | (simp [Conv.bytesToString, loadCells, loadCellsFrom, strOfNums]; try rfl)
end Go.Proofs.YtdplnedpbkpgpaaGreatDoor

namespace Go.Proofs.YtdplnedpbkpgpaaGreatDoor
set_option linter.all false
open Go.RowKit

set_option maxRecDepth 100000 in
set_option maxHeartbeats 1600000 in
theorem putTextR_any (m : RQ) (g : Nat) (w0 w : World) (A : Option Addr) (a : FD) (r : List FD) (c : Nat) (hF : RdF w0 A (a :: r)) (hO : Only [] w0 w) (hlt : w0.heap.size ≤ g) (hg : Blk w g 119 m.cells) : Calls Tryz.prog 81 #[.pointer (some ⟨g, 0, none⟩), .slice A (r.length + 1) c] w fun e w' => e = .returned (.tuple #[]) ∧ Only [g] w w' ∧ Blk w' g 119 (RQ.cells { m with text := strOfNums a.text }) := by
  obtain ⟨b, off, rfl, hb, hc⟩ := hF.cells (by simp)
  have hbg : ¬ b = g := by omega
  have hgl := hg.lt
  obtain ⟨_, n0, t0, _⟩ := hc 0 a rfl
  simp only [Nat.zero_mul, Nat.one_mul, Nat.reduceMul, Nat.add_zero] at n0 t0
  have n0 := cellL hO hb (by simp) n0
  have t0 := cellL hO hb (by simp) t0
  have g1 : w.cell? ⟨g, 1, none⟩ = some (.string m.text) := hg.cell 1
  have z1 := hg.frozen 1
  have kc0 : (convert 32 9 (.slice a.tA a.text.length a.tc)).run Tryz.prog w = .ok (.string (strOfNums a.text)) w := conv_rd ((hF.ok a (by simp)).1.text.only hO)
  have hsl : (0 : Int) ≤ (r.length : Int) := Int.natCast_nonneg _
  clear hc
  have hb2 := hg.set_ 1 (.string (strOfNums a.text))
  have hO2 : Only [g] w (w.setCell ⟨g, 1, none⟩ (.string (strOfNums a.text))) := (Only.refl [g] w).setCell (p := ⟨g, 1, none⟩) (.inl (by simp)) _
  go_enter Tryz.func81, Tryz.ntmps81
  go_wp2
  go_end0
  exact ⟨rfl, hO2, hb2⟩
set_option maxRecDepth 100000 in
set_option maxHeartbeats 1600000 in
theorem putCodeR_any (m : RQ) (g : Nat) (w0 w : World) (A : Option Addr) (a : FD) (r : List FD) (c : Nat) (hF : RdF w0 A (a :: r)) (hO : Only [] w0 w) (hlt : w0.heap.size ≤ g) (hg : Blk w g 119 m.cells) : Calls Tryz.prog 89 #[.pointer (some ⟨g, 0, none⟩), .slice A (r.length + 1) c] w fun e w' => e = .returned (.tuple #[]) ∧ Only [g] w w' ∧ Blk w' g 119 (RQ.cells { m with code := a.n }) := by
  obtain ⟨b, off, rfl, hb, hc⟩ := hF.cells (by simp)
  have hbg : ¬ b = g := by omega
  have hgl := hg.lt
  obtain ⟨_, n0, t0, _⟩ := hc 0 a rfl
  simp only [Nat.zero_mul, Nat.one_mul, Nat.reduceMul, Nat.add_zero] at n0 t0
  have n0 := cellL hO hb (by simp) n0
  have t0 := cellL hO hb (by simp) t0
  have g10 : w.cell? ⟨g, 10, none⟩ = some (.int .u32 m.code) := hg.cell 10
  have z10 := hg.frozen 10
  have hsl : (0 : Int) ≤ (r.length : Int) := Int.natCast_nonneg _
  clear hc
  have hb2 := hg.set_ 10 (.int .u32 a.n)
  have hO2 : Only [g] w (w.setCell ⟨g, 10, none⟩ (.int .u32 a.n)) := (Only.refl [g] w).setCell (p := ⟨g, 10, none⟩) (.inl (by simp)) _
  go_enter Tryz.func89, Tryz.ntmps89
  go_wp2
  go_end0
  exact ⟨rfl, hO2, hb2⟩
set_option maxRecDepth 100000 in
set_option maxHeartbeats 1600000 in
theorem putOnR_any (m : RQ) (g : Nat) (w0 w : World) (A : Option Addr) (a : FD) (r : List FD) (c : Nat) (hF : RdF w0 A (a :: r)) (hO : Only [] w0 w) (hlt : w0.heap.size ≤ g) (hg : Blk w g 119 m.cells) : Calls Tryz.prog 87 #[.pointer (some ⟨g, 0, none⟩), .slice A (r.length + 1) c] w fun e w' => e = .returned (.tuple #[]) ∧ Only [g] w w' ∧ Blk w' g 119 (RQ.cells { m with on := decide (a.n = 1) }) := by
  obtain ⟨on, hon⟩ : ∃ on, decide (a.n = 1) = on := ⟨_, rfl⟩
  rw [hon]
  have hon2 : (a.n == 1) = on := hon
  clear hon
  obtain ⟨b, off, rfl, hb, hc⟩ := hF.cells (by simp)
  have hbg : ¬ b = g := by omega
  have hgl := hg.lt
  obtain ⟨_, n0, t0, _⟩ := hc 0 a rfl
  simp only [Nat.zero_mul, Nat.one_mul, Nat.reduceMul, Nat.add_zero] at n0 t0
  have n0 := cellL hO hb (by simp) n0
  have t0 := cellL hO hb (by simp) t0
  have g9 : w.cell? ⟨g, 9, none⟩ = some (.bool m.on) := hg.cell 9
  have z9 := hg.frozen 9
  have hsl : (0 : Int) ≤ (r.length : Int) := Int.natCast_nonneg _
  clear hc
  have hb2 := hg.set_ 9 (.bool on)
  have hO2 : Only [g] w (w.setCell ⟨g, 9, none⟩ (.bool on)) := (Only.refl [g] w).setCell (p := ⟨g, 9, none⟩) (.inl (by simp)) _
  go_enter Tryz.func87, Tryz.ntmps87
  go_wp2
  go_end0
  exact ⟨rfl, hO2, hb2⟩
theorem putNoneR_any (m : RQ) (g : Nat) (w : World) (v : Value) (hg : Blk w g 119 m.cells) : Calls Tryz.prog 78 #[.pointer (some ⟨g, 0, none⟩), v] w fun e w' => e = .returned (.tuple #[]) ∧ Only [g] w w' ∧ Blk w' g 119 m.cells := by
  go_enter Tryz.func78, Tryz.ntmps78
  go_wp2
  go_end0
  exact ⟨rfl, Only.refl _ _, hg⟩
set_option maxRecDepth 100000 in
set_option maxHeartbeats 1600000 in
theorem putEnvR_any (m : RQ) (g : Nat) (w0 w : World) (A : Option Addr) (a d : FD) (r : List FD) (c : Nat) (hF : RdF w0 A (a :: d :: r)) (hO : Only [] w0 w) (hlt : w0.heap.size ≤ g) (hg : Blk w g 119 m.cells) : Calls Tryz.prog 75 #[.pointer (some ⟨g, 0, none⟩), .slice A (r.length + 2) c] w fun e w' => e = .returned (.tuple #[]) ∧ Only [g] w w' ∧ Blk w' g 119 (RQ.cells { m with text := strOfNums a.text, value := strOfNums d.text }) := by
  obtain ⟨b, off, rfl, hb, hc⟩ := hF.cells (by simp)
  have hbg : ¬ b = g := by omega
  have hgl := hg.lt
  obtain ⟨_, n0, t0, _⟩ := hc 0 a rfl
  simp only [Nat.zero_mul, Nat.one_mul, Nat.reduceMul, Nat.add_zero] at n0 t0
  obtain ⟨_, n1, t1, _⟩ := hc 1 d rfl
  simp only [Nat.zero_mul, Nat.one_mul, Nat.reduceMul, Nat.add_zero] at n1 t1
  have hI0 : Only [] w0 { w with drawn := w.drawn + 1 } := hO.drew
  have g1 : w.cell? ⟨g, 1, none⟩ = some (.string m.text) := hg.cell 1
  have z1 := hg.frozen 1
  have g2 : w.cell? ⟨g, 2, none⟩ = some (.string m.value) := hg.cell 2
  have z2 := hg.frozen 2
  have hsl : (0 : Int) ≤ (r.length : Int) := Int.natCast_nonneg _
  clear hc
  go_enter Tryz.func75, Tryz.ntmps75
  go_wp2_with fail
  have hI : (fun w' : World => Only [] w0 w') { w with drawn := w.drawn + 1 } := hI0
  refine wp_region_E (fun w' : World => Only [] w0 w') [] (by kernel_rfl) ?_
  refine wpAnyE_take 0 (v := (.pointer (some ⟨g, 0, none⟩))) rfl (by kernel_rfl) (fun _ _ _ h => h) hI (fun w' hw' => Or.inl ⟨by kernel_rfl, Or.inl (by go_simp)⟩) ?_
  refine wpAnyE_take 1 (v := (.pointer (some ⟨g, 0, none⟩))) rfl (by kernel_rfl) (fun _ _ _ h => h) hI (fun w' hw' => Or.inl ⟨by kernel_rfl, Or.inl (by go_simp)⟩) ?_
  refine wpAnyE_take 2 (v := (.slice (some ⟨b, off, none⟩) (r.length + 2) c)) rfl (by kernel_rfl) (fun _ _ _ h => h) hI (fun w' hw' => Or.inl ⟨by kernel_rfl, Or.inl (by go_simp)⟩) ?_
  refine wpAnyE_take 3 (v := (.pointer (some ⟨b, off, none⟩))) rfl (by kernel_rfl) (fun _ _ _ h => h) hI (fun w' hw' => Or.inl ⟨by kernel_rfl, Or.inl (by go_simp; intro h7; exact absurd h7 (by omega))⟩) ?_
  refine wpAnyE_take 4 (v := (.pointer (some ⟨b, off + 2, none⟩))) rfl (by kernel_rfl) (fun _ _ _ h => h) hI (fun w' hw' => Or.inl ⟨by kernel_rfl, Or.inl (by go_simp)⟩) ?_
  refine wpAnyE_take 5 (v := (.slice a.tA a.text.length a.tc)) rfl (by kernel_rfl) (fun _ _ _ h => h) hI (fun w' hw' => Or.inl ⟨by kernel_rfl, Or.inl (by have y0 := cellL hw' hb (by simp) t0; go_simp)⟩) ?_
  refine wpAnyE_take 6 (v := (.string (strOfNums a.text))) rfl (by kernel_rfl) (fun _ _ _ h => h) hI (fun w' hw' => Or.inl ⟨by kernel_rfl, Or.inl (by have kc := conv_rd (c := a.tc) ((hF.ok a (by simp)).1.text.only hw'); go_simp)⟩) ?_
  refine wpAnyE_take 7 (v := (.slice (some ⟨b, off, none⟩) (r.length + 2) c)) rfl (by kernel_rfl) (fun _ _ _ h => h) hI (fun w' hw' => Or.inl ⟨by kernel_rfl, Or.inl (by go_simp)⟩) ?_
  refine wpAnyE_take 8 (v := (.pointer (some ⟨b, off + 4, none⟩))) rfl (by kernel_rfl) (fun _ _ _ h => h) hI (fun w' hw' => Or.inl ⟨by kernel_rfl, Or.inl (by go_simp; intro h7; exact absurd h7 (by omega))⟩) ?_
  refine wpAnyE_take 9 (v := (.pointer (some ⟨b, off + 4 + 2, none⟩))) rfl (by kernel_rfl) (fun _ _ _ h => h) hI (fun w' hw' => Or.inl ⟨by kernel_rfl, Or.inl (by go_simp)⟩) ?_
  refine wpAnyE_take 10 (v := (.slice d.tA d.text.length d.tc)) rfl (by kernel_rfl) (fun _ _ _ h => h) hI (fun w' hw' => Or.inl ⟨by kernel_rfl, Or.inl (by have y0 := cellL hw' hb (by simp) t1; go_simp)⟩) ?_
  refine wpAnyE_take 11 (v := (.string (strOfNums d.text))) rfl (by kernel_rfl) (fun _ _ _ h => h) hI (fun w' hw' => Or.inl ⟨by kernel_rfl, Or.inl (by have kc := conv_rd (c := d.tc) ((hF.ok d (by simp)).1.text.only hw'); go_simp)⟩) ?_
  refine wpAnyE_take 12 (v := (.pointer (some ⟨g, 0, none⟩))) rfl (by kernel_rfl) (fun _ _ _ h => h) hI (fun w' hw' => Or.inl ⟨by kernel_rfl, Or.inl (by go_simp)⟩) ?_
  refine wpAnyE_take 13 (v := (.pointer (some ⟨g, 0, none⟩))) rfl (by kernel_rfl) (fun _ _ _ h => h) hI (fun w' hw' => Or.inl ⟨by kernel_rfl, Or.inl (by go_simp)⟩) ?_
  refine wpAnyE_take 14 (v := (.pointer (some ⟨g, 1, none⟩))) rfl (by kernel_rfl) (fun _ _ _ h => h) hI (fun w' hw' => Or.inl ⟨by kernel_rfl, Or.inl (by go_simp)⟩) ?_
  refine wpAnyE_one 15 rfl (by kernel_rfl) hI (fun K hK => ?_)
  rw [if_pos (by kernel_rfl)]
  go_simp
  refine hK _ _ ?_
  clear hK K
  have hI := Only.setCell (p := ⟨g, 1, none⟩) hI (.inr hlt) (.string (strOfNums a.text))
  refine wpAnyE_take 16 (v := (.pointer (some ⟨g, 0, none⟩))) rfl (by kernel_rfl) (fun _ _ _ h => h) hI (fun w' hw' => Or.inl ⟨by kernel_rfl, Or.inl (by go_simp)⟩) ?_
  refine wpAnyE_take 17 (v := (.pointer (some ⟨g, 0, none⟩))) rfl (by kernel_rfl) (fun _ _ _ h => h) hI (fun w' hw' => Or.inl ⟨by kernel_rfl, Or.inl (by go_simp)⟩) ?_
  refine wpAnyE_take 18 (v := (.pointer (some ⟨g, 2, none⟩))) rfl (by kernel_rfl) (fun _ _ _ h => h) hI (fun w' hw' => Or.inl ⟨by kernel_rfl, Or.inl (by go_simp)⟩) ?_
  refine wpAnyE_one 19 rfl (by kernel_rfl) hI (fun K hK => ?_)
  rw [if_pos (by kernel_rfl)]
  go_simp
  refine hK _ _ ?_
  clear hK K
  have hI := Only.setCell (p := ⟨g, 2, none⟩) hI (.inr hlt) (.string (strOfNums d.text))
  refine wpAnyE_end (by kernel_rfl) hI ?_
  (try simp only [Exit.inBlock, Exit.then])
  (try go_wp2_with fail)
  go_end0
  exact ⟨rfl, ((((((Only.refl [g] w).drew)).setCell (p := ⟨g, 1, none⟩) (.inl (by simp)) (.string (strOfNums a.text)))).setCell (p := ⟨g, 2, none⟩) (.inl (by simp)) (.string (strOfNums d.text))), ((hg.drew).set_ 1 (.string (strOfNums a.text))).set_ 2 (.string (strOfNums d.text))⟩
set_option maxRecDepth 100000 in
set_option maxHeartbeats 1600000 in
theorem putSizeR_any (m : RQ) (g : Nat) (w0 w : World) (A : Option Addr) (a d u v : FD) (r : List FD) (c : Nat) (hF : RdF w0 A (a :: d :: u :: v :: r)) (hO : Only [] w0 w) (hlt : w0.heap.size ≤ g) (hg : Blk w g 119 m.cells) : Calls Tryz.prog 85 #[.pointer (some ⟨g, 0, none⟩), .slice A (r.length + 4) c] w fun e w' => e = .returned (.tuple #[]) ∧ Only [g] w w' ∧ Blk w' g 119 (RQ.cells { m with cols := a.n, rows := d.n, width := u.n, height := v.n }) := by
  obtain ⟨b, off, rfl, hb, hc⟩ := hF.cells (by simp)
  have hbg : ¬ b = g := by omega
  have hgl := hg.lt
  obtain ⟨_, n0, t0, _⟩ := hc 0 a rfl
  simp only [Nat.zero_mul, Nat.one_mul, Nat.reduceMul, Nat.add_zero] at n0 t0
  obtain ⟨_, n1, t1, _⟩ := hc 1 d rfl
  simp only [Nat.zero_mul, Nat.one_mul, Nat.reduceMul, Nat.add_zero] at n1 t1
  obtain ⟨_, n2, t2, _⟩ := hc 2 u rfl
  simp only [Nat.zero_mul, Nat.one_mul, Nat.reduceMul, Nat.add_zero] at n2 t2
  obtain ⟨_, n3, t3, _⟩ := hc 3 v rfl
  simp only [Nat.zero_mul, Nat.one_mul, Nat.reduceMul, Nat.add_zero] at n3 t3
  have hI0 : Only [] w0 { w with drawn := w.drawn + 1 } := hO.drew
  have g4 : w.cell? ⟨g, 4, none⟩ = some (.int .u32 m.cols) := hg.cell 4
  have z4 := hg.frozen 4
  have g5 : w.cell? ⟨g, 5, none⟩ = some (.int .u32 m.rows) := hg.cell 5
  have z5 := hg.frozen 5
  have g6 : w.cell? ⟨g, 6, none⟩ = some (.int .u32 m.width) := hg.cell 6
  have z6 := hg.frozen 6
  have g7 : w.cell? ⟨g, 7, none⟩ = some (.int .u32 m.height) := hg.cell 7
  have z7 := hg.frozen 7
  have hsl : (0 : Int) ≤ (r.length : Int) := Int.natCast_nonneg _
  clear hc
  go_enter Tryz.func85, Tryz.ntmps85
  go_wp2_with fail
  have hI : (fun w' : World => Only [] w0 w') { w with drawn := w.drawn + 1 } := hI0
  refine wp_region_E (fun w' : World => Only [] w0 w') [] (by kernel_rfl) ?_
  refine wpAnyE_take 0 (v := (.pointer (some ⟨g, 0, none⟩))) rfl (by kernel_rfl) (fun _ _ _ h => h) hI (fun w' hw' => Or.inl ⟨by kernel_rfl, Or.inl (by go_simp)⟩) ?_
  refine wpAnyE_take 1 (v := (.slice (some ⟨b, off, none⟩) (r.length + 4) c)) rfl (by kernel_rfl) (fun _ _ _ h => h) hI (fun w' hw' => Or.inl ⟨by kernel_rfl, Or.inl (by go_simp)⟩) ?_
  refine wpAnyE_take 2 (v := (.pointer (some ⟨b, off, none⟩))) rfl (by kernel_rfl) (fun _ _ _ h => h) hI (fun w' hw' => Or.inl ⟨by kernel_rfl, Or.inl (by go_simp; intro h7; exact absurd h7 (by omega))⟩) ?_
  refine wpAnyE_take 3 (v := (.pointer (some ⟨b, off + 1, none⟩))) rfl (by kernel_rfl) (fun _ _ _ h => h) hI (fun w' hw' => Or.inl ⟨by kernel_rfl, Or.inl (by go_simp)⟩) ?_
  refine wpAnyE_take 4 (v := (.int .u32 a.n)) rfl (by kernel_rfl) (fun _ _ _ h => h) hI (fun w' hw' => Or.inl ⟨by kernel_rfl, Or.inl (by have y0 := cellL hw' hb (by simp) n0; go_simp)⟩) ?_
  refine wpAnyE_take 5 (v := (.slice (some ⟨b, off, none⟩) (r.length + 4) c)) rfl (by kernel_rfl) (fun _ _ _ h => h) hI (fun w' hw' => Or.inl ⟨by kernel_rfl, Or.inl (by go_simp)⟩) ?_
  refine wpAnyE_take 6 (v := (.pointer (some ⟨b, off + 4, none⟩))) rfl (by kernel_rfl) (fun _ _ _ h => h) hI (fun w' hw' => Or.inl ⟨by kernel_rfl, Or.inl (by go_simp; intro h7; exact absurd h7 (by omega))⟩) ?_
  refine wpAnyE_take 7 (v := (.pointer (some ⟨b, off + 4 + 1, none⟩))) rfl (by kernel_rfl) (fun _ _ _ h => h) hI (fun w' hw' => Or.inl ⟨by kernel_rfl, Or.inl (by go_simp)⟩) ?_
  refine wpAnyE_take 8 (v := (.int .u32 d.n)) rfl (by kernel_rfl) (fun _ _ _ h => h) hI (fun w' hw' => Or.inl ⟨by kernel_rfl, Or.inl (by have y0 := cellL hw' hb (by simp) n1; go_simp)⟩) ?_
  refine wpAnyE_take 9 (v := (.slice (some ⟨b, off, none⟩) (r.length + 4) c)) rfl (by kernel_rfl) (fun _ _ _ h => h) hI (fun w' hw' => Or.inl ⟨by kernel_rfl, Or.inl (by go_simp)⟩) ?_
  refine wpAnyE_take 10 (v := (.pointer (some ⟨b, off + 8, none⟩))) rfl (by kernel_rfl) (fun _ _ _ h => h) hI (fun w' hw' => Or.inl ⟨by kernel_rfl, Or.inl (by go_simp; intro h7; exact absurd h7 (by omega))⟩) ?_
  refine wpAnyE_take 11 (v := (.pointer (some ⟨b, off + 8 + 1, none⟩))) rfl (by kernel_rfl) (fun _ _ _ h => h) hI (fun w' hw' => Or.inl ⟨by kernel_rfl, Or.inl (by go_simp)⟩) ?_
  refine wpAnyE_take 12 (v := (.int .u32 u.n)) rfl (by kernel_rfl) (fun _ _ _ h => h) hI (fun w' hw' => Or.inl ⟨by kernel_rfl, Or.inl (by have y0 := cellL hw' hb (by simp) n2; go_simp)⟩) ?_
  refine wpAnyE_take 13 (v := (.slice (some ⟨b, off, none⟩) (r.length + 4) c)) rfl (by kernel_rfl) (fun _ _ _ h => h) hI (fun w' hw' => Or.inl ⟨by kernel_rfl, Or.inl (by go_simp)⟩) ?_
  refine wpAnyE_take 14 (v := (.pointer (some ⟨b, off + 12, none⟩))) rfl (by kernel_rfl) (fun _ _ _ h => h) hI (fun w' hw' => Or.inl ⟨by kernel_rfl, Or.inl (by go_simp; intro h7; exact absurd h7 (by omega))⟩) ?_
  refine wpAnyE_take 15 (v := (.pointer (some ⟨b, off + 12 + 1, none⟩))) rfl (by kernel_rfl) (fun _ _ _ h => h) hI (fun w' hw' => Or.inl ⟨by kernel_rfl, Or.inl (by go_simp)⟩) ?_
  refine wpAnyE_take 16 (v := (.int .u32 v.n)) rfl (by kernel_rfl) (fun _ _ _ h => h) hI (fun w' hw' => Or.inl ⟨by kernel_rfl, Or.inl (by have y0 := cellL hw' hb (by simp) n3; go_simp)⟩) ?_
  refine wpAnyE_take 17 (v := (.agg #[.int .u32 a.n, .int .u32 d.n, .int .u32 u.n, .int .u32 v.n])) rfl (by kernel_rfl) (fun _ _ _ h => h) hI (fun w' hw' => Or.inl ⟨by kernel_rfl, Or.inl (by go_simp)⟩) ?_
  refine wpAnyE_take 18 (v := (.pointer (some ⟨g, 0, none⟩))) rfl (by kernel_rfl) (fun _ _ _ h => h) hI (fun w' hw' => Or.inl ⟨by kernel_rfl, Or.inl (by go_simp)⟩) ?_
  refine wpAnyE_take 19 (v := (.pointer (some ⟨g, 0, none⟩))) rfl (by kernel_rfl) (fun _ _ _ h => h) hI (fun w' hw' => Or.inl ⟨by kernel_rfl, Or.inl (by go_simp)⟩) ?_
  refine wpAnyE_take 20 (v := (.pointer (some ⟨g, 4, none⟩))) rfl (by kernel_rfl) (fun _ _ _ h => h) hI (fun w' hw' => Or.inl ⟨by kernel_rfl, Or.inl (by go_simp)⟩) ?_
  refine wpAnyE_one 21 rfl (by kernel_rfl) hI (fun K hK => ?_)
  rw [if_pos (by kernel_rfl)]
  go_simp
  refine hK _ _ ?_
  clear hK K
  have hI := Only.setCell (p := ⟨g, 4, none⟩) hI (.inr hlt) (.int .u32 a.n)
  have hI := Only.setCell (p := ⟨g, 5, none⟩) hI (.inr hlt) (.int .u32 d.n)
  have hI := Only.setCell (p := ⟨g, 6, none⟩) hI (.inr hlt) (.int .u32 u.n)
  have hI := Only.setCell (p := ⟨g, 7, none⟩) hI (.inr hlt) (.int .u32 v.n)
  refine wpAnyE_end (by kernel_rfl) hI ?_
  (try simp only [Exit.inBlock, Exit.then])
  (try go_wp2_with fail)
  go_end0
  exact ⟨rfl, ((((((((((Only.refl [g] w).drew)).setCell (p := ⟨g, 4, none⟩) (.inl (by simp)) (.int .u32 a.n))).setCell (p := ⟨g, 5, none⟩) (.inl (by simp)) (.int .u32 d.n))).setCell (p := ⟨g, 6, none⟩) (.inl (by simp)) (.int .u32 u.n))).setCell (p := ⟨g, 7, none⟩) (.inl (by simp)) (.int .u32 v.n)), ((((hg.drew).set_ 4 (.int .u32 a.n)).set_ 5 (.int .u32 d.n)).set_ 6 (.int .u32 u.n)).set_ 7 (.int .u32 v.n)⟩
set_option maxRecDepth 100000 in
set_option maxHeartbeats 1600000 in
theorem putDeathR_any (m : RQ) (g : Nat) (w0 w : World) (A : Option Addr) (a d u v : FD) (r : List FD) (c : Nat) (hF : RdF w0 A (a :: d :: u :: v :: r)) (hO : Only [] w0 w) (hlt : w0.heap.size ≤ g) (hg : Blk w g 119 m.cells) : Calls Tryz.prog 91 #[.pointer (some ⟨g, 0, none⟩), .slice A (r.length + 4) c] w fun e w' => e = .returned (.tuple #[]) ∧ Only [g] w w' ∧ Blk w' g 119 (RQ.cells { m with text := strOfNums a.text, on := decide (d.n = 1), value := strOfNums u.text, lang := strOfNums v.text }) := by
  obtain ⟨on, hon⟩ : ∃ on, decide (d.n = 1) = on := ⟨_, rfl⟩
  rw [hon]
  have hon2 : (d.n == 1) = on := hon
  clear hon
  obtain ⟨b, off, rfl, hb, hc⟩ := hF.cells (by simp)
  have hbg : ¬ b = g := by omega
  have hgl := hg.lt
  obtain ⟨_, n0, t0, _⟩ := hc 0 a rfl
  simp only [Nat.zero_mul, Nat.one_mul, Nat.reduceMul, Nat.add_zero] at n0 t0
  obtain ⟨_, n1, t1, _⟩ := hc 1 d rfl
  simp only [Nat.zero_mul, Nat.one_mul, Nat.reduceMul, Nat.add_zero] at n1 t1
  obtain ⟨_, n2, t2, _⟩ := hc 2 u rfl
  simp only [Nat.zero_mul, Nat.one_mul, Nat.reduceMul, Nat.add_zero] at n2 t2
  obtain ⟨_, n3, t3, _⟩ := hc 3 v rfl
  simp only [Nat.zero_mul, Nat.one_mul, Nat.reduceMul, Nat.add_zero] at n3 t3
  have hI0 : Only [] w0 { w with drawn := w.drawn + 1 } := hO.drew
  have g1 : w.cell? ⟨g, 1, none⟩ = some (.string m.text) := hg.cell 1
  have z1 := hg.frozen 1
  have g9 : w.cell? ⟨g, 9, none⟩ = some (.bool m.on) := hg.cell 9
  have z9 := hg.frozen 9
  have g2 : w.cell? ⟨g, 2, none⟩ = some (.string m.value) := hg.cell 2
  have z2 := hg.frozen 2
  have g3 : w.cell? ⟨g, 3, none⟩ = some (.string m.lang) := hg.cell 3
  have z3 := hg.frozen 3
  have hsl : (0 : Int) ≤ (r.length : Int) := Int.natCast_nonneg _
  clear hc
  go_enter Tryz.func91, Tryz.ntmps91
  go_wp2_with fail
  have hI : (fun w' : World => Only [] w0 w') { w with drawn := w.drawn + 1 } := hI0
  refine wp_region_E (fun w' : World => Only [] w0 w') [] (by kernel_rfl) ?_
  refine wpAnyE_take 0 (v := (.pointer (some ⟨g, 0, none⟩))) rfl (by kernel_rfl) (fun _ _ _ h => h) hI (fun w' hw' => Or.inl ⟨by kernel_rfl, Or.inl (by go_simp)⟩) ?_
  refine wpAnyE_take 1 (v := (.pointer (some ⟨g, 0, none⟩))) rfl (by kernel_rfl) (fun _ _ _ h => h) hI (fun w' hw' => Or.inl ⟨by kernel_rfl, Or.inl (by go_simp)⟩) ?_
  refine wpAnyE_take 2 (v := (.pointer (some ⟨g, 0, none⟩))) rfl (by kernel_rfl) (fun _ _ _ h => h) hI (fun w' hw' => Or.inl ⟨by kernel_rfl, Or.inl (by go_simp)⟩) ?_
  refine wpAnyE_take 3 (v := (.pointer (some ⟨g, 0, none⟩))) rfl (by kernel_rfl) (fun _ _ _ h => h) hI (fun w' hw' => Or.inl ⟨by kernel_rfl, Or.inl (by go_simp)⟩) ?_
  refine wpAnyE_take 4 (v := (.slice (some ⟨b, off, none⟩) (r.length + 4) c)) rfl (by kernel_rfl) (fun _ _ _ h => h) hI (fun w' hw' => Or.inl ⟨by kernel_rfl, Or.inl (by go_simp)⟩) ?_
  refine wpAnyE_take 5 (v := (.pointer (some ⟨b, off, none⟩))) rfl (by kernel_rfl) (fun _ _ _ h => h) hI (fun w' hw' => Or.inl ⟨by kernel_rfl, Or.inl (by go_simp; intro h7; exact absurd h7 (by omega))⟩) ?_
  refine wpAnyE_take 6 (v := (.pointer (some ⟨b, off + 2, none⟩))) rfl (by kernel_rfl) (fun _ _ _ h => h) hI (fun w' hw' => Or.inl ⟨by kernel_rfl, Or.inl (by go_simp)⟩) ?_
  refine wpAnyE_take 7 (v := (.slice a.tA a.text.length a.tc)) rfl (by kernel_rfl) (fun _ _ _ h => h) hI (fun w' hw' => Or.inl ⟨by kernel_rfl, Or.inl (by have y0 := cellL hw' hb (by simp) t0; go_simp)⟩) ?_
  refine wpAnyE_take 8 (v := (.string (strOfNums a.text))) rfl (by kernel_rfl) (fun _ _ _ h => h) hI (fun w' hw' => Or.inl ⟨by kernel_rfl, Or.inl (by have kc := conv_rd (c := a.tc) ((hF.ok a (by simp)).1.text.only hw'); go_simp)⟩) ?_
  refine wpAnyE_take 9 (v := (.slice (some ⟨b, off, none⟩) (r.length + 4) c)) rfl (by kernel_rfl) (fun _ _ _ h => h) hI (fun w' hw' => Or.inl ⟨by kernel_rfl, Or.inl (by go_simp)⟩) ?_
  refine wpAnyE_take 10 (v := (.pointer (some ⟨b, off + 4, none⟩))) rfl (by kernel_rfl) (fun _ _ _ h => h) hI (fun w' hw' => Or.inl ⟨by kernel_rfl, Or.inl (by go_simp; intro h7; exact absurd h7 (by omega))⟩) ?_
  refine wpAnyE_take 11 (v := (.pointer (some ⟨b, off + 4 + 1, none⟩))) rfl (by kernel_rfl) (fun _ _ _ h => h) hI (fun w' hw' => Or.inl ⟨by kernel_rfl, Or.inl (by go_simp)⟩) ?_
  refine wpAnyE_take 12 (v := (.int .u32 d.n)) rfl (by kernel_rfl) (fun _ _ _ h => h) hI (fun w' hw' => Or.inl ⟨by kernel_rfl, Or.inl (by have y0 := cellL hw' hb (by simp) n1; go_simp)⟩) ?_
  refine wpAnyE_take 13 (v := (.bool on)) rfl (by kernel_rfl) (fun _ _ _ h => h) hI (fun w' hw' => Or.inl ⟨by kernel_rfl, Or.inl (by go_simp)⟩) ?_
  refine wpAnyE_take 14 (v := (.slice (some ⟨b, off, none⟩) (r.length + 4) c)) rfl (by kernel_rfl) (fun _ _ _ h => h) hI (fun w' hw' => Or.inl ⟨by kernel_rfl, Or.inl (by go_simp)⟩) ?_
  refine wpAnyE_take 15 (v := (.pointer (some ⟨b, off + 8, none⟩))) rfl (by kernel_rfl) (fun _ _ _ h => h) hI (fun w' hw' => Or.inl ⟨by kernel_rfl, Or.inl (by go_simp; intro h7; exact absurd h7 (by omega))⟩) ?_
  refine wpAnyE_take 16 (v := (.pointer (some ⟨b, off + 8 + 2, none⟩))) rfl (by kernel_rfl) (fun _ _ _ h => h) hI (fun w' hw' => Or.inl ⟨by kernel_rfl, Or.inl (by go_simp)⟩) ?_
  refine wpAnyE_take 17 (v := (.slice u.tA u.text.length u.tc)) rfl (by kernel_rfl) (fun _ _ _ h => h) hI (fun w' hw' => Or.inl ⟨by kernel_rfl, Or.inl (by have y0 := cellL hw' hb (by simp) t2; go_simp)⟩) ?_
  refine wpAnyE_take 18 (v := (.string (strOfNums u.text))) rfl (by kernel_rfl) (fun _ _ _ h => h) hI (fun w' hw' => Or.inl ⟨by kernel_rfl, Or.inl (by have kc := conv_rd (c := u.tc) ((hF.ok u (by simp)).1.text.only hw'); go_simp)⟩) ?_
  refine wpAnyE_take 19 (v := (.slice (some ⟨b, off, none⟩) (r.length + 4) c)) rfl (by kernel_rfl) (fun _ _ _ h => h) hI (fun w' hw' => Or.inl ⟨by kernel_rfl, Or.inl (by go_simp)⟩) ?_
  refine wpAnyE_take 20 (v := (.pointer (some ⟨b, off + 12, none⟩))) rfl (by kernel_rfl) (fun _ _ _ h => h) hI (fun w' hw' => Or.inl ⟨by kernel_rfl, Or.inl (by go_simp; intro h7; exact absurd h7 (by omega))⟩) ?_
  refine wpAnyE_take 21 (v := (.pointer (some ⟨b, off + 12 + 2, none⟩))) rfl (by kernel_rfl) (fun _ _ _ h => h) hI (fun w' hw' => Or.inl ⟨by kernel_rfl, Or.inl (by go_simp)⟩) ?_
  refine wpAnyE_take 22 (v := (.slice v.tA v.text.length v.tc)) rfl (by kernel_rfl) (fun _ _ _ h => h) hI (fun w' hw' => Or.inl ⟨by kernel_rfl, Or.inl (by have y0 := cellL hw' hb (by simp) t3; go_simp)⟩) ?_
  refine wpAnyE_take 23 (v := (.string (strOfNums v.text))) rfl (by kernel_rfl) (fun _ _ _ h => h) hI (fun w' hw' => Or.inl ⟨by kernel_rfl, Or.inl (by have kc := conv_rd (c := v.tc) ((hF.ok v (by simp)).1.text.only hw'); go_simp)⟩) ?_
  refine wpAnyE_take 24 (v := (.pointer (some ⟨g, 0, none⟩))) rfl (by kernel_rfl) (fun _ _ _ h => h) hI (fun w' hw' => Or.inl ⟨by kernel_rfl, Or.inl (by go_simp)⟩) ?_
  refine wpAnyE_take 25 (v := (.pointer (some ⟨g, 0, none⟩))) rfl (by kernel_rfl) (fun _ _ _ h => h) hI (fun w' hw' => Or.inl ⟨by kernel_rfl, Or.inl (by go_simp)⟩) ?_
  refine wpAnyE_take 26 (v := (.pointer (some ⟨g, 1, none⟩))) rfl (by kernel_rfl) (fun _ _ _ h => h) hI (fun w' hw' => Or.inl ⟨by kernel_rfl, Or.inl (by go_simp)⟩) ?_
  refine wpAnyE_one 27 rfl (by kernel_rfl) hI (fun K hK => ?_)
  rw [if_pos (by kernel_rfl)]
  go_simp
  refine hK _ _ ?_
  clear hK K
  have hI := Only.setCell (p := ⟨g, 1, none⟩) hI (.inr hlt) (.string (strOfNums a.text))
  refine wpAnyE_take 28 (v := (.pointer (some ⟨g, 0, none⟩))) rfl (by kernel_rfl) (fun _ _ _ h => h) hI (fun w' hw' => Or.inl ⟨by kernel_rfl, Or.inl (by go_simp)⟩) ?_
  refine wpAnyE_take 29 (v := (.pointer (some ⟨g, 0, none⟩))) rfl (by kernel_rfl) (fun _ _ _ h => h) hI (fun w' hw' => Or.inl ⟨by kernel_rfl, Or.inl (by go_simp)⟩) ?_
  refine wpAnyE_take 30 (v := (.pointer (some ⟨g, 9, none⟩))) rfl (by kernel_rfl) (fun _ _ _ h => h) hI (fun w' hw' => Or.inl ⟨by kernel_rfl, Or.inl (by go_simp)⟩) ?_
  refine wpAnyE_one 31 rfl (by kernel_rfl) hI (fun K hK => ?_)
  rw [if_pos (by kernel_rfl)]
  go_simp
  refine hK _ _ ?_
  clear hK K
  have hI := Only.setCell (p := ⟨g, 9, none⟩) hI (.inr hlt) (.bool on)
  refine wpAnyE_take 32 (v := (.pointer (some ⟨g, 0, none⟩))) rfl (by kernel_rfl) (fun _ _ _ h => h) hI (fun w' hw' => Or.inl ⟨by kernel_rfl, Or.inl (by go_simp)⟩) ?_
  refine wpAnyE_take 33 (v := (.pointer (some ⟨g, 0, none⟩))) rfl (by kernel_rfl) (fun _ _ _ h => h) hI (fun w' hw' => Or.inl ⟨by kernel_rfl, Or.inl (by go_simp)⟩) ?_
  refine wpAnyE_take 34 (v := (.pointer (some ⟨g, 2, none⟩))) rfl (by kernel_rfl) (fun _ _ _ h => h) hI (fun w' hw' => Or.inl ⟨by kernel_rfl, Or.inl (by go_simp)⟩) ?_
  refine wpAnyE_one 35 rfl (by kernel_rfl) hI (fun K hK => ?_)
  rw [if_pos (by kernel_rfl)]
  go_simp
  refine hK _ _ ?_
  clear hK K
  have hI := Only.setCell (p := ⟨g, 2, none⟩) hI (.inr hlt) (.string (strOfNums u.text))
  refine wpAnyE_take 36 (v := (.pointer (some ⟨g, 0, none⟩))) rfl (by kernel_rfl) (fun _ _ _ h => h) hI (fun w' hw' => Or.inl ⟨by kernel_rfl, Or.inl (by go_simp)⟩) ?_
  refine wpAnyE_take 37 (v := (.pointer (some ⟨g, 0, none⟩))) rfl (by kernel_rfl) (fun _ _ _ h => h) hI (fun w' hw' => Or.inl ⟨by kernel_rfl, Or.inl (by go_simp)⟩) ?_
  refine wpAnyE_take 38 (v := (.pointer (some ⟨g, 3, none⟩))) rfl (by kernel_rfl) (fun _ _ _ h => h) hI (fun w' hw' => Or.inl ⟨by kernel_rfl, Or.inl (by go_simp)⟩) ?_
  refine wpAnyE_one 39 rfl (by kernel_rfl) hI (fun K hK => ?_)
  rw [if_pos (by kernel_rfl)]
  go_simp
  refine hK _ _ ?_
  clear hK K
  have hI := Only.setCell (p := ⟨g, 3, none⟩) hI (.inr hlt) (.string (strOfNums v.text))
  refine wpAnyE_end (by kernel_rfl) hI ?_
  (try simp only [Exit.inBlock, Exit.then])
  (try go_wp2_with fail)
  go_end0
  exact ⟨rfl, ((((((((((Only.refl [g] w).drew)).setCell (p := ⟨g, 1, none⟩) (.inl (by simp)) (.string (strOfNums a.text)))).setCell (p := ⟨g, 9, none⟩) (.inl (by simp)) (.bool on))).setCell (p := ⟨g, 2, none⟩) (.inl (by simp)) (.string (strOfNums u.text)))).setCell (p := ⟨g, 3, none⟩) (.inl (by simp)) (.string (strOfNums v.text))), ((((hg.drew).set_ 1 (.string (strOfNums a.text))).set_ 9 (.bool on)).set_ 2 (.string (strOfNums u.text))).set_ 3 (.string (strOfNums v.text))⟩
set_option maxRecDepth 100000 in
set_option maxHeartbeats 1600000 in
theorem putPtyR_any (m : RQ) (g : Nat) (w0 w : World) (A : Option Addr) (a b1 c1 d1 e1 f1 : FD) (r : List FD) (c : Nat) (hF : RdF w0 A (a :: b1 :: c1 :: d1 :: e1 :: f1 :: r)) (hO : Only [] w0 w) (hlt : w0.heap.size ≤ g) (hg : Blk w g 119 m.cells) (h6 : r.length + 6 ≤ c) (hcm : c ≤ maxLen) : Calls Tryz.prog 72 #[.pointer (some ⟨g, 0, none⟩), .slice A (r.length + 6) c] w fun e w' => e = .returned (.tuple #[]) ∧ Only [g] w w' ∧ Blk w' g 119 (RQ.cells { m with text := strOfNums a.text, cols := b1.n, rows := c1.n, width := d1.n, height := e1.n, mA := f1.tA, mc := f1.tc, modes := f1.text }) := by
  have TX := putTextR_any m g w0 w A a (b1 :: c1 :: d1 :: e1 :: f1 :: r) c hF hO hlt hg
  obtain ⟨b, off, rfl, hb, hc⟩ := hF.cells (by simp)
  have hF2 : RdF w0 (some ⟨b, off + 4, none⟩) (b1 :: c1 :: d1 :: e1 :: f1 :: r) := ⟨fun _ => ⟨b, off + 4, rfl, hb, fun i f hi => by
    have := hc (i + 1) f (by simpa using hi)
    rw [show off + (i + 1) * 4 = off + 4 + i * 4 by omega] at this
    exact this⟩, fun f hf => hF.ok f (List.mem_cons_of_mem _ hf)⟩
  obtain ⟨_, _, t5, _⟩ := hc 5 f1 rfl
  simp only [Nat.reduceMul] at t5
  rw [show (b1 :: c1 :: d1 :: e1 :: f1 :: r).length + 1 = r.length + 6 by simp] at TX
  have i1 : (1 : Int) ≤ (r.length : Int) + 6 := by omega
  have i2 : (1 : Int) < (c : Int) := by omega
  have i3 : ((r.length : Int) + 6) ≤ (c : Int) := by omega
  have i5 : (5 : Int) < (r.length : Int) + 6 := by omega
  clear hc
  go_enter Tryz.func72, Tryz.ntmps72
  go_wp2_with fail
  go_call TX as e w1 ⟨rfl, P1, K1⟩
  clear TX
  have O1 : Only [] w0 w1 := hO.trans P1 (fun x hx => .inr (by simp at hx; omega))
  have TS := putSizeR_any _ g w0 w1 _ b1 c1 d1 e1 (f1 :: r) (c - 1) hF2 O1 hlt K1
  rw [show (f1 :: r).length + 4 = r.length + 5 by simp] at TS
  go_wp2_with fail
  go_call TS as e w2 ⟨rfl, P2, K2⟩
  clear TS
  have O2 : Only [] w0 w2 := O1.trans P2 (fun x hx => .inr (by simp at hx; omega))
  have t5 := cellL O2 hb (by simp) t5
  have c8 := K2.cell 8
  have z8 := K2.frozen 8
  have hb2 := K2.set_ 8 (.slice f1.tA f1.text.length f1.tc)
  have hO2 : Only [g] w (w2.setCell ⟨g, 8, none⟩ (.slice f1.tA f1.text.length f1.tc)) := ((P1.trans P2 (fun x hx => .inl hx)).setCell (p := ⟨g, 8, none⟩) (.inl (by simp)) _)
  go_wp2
  go_end0
  exact ⟨rfl, hO2, hb2⟩
end Go.Proofs.YtdplnedpbkpgpaaGreatDoor

namespace Go.Proofs.YtdplnedpbkpgpaaGreatDoor
set_option linter.all false
open Go.RowKit

/-- What gets, of a kind. -/
theorem rget_any (k : Nat) (h1 : 1 ≤ k) (h2 : k ≤ 10) : ∃ F : FuncId, rget k = F ∧ (∀ (args : Array Value) (w : World), (callFunc F args).run Tryz.prog w = .ok (.enter F args) w) ∧
    ∀ (w : World) (m : RQ) (g : Nat), Blk w g 119 m.cells → m.ok w → m.text.size ≤ 140737488355328 → m.value.size ≤ 140737488355328 → m.lang.size ≤ 140737488355328 → Calls Tryz.prog F #[.pointer (some ⟨g, 0, none⟩)] w (GetsPost w (partsR m k)) := by
  rcases k10 h1 h2 with rfl | rfl | rfl | rfl | rfl | rfl | rfl | rfl | rfl | rfl
  · exact ⟨_, rfl, fun args w => by kernel_rfl, fun w m g hg hm hs hv hl => getPtyR_any m g w hg hm hs⟩
  · exact ⟨_, rfl, fun args w => by kernel_rfl, fun w m g hg hm hs hv hl => getEnvR_any m g w hg hs hv⟩
  · exact ⟨_, rfl, fun args w => by kernel_rfl, fun w m g hg hm hs hv hl => getNoneR_any m g w hg⟩
  · exact ⟨_, rfl, fun args w => by kernel_rfl, fun w m g hg hm hs hv hl => getTextR_any m g w hg hs⟩
  · exact ⟨_, rfl, fun args w => by kernel_rfl, fun w m g hg hm hs hv hl => getTextR_any m g w hg hs⟩
  · exact ⟨_, rfl, fun args w => by kernel_rfl, fun w m g hg hm hs hv hl => getSizeR_any m g w hg hm.nums⟩
  · exact ⟨_, rfl, fun args w => by kernel_rfl, fun w m g hg hm hs hv hl => getOnR_any m g w hg⟩
  · exact ⟨_, rfl, fun args w => by kernel_rfl, fun w m g hg hm hs hv hl => getTextR_any m g w hg hs⟩
  · exact ⟨_, rfl, fun args w => by kernel_rfl, fun w m g hg hm hs hv hl => getCodeR_any m g w hg hm.nums.2.2.2.2⟩
  · exact ⟨_, rfl, fun args w => by kernel_rfl, fun w m g hg hm hs hv hl => getDeathR_any m g w hg hs hv hl⟩
def PutsPost (g : Nat) (w : World) (m : RQ) : Ending → World → Prop := fun e w' => e = .returned (.tuple #[]) ∧ Only [g] w w' ∧ Blk w' g 119 m.cells
theorem len_kinds {fs : List FD} {k : Nat} (h : fs.map (fun f => f.pf.kind) = rkinds k) : fs.length = (rkinds k).length := by rw [← h, List.length_map]
/-- What puts, of a kind. -/
theorem rput_any (k : Nat) (h1 : 1 ≤ k) (h2 : k ≤ 10) : ∃ F : FuncId, rput k = F ∧ (∀ (args : Array Value) (w : World), (callFunc F args).run Tryz.prog w = .ok (.enter F args) w) ∧
    ∀ (m : RQ) (g : Nat) (w0 w : World) (A : Option Addr) (fs : List FD) (n c : Nat), fs.length = n → fs.map (fun f => f.pf.kind) = rkinds k → n ≤ c → c ≤ maxLen → RdF w0 A fs → Only [] w0 w → w0.heap.size ≤ g → Blk w g 119 m.cells → Calls Tryz.prog F #[.pointer (some ⟨g, 0, none⟩), .slice A n c] w (PutsPost g w (putR m k fs)) := by
  rcases k10 h1 h2 with rfl | rfl | rfl | rfl | rfl | rfl | rfl | rfl | rfl | rfl
  · refine ⟨_, rfl, fun args w => by kernel_rfl, fun m g w0 w A fs n c hn hk hc hcm hF hO hlt hg => ?_⟩
    obtain ⟨x1, x2, x3, x4, x5, x6, rfl, _⟩ := ks6 hk
    subst hn
    exact putPtyR_any m g w0 w A x1 x2 x3 x4 x5 x6 [] c hF hO hlt hg hc hcm
  · refine ⟨_, rfl, fun args w => by kernel_rfl, fun m g w0 w A fs n c hn hk hc hcm hF hO hlt hg => ?_⟩
    obtain ⟨x1, x2, rfl, _⟩ := ks2 hk
    subst hn
    exact putEnvR_any m g w0 w A x1 x2 [] c hF hO hlt hg
  · refine ⟨_, rfl, fun args w => by kernel_rfl, fun m g w0 w A fs n c hn hk hc hcm hF hO hlt hg => ?_⟩
    obtain rfl : fs = [] := List.eq_nil_of_length_eq_zero (len_kinds hk)
    subst hn
    exact putNoneR_any m g w _ hg
  · refine ⟨_, rfl, fun args w => by kernel_rfl, fun m g w0 w A fs n c hn hk hc hcm hF hO hlt hg => ?_⟩
    obtain ⟨x1, rfl, _⟩ := ks1 hk
    subst hn
    exact putTextR_any m g w0 w A x1 [] c hF hO hlt hg
  · refine ⟨_, rfl, fun args w => by kernel_rfl, fun m g w0 w A fs n c hn hk hc hcm hF hO hlt hg => ?_⟩
    obtain ⟨x1, rfl, _⟩ := ks1 hk
    subst hn
    exact putTextR_any m g w0 w A x1 [] c hF hO hlt hg
  · refine ⟨_, rfl, fun args w => by kernel_rfl, fun m g w0 w A fs n c hn hk hc hcm hF hO hlt hg => ?_⟩
    obtain ⟨x1, x2, x3, x4, rfl, _⟩ := ks4 hk
    subst hn
    exact putSizeR_any m g w0 w A x1 x2 x3 x4 [] c hF hO hlt hg
  · refine ⟨_, rfl, fun args w => by kernel_rfl, fun m g w0 w A fs n c hn hk hc hcm hF hO hlt hg => ?_⟩
    obtain ⟨x1, rfl, _⟩ := ks1 hk
    subst hn
    exact putOnR_any m g w0 w A x1 [] c hF hO hlt hg
  · refine ⟨_, rfl, fun args w => by kernel_rfl, fun m g w0 w A fs n c hn hk hc hcm hF hO hlt hg => ?_⟩
    obtain ⟨x1, rfl, _⟩ := ks1 hk
    subst hn
    exact putTextR_any m g w0 w A x1 [] c hF hO hlt hg
  · refine ⟨_, rfl, fun args w => by kernel_rfl, fun m g w0 w A fs n c hn hk hc hcm hF hO hlt hg => ?_⟩
    obtain ⟨x1, rfl, _⟩ := ks1 hk
    subst hn
    exact putCodeR_any m g w0 w A x1 [] c hF hO hlt hg
  · refine ⟨_, rfl, fun args w => by kernel_rfl, fun m g w0 w A fs n c hn hk hc hcm hF hO hlt hg => ?_⟩
    obtain ⟨x1, x2, x3, x4, rfl, _⟩ := ks4 hk
    subst hn
    exact putDeathR_any m g w0 w A x1 x2 x3 x4 [] c hF hO hlt hg
end Go.Proofs.YtdplnedpbkpgpaaGreatDoor

namespace Go.Proofs.YtdplnedpbkpgpaaGreatDoor
set_option linter.all false
open Go.RowKit

/-- Two results, the first one in memory. -/
theorem ret_row_tmp {P : Program} {fn : Func} {p t : Tmp} {T : TypeId} {R : Ending → World → Prop} {a : Act} {w : World} {g : Nat} {d : TypeDesc} (cs : Array Value) (h : fn.results = #[.cell p T, .tmp t]) (hp : a.tmps.getD p undef = .pointer (some ⟨g, 0, none⟩)) (hd : a.defers = [])
    (hg : w.heap[g]? = some (.cells cs T (0, 0))) (hu : P.underlying T = some d) (hk : (match d with | .struct _ | .array _ _ => true | _ => false) = true) (hs : (P.info? T).map (·.size) = some cs.size)
    (hR : R (.returned (.tuple #[.agg cs, a.tmps.getD t undef])) w) : bodyPost P fn R .ret a w := by
  refine bodyPost_ret (v := .tuple #[.agg cs, a.tmps.getD t undef]) ?_ hd hR
  have hp' : a.tmps[p]?.getD undef = .pointer (some ⟨g, 0, none⟩) := by simpa using hp
  simp [results, h, hp', asAddr, run_loadVar_row (P := P) w g T T cs (0, 0) d hg hu hk hs]
def ruleV (k : Nat) (KA : Option Addr) : Value := .agg #[.string (rname k), .slice KA (rkinds k).length (rkinds k).length, rfn (rget k), rfn (rput k), rfn (rask k)]
/-- A rule handed on. -/
def RulePost (w : World) (k : Nat) : Ending → World → Prop := fun e w' => Only [] w w' ∧ ∃ KA : Option Addr, e = .returned (.tuple #[ruleV k KA, .bool true]) ∧ RdI w' KA (rkinds k)
theorem rule_index (q k : Nat) (h1 : 1 ≤ k) (h2 : k ≤ 10) (w : World) : (Instr.index 133 (.agg (rtab q)) (.int .i64 (k : Int))).run Tryz.prog w = .ok (ruleV k (kaddr q k)) w := by
  rcases k10 h1 h2 with rfl | rfl | rfl | rfl | rfl | rfl | rfl | rfl | rfl | rfl <;> kernel_rfl
def zrule : Array Value := #[.string ⟨#[]⟩, .slice none 0 0, .nilFunc, .nilFunc, .nilFunc]
theorem rule_row {w : World} {g : Nat} {t : TypeId} {a0 a1 a2 a3 a4 b0 b1 b2 b3 b4 : Value} (h : Blk w g t [a0, a1, a2, a3, a4]) : Blk (((((w.setCell ⟨g, 0, none⟩ b0).setCell ⟨g, 1, none⟩ b1).setCell ⟨g, 2, none⟩ b2).setCell ⟨g, 3, none⟩ b3).setCell ⟨g, 4, none⟩ b4) g t [b0, b1, b2, b3, b4] := (((((h.set_ 0 b0).set_ 1 b1).set_ 2 b2).set_ 3 b3).set_ 4 b4)
theorem rule_only {L : List Nat} {w0 w : World} {g : Nat} {b0 b1 b2 b3 b4 : Value} (hg : g ∈ L ∨ w0.heap.size ≤ g) (h : Only L w0 w) : Only L w0 (((((w.setCell ⟨g, 0, none⟩ b0).setCell ⟨g, 1, none⟩ b1).setCell ⟨g, 2, none⟩ b2).setCell ⟨g, 3, none⟩ b3).setCell ⟨g, 4, none⟩ b4) :=
  (((((h.setCell (p := ⟨g, 0, none⟩) hg _).setCell (p := ⟨g, 1, none⟩) hg _).setCell (p := ⟨g, 2, none⟩) hg _).setCell (p := ⟨g, 3, none⟩) hg _).setCell (p := ⟨g, 4, none⟩) hg _)
set_option maxRecDepth 100000 in
set_option maxHeartbeats 1600000 in
theorem rof_any (k : Nat) (h1 : 1 ≤ k) (h2 : k ≤ 10) (w : World) : Calls Tryz.prog 41 #[.int .i64 (k : Int)] w (RulePost w k) := by
  have i1 : ¬ (k : Int) < 1 := by omega
  have i2 : ¬ (10 : Int) < (k : Int) := by omega
  obtain ⟨w1, hw1⟩ : ∃ w1, w1 = w.alloc (.cells #[.string ⟨#[]⟩, .slice none 0 0, .nilFunc, .nilFunc, .nilFunc] 114) := ⟨_, rfl⟩
  have P1 : Only [] w w1 := by rw [hw1]; exact (Only.refl _ _).alloc _
  have K1 : Blk w1 w.heap.size 114 [.string ⟨#[]⟩, .slice none 0 0, .nilFunc, .nilFunc, .nilFunc] := by rw [hw1]; exact Blk.new w _ _
  have RU := rules_any w1
  have hix := fun w' => rule_index w1.heap.size k h1 h2 w'
  unfold ruleV rfn at hix
  obtain ⟨KA, hKA⟩ : ∃ KA, kaddr w1.heap.size k = KA := ⟨_, rfl⟩
  obtain ⟨tb, htb⟩ : ∃ tb, rtab w1.heap.size = tb := ⟨_, rfl⟩
  obtain ⟨nm, hnm⟩ : ∃ nm, rname k = nm := ⟨_, rfl⟩
  obtain ⟨n, hn⟩ : ∃ n, (rkinds k).length = n := ⟨_, rfl⟩
  obtain ⟨F1, hF1⟩ : ∃ F, rget k = F := ⟨_, rfl⟩
  obtain ⟨F2, hF2⟩ : ∃ F, rput k = F := ⟨_, rfl⟩
  obtain ⟨F3, hF3⟩ : ∃ F, rask k = F := ⟨_, rfl⟩
  rw [hKA, htb, hnm, hn, hF1, hF2, hF3] at hix
  rw [htb] at RU
  have hv : ruleV k KA = .agg #[.string nm, .slice KA n n, .func (Fn.func F1) #[] #[], .func (Fn.func F2) #[] #[], .func (Fn.func F3) #[] #[]] := by unfold ruleV rfn; rw [hnm, hn, hF1, hF2, hF3]
  replace hv := hide hv
  replace hKA := hide hKA
  replace htb := hide htb
  replace hnm := hide hnm
  replace hn := hide hn
  replace hF1 := hide hF1
  replace hF2 := hide hF2
  replace hF3 := hide hF3
  go_enter Tryz.func41, Tryz.ntmps41
  go_wp2_with fail
  rw [← hw1]
  replace hw1 := hide hw1
  go_call RU as e w2 ⟨rfl, P2, z2, R2⟩
  clear RU
  have R2 := R2 k h1 h2
  rw [hKA.out] at R2
  replace z2 := hide z2
  have K2 := K1.only P2 (by simp)
  have c0 := K2.cell 0
  have c1 := K2.cell 1
  have c2 := K2.cell 2
  have c3 := K2.cell 3
  have c4 := K2.cell 4
  have f0 := K2.frozen 0
  have f1 := K2.frozen 1
  have f2 := K2.frozen 2
  have f3 := K2.frozen 3
  have f4 := K2.frozen 4
  simp only [List.getElem?_cons_zero, List.getElem?_cons_succ] at c0 c1 c2 c3 c4
  go_wp2_with fail
  (try simp only [Exit.inBlock, Exit.then])
  refine ret_row_tmp #[.string nm, .slice KA n n, .func (Fn.func F1) #[] #[], .func (Fn.func F2) #[] #[], .func (Fn.func F3) #[] #[]] rfl (by rfl) (by rfl) (rule_row K2) Tryz.underlying114 rfl (by kernel_rfl) ?_
  have O3 := rule_only (L := []) (w0 := w) (g := w.heap.size) (b0 := .string nm) (b1 := .slice KA n n) (b2 := .func (Fn.func F1) #[] #[]) (b3 := .func (Fn.func F2) #[] #[]) (b4 := .func (Fn.func F3) #[] #[]) (.inr (Nat.le_refl _)) (P1.trans P2 (by simp))
  have O4 := rule_only (L := [w.heap.size]) (w0 := w2) (w := w2) (g := w.heap.size) (b0 := .string nm) (b1 := .slice KA n n) (b2 := .func (Fn.func F1) #[] #[]) (b3 := .func (Fn.func F2) #[] #[]) (b4 := .func (Fn.func F3) #[] #[]) (.inl (by simp)) (Only.refl _ _)
  refine ⟨O3, KA, by rw [hv.out]; rfl, RdG.onlyL R2 O4 (fun a ha h0 => ?_)⟩
  rw [← hKA.out] at ha
  have := K1.lt
  unfold kaddr at ha
  split at ha
  · cases ha
  · injection ha with ha
    rw [← ha]
    simp
    omega
set_option maxRecDepth 100000 in
set_option maxHeartbeats 1600000 in
theorem rof_none (k : Int) (h : ¬ (1 ≤ k ∧ k ≤ 10)) (w : World) : Calls Tryz.prog 41 #[.int .i64 k] w fun e w' => Only [] w w' ∧ e = .returned (.tuple #[.agg #[.string ⟨#[]⟩, .slice none 0 0, .nilFunc, .nilFunc, .nilFunc], .bool false]) := by
  have K1 : Blk (w.alloc (.cells #[.string ⟨#[]⟩, .slice none 0 0, .nilFunc, .nilFunc, .nilFunc] 114)) w.heap.size 114 [.string ⟨#[]⟩, .slice none 0 0, .nilFunc, .nilFunc, .nilFunc] := Blk.new w _ _
  have O1 : Only [] w (w.alloc (.cells #[.string ⟨#[]⟩, .slice none 0 0, .nilFunc, .nilFunc, .nilFunc] 114)) := (Only.refl _ _).alloc _
  by_cases h1 : k < 1
  · clear h
    go_enter Tryz.func41, Tryz.ntmps41
    go_wp2_with fail
    (try simp only [Exit.inBlock, Exit.then])
    refine ret_row_tmp #[.string ⟨#[]⟩, .slice none 0 0, .nilFunc, .nilFunc, .nilFunc] rfl (by rfl) (by rfl) K1 Tryz.underlying114 rfl (by kernel_rfl) ?_
    exact ⟨O1, rfl⟩
  · have h2 : 10 < k := by omega
    clear h
    go_enter Tryz.func41, Tryz.ntmps41
    go_wp2_with fail
    (try simp only [Exit.inBlock, Exit.then])
    refine ret_row_tmp #[.string ⟨#[]⟩, .slice none 0 0, .nilFunc, .nilFunc, .nilFunc] rfl (by rfl) (by rfl) K1 Tryz.underlying114 rfl (by kernel_rfl) ?_
    exact ⟨O1, rfl⟩
end Go.Proofs.YtdplnedpbkpgpaaGreatDoor

namespace Go.Proofs.YtdplnedpbkpgpaaGreatDoor
set_option linter.all false
open Go.RowKit

theorem index_mem (c : UInt8) : ∀ l : List UInt8, decide (0 ≤ Lib.indexByte l c) = decide (c ∈ l)
  | [] => by simp [Lib.indexByte]
  | b :: l => by
    have ih := index_mem c l
    have hge := Lib.indexByte_ge l c
    unfold Lib.indexByte
    by_cases hb : b = c
    · subst hb; simp
    · have hcb : ¬ c = b := fun e => hb e.symm
      rw [if_neg (by simpa using hb)]
      by_cases h1 : Lib.indexByte l c = -1
      · rw [h1] at ih ⊢
        simp [hcb] at ih ⊢
        exact ih
      · rw [if_neg (by simpa using h1)]
        have h0 : 0 ≤ Lib.indexByte l c := by omega
        rw [decide_eq_true h0] at ih
        rw [decide_eq_true (show 0 ≤ Lib.indexByte l c + 1 by omega)]
        have := of_decide_eq_true ih.symm
        simp [this]
theorem rhas_any (s : ByteArray) (w : World) : Calls Tryz.prog 133 #[.string s, .string ⟨#[61]⟩] w fun e w' => e = .returned (.bool (hasEq s)) ∧ w = w' :=
  (Tryz.strings_Contains_one s 61 w).mono fun e w' ⟨h1, h2⟩ => ⟨by rw [h1, index_mem]; rfl, h2.symm⟩
section
variable (m : RQ) (g : Nat) (w : World)
theorem askNoneR_any : Calls Tryz.prog 79 #[.pointer (some ⟨g, 0, none⟩)] w fun e w' => e = .returned (.int .i64 0) ∧ Only [] w w' := by
  go_enter Tryz.func79, Tryz.ntmps79
  go_wp2
  go_ret
  exact ⟨rfl, Only.refl _ _⟩
set_option maxRecDepth 100000 in
set_option maxHeartbeats 1600000 in
theorem askWordR_any (hg : Blk w g 119 m.cells) (hm : m.ok w) : Calls Tryz.prog 83 #[.pointer (some ⟨g, 0, none⟩)] w fun e w' => e = .returned (.int .i64 (wordE m.text 1)) ∧ Only [] w w' := by
  have c1 : w.cell? ⟨g, 1, none⟩ = some (.string m.text) := hg.cell 1
  have T := rword_any m.text 1 w hm.text
  go_enter Tryz.func83, Tryz.ntmps83
  go_wp2_with fail
  go_call T as e x ⟨rfl, rfl⟩
  clear T
  go_wp2_with fail
  go_ret
  exact ⟨rfl, Only.refl _ _⟩
set_option maxRecDepth 100000 in
set_option maxHeartbeats 1600000 in
theorem askExecR_any (hg : Blk w g 119 m.cells) (hm : m.ok w) : Calls Tryz.prog 82 #[.pointer (some ⟨g, 0, none⟩)] w fun e w' => e = .returned (.int .i64 (longE m.text.size)) ∧ Only [] w w' := by
  have c1 : w.cell? ⟨g, 1, none⟩ = some (.string m.text) := hg.cell 1
  have T := rlong_any m.text.size w
  go_enter Tryz.func82, Tryz.ntmps82
  go_wp2_with fail
  go_call T as e x ⟨rfl, rfl⟩
  clear T
  go_wp2_with fail
  go_ret
  exact ⟨rfl, Only.refl _ _⟩
set_option maxRecDepth 100000 in
set_option maxHeartbeats 1600000 in
theorem askPtyR_any (hg : Blk w g 119 m.cells) (hm : m.ok w) : Calls Tryz.prog 73 #[.pointer (some ⟨g, 0, none⟩)] w fun e w' => e = .returned (.int .i64 (firstE [wordE m.text 0, longE m.modes.length])) ∧ Only [] w w' := by
  have hlt := hg.lt
  go_enter Tryz.func73, Tryz.ntmps73
  go_wp2_with fail
  have hI : (fun w' : World => Blk w' g 119 m.cells) { w with drawn := w.drawn + 1 } := hg
  refine wp_region_E (fun w' : World => Blk w' g 119 m.cells) [] (by kernel_rfl) ?_
  refine wpAnyE_take 0 (v := (.pointer (some ⟨g, 0, none⟩))) rfl (by kernel_rfl) (fun _ _ _ h => h) hI (fun w' hw' => Or.inl ⟨by kernel_rfl, Or.inl (by go_simp)⟩) ?_
  refine wpAnyE_take 1 (v := (.pointer (some ⟨g, 0, none⟩))) rfl (by kernel_rfl) (fun _ _ _ h => h) hI (fun w' hw' => Or.inl ⟨by kernel_rfl, Or.inl (by go_simp)⟩) ?_
  refine wpAnyE_take 2 (v := (.pointer (some ⟨g, 0, none⟩))) rfl (by kernel_rfl) (fun _ _ _ h => h) hI (fun w' hw' => Or.inl ⟨by kernel_rfl, Or.inl (by go_simp)⟩) ?_
  refine wpAnyE_take 3 (v := (.pointer (some ⟨g, 1, none⟩))) rfl (by kernel_rfl) (fun _ _ _ h => h) hI (fun w' hw' => Or.inl ⟨by kernel_rfl, Or.inl (by go_simp)⟩) ?_
  refine wpAnyE_take 4 (v := (.string m.text)) rfl (by kernel_rfl) (fun _ _ _ h => h) hI (fun w' hw' => Or.inl ⟨by kernel_rfl, Or.inl (by have y0 : w'.cell? ⟨g, 1, none⟩ = some (.string m.text) := hw'.cell 1; go_simp)⟩) ?_
  refine wpAnyE_take 6 (v := (.pointer (some ⟨g, 0, none⟩))) rfl (by kernel_rfl) (fun _ _ _ h => h) hI (fun w' hw' => Or.inl ⟨by kernel_rfl, Or.inl (by go_simp)⟩) ?_
  refine wpAnyE_take 7 (v := (.pointer (some ⟨g, 0, none⟩))) rfl (by kernel_rfl) (fun _ _ _ h => h) hI (fun w' hw' => Or.inl ⟨by kernel_rfl, Or.inl (by go_simp)⟩) ?_
  refine wpAnyE_take 8 (v := (.pointer (some ⟨g, 0, none⟩))) rfl (by kernel_rfl) (fun _ _ _ h => h) hI (fun w' hw' => Or.inl ⟨by kernel_rfl, Or.inl (by go_simp)⟩) ?_
  refine wpAnyE_take 9 (v := (.pointer (some ⟨g, 8, none⟩))) rfl (by kernel_rfl) (fun _ _ _ h => h) hI (fun w' hw' => Or.inl ⟨by kernel_rfl, Or.inl (by go_simp)⟩) ?_
  refine wpAnyE_take 10 (v := (.slice m.mA m.modes.length m.mc)) rfl (by kernel_rfl) (fun _ _ _ h => h) hI (fun w' hw' => Or.inl ⟨by kernel_rfl, Or.inl (by have y0 : w'.cell? ⟨g, 8, none⟩ = some (.slice m.mA m.modes.length m.mc) := hw'.cell 8; go_simp)⟩) ?_
  refine wpAnyE_take 11 (v := (.int .i64 (m.modes.length : Int))) rfl (by kernel_rfl) (fun _ _ _ h => h) hI (fun w' hw' => Or.inl ⟨by kernel_rfl, Or.inl (by go_simp)⟩) ?_
  have T := rword_any m.text 0 w.drew hm.text
  refine wpAnyE_one 5 rfl (by kernel_rfl) hI (fun K hK => ?_)
  rw [if_pos (by kernel_rfl)]
  go_simp
  go_call T as e x ⟨rfl, rfl⟩
  clear T
  refine hK _ _ ?_
  clear hK K
  have T := rlong_any (m.modes.length) w.drew
  refine wpAnyE_one 12 rfl (by kernel_rfl) hI (fun K hK => ?_)
  rw [if_pos (by kernel_rfl)]
  go_simp
  go_call T as e x ⟨rfl, rfl⟩
  clear T
  refine hK _ _ ?_
  clear hK K
  refine wpAnyE_one 13 rfl (by kernel_rfl) hI (fun K hK => ?_)
  rw [if_pos (by kernel_rfl)]
  go_simp
  refine hK _ _ ?_
  clear hK K
  have PL : Only [] w ((w.alloc (.cells #[.int .i64 (wordE m.text 0), .int .i64 (longE m.modes.length)] 65)).drew) := ((Only.refl [] w).alloc _).drew
  have hIL : (fun w' : World => Blk w' g 119 m.cells) ((w.alloc (.cells #[.int .i64 (wordE m.text 0), .int .i64 (longE m.modes.length)] 65)).drew) := hg.only PL (by simp)
  have RL : RdI ((w.alloc (.cells #[.int .i64 (wordE m.text 0), .int .i64 (longE m.modes.length)] 65)).drew) (some ⟨w.heap.size, 0, none⟩) [(wordE m.text 0), (longE m.modes.length)] := rdI_blk (Blk.new w 65 ([(wordE m.text 0), (longE m.modes.length)].map (.int .i64)))
  have T := rfirst_any (some ⟨w.heap.size, 0, none⟩) [(wordE m.text 0), (longE m.modes.length)] 2 _ RL (by simp [maxLen])
  refine wpAnyE_one 14 rfl (by kernel_rfl) hIL (fun K hK => ?_)
  rw [if_pos (by kernel_rfl)]
  go_simp
  go_call T as e x ⟨rfl, rfl⟩
  clear T
  refine hK _ _ ?_
  clear hK K
  refine wpAnyE_take 15 (v := (.int .i64 (firstE [(wordE m.text 0), (longE m.modes.length)]))) rfl (by kernel_rfl) (fun _ _ _ h => h) hIL (fun w' hw' => Or.inl ⟨by kernel_rfl, Or.inl (by go_simp)⟩) ?_
  refine wpAnyE_end (by kernel_rfl) hIL ?_
  simp only [Exit.then]
  go_wp2_with fail
  go_ret
  exact ⟨rfl, PL⟩
set_option maxRecDepth 100000 in
set_option maxHeartbeats 1600000 in
theorem askDeathR_any (hg : Blk w g 119 m.cells) (hm : m.ok w) : Calls Tryz.prog 92 #[.pointer (some ⟨g, 0, none⟩)] w fun e w' => e = .returned (.int .i64 (firstE [wordE m.text 1, wordE m.lang 0, longE m.value.size])) ∧ Only [] w w' := by
  have hlt := hg.lt
  go_enter Tryz.func92, Tryz.ntmps92
  go_wp2_with fail
  have hI : (fun w' : World => Blk w' g 119 m.cells) { w with drawn := w.drawn + 1 } := hg
  refine wp_region_E (fun w' : World => Blk w' g 119 m.cells) [] (by kernel_rfl) ?_
  refine wpAnyE_take 0 (v := (.pointer (some ⟨g, 0, none⟩))) rfl (by kernel_rfl) (fun _ _ _ h => h) hI (fun w' hw' => Or.inl ⟨by kernel_rfl, Or.inl (by go_simp)⟩) ?_
  refine wpAnyE_take 1 (v := (.pointer (some ⟨g, 0, none⟩))) rfl (by kernel_rfl) (fun _ _ _ h => h) hI (fun w' hw' => Or.inl ⟨by kernel_rfl, Or.inl (by go_simp)⟩) ?_
  refine wpAnyE_take 2 (v := (.pointer (some ⟨g, 0, none⟩))) rfl (by kernel_rfl) (fun _ _ _ h => h) hI (fun w' hw' => Or.inl ⟨by kernel_rfl, Or.inl (by go_simp)⟩) ?_
  refine wpAnyE_take 3 (v := (.pointer (some ⟨g, 1, none⟩))) rfl (by kernel_rfl) (fun _ _ _ h => h) hI (fun w' hw' => Or.inl ⟨by kernel_rfl, Or.inl (by go_simp)⟩) ?_
  refine wpAnyE_take 4 (v := (.string m.text)) rfl (by kernel_rfl) (fun _ _ _ h => h) hI (fun w' hw' => Or.inl ⟨by kernel_rfl, Or.inl (by have y0 : w'.cell? ⟨g, 1, none⟩ = some (.string m.text) := hw'.cell 1; go_simp)⟩) ?_
  refine wpAnyE_take 6 (v := (.pointer (some ⟨g, 0, none⟩))) rfl (by kernel_rfl) (fun _ _ _ h => h) hI (fun w' hw' => Or.inl ⟨by kernel_rfl, Or.inl (by go_simp)⟩) ?_
  refine wpAnyE_take 7 (v := (.pointer (some ⟨g, 0, none⟩))) rfl (by kernel_rfl) (fun _ _ _ h => h) hI (fun w' hw' => Or.inl ⟨by kernel_rfl, Or.inl (by go_simp)⟩) ?_
  refine wpAnyE_take 8 (v := (.pointer (some ⟨g, 0, none⟩))) rfl (by kernel_rfl) (fun _ _ _ h => h) hI (fun w' hw' => Or.inl ⟨by kernel_rfl, Or.inl (by go_simp)⟩) ?_
  refine wpAnyE_take 9 (v := (.pointer (some ⟨g, 3, none⟩))) rfl (by kernel_rfl) (fun _ _ _ h => h) hI (fun w' hw' => Or.inl ⟨by kernel_rfl, Or.inl (by go_simp)⟩) ?_
  refine wpAnyE_take 10 (v := (.string m.lang)) rfl (by kernel_rfl) (fun _ _ _ h => h) hI (fun w' hw' => Or.inl ⟨by kernel_rfl, Or.inl (by have y0 : w'.cell? ⟨g, 3, none⟩ = some (.string m.lang) := hw'.cell 3; go_simp)⟩) ?_
  refine wpAnyE_take 12 (v := (.pointer (some ⟨g, 0, none⟩))) rfl (by kernel_rfl) (fun _ _ _ h => h) hI (fun w' hw' => Or.inl ⟨by kernel_rfl, Or.inl (by go_simp)⟩) ?_
  refine wpAnyE_take 13 (v := (.pointer (some ⟨g, 0, none⟩))) rfl (by kernel_rfl) (fun _ _ _ h => h) hI (fun w' hw' => Or.inl ⟨by kernel_rfl, Or.inl (by go_simp)⟩) ?_
  refine wpAnyE_take 14 (v := (.pointer (some ⟨g, 0, none⟩))) rfl (by kernel_rfl) (fun _ _ _ h => h) hI (fun w' hw' => Or.inl ⟨by kernel_rfl, Or.inl (by go_simp)⟩) ?_
  refine wpAnyE_take 15 (v := (.pointer (some ⟨g, 2, none⟩))) rfl (by kernel_rfl) (fun _ _ _ h => h) hI (fun w' hw' => Or.inl ⟨by kernel_rfl, Or.inl (by go_simp)⟩) ?_
  refine wpAnyE_take 16 (v := (.string m.value)) rfl (by kernel_rfl) (fun _ _ _ h => h) hI (fun w' hw' => Or.inl ⟨by kernel_rfl, Or.inl (by have y0 : w'.cell? ⟨g, 2, none⟩ = some (.string m.value) := hw'.cell 2; go_simp)⟩) ?_
  refine wpAnyE_take 17 (v := (.int .i64 (m.value.size : Int))) rfl (by kernel_rfl) (fun _ _ _ h => h) hI (fun w' hw' => Or.inl ⟨by kernel_rfl, Or.inl (by go_simp)⟩) ?_
  have T := rword_any m.text 1 w.drew hm.text
  refine wpAnyE_one 5 rfl (by kernel_rfl) hI (fun K hK => ?_)
  rw [if_pos (by kernel_rfl)]
  go_simp
  go_call T as e x ⟨rfl, rfl⟩
  clear T
  refine hK _ _ ?_
  clear hK K
  have T := rword_any m.lang 0 w.drew hm.lang
  refine wpAnyE_one 11 rfl (by kernel_rfl) hI (fun K hK => ?_)
  rw [if_pos (by kernel_rfl)]
  go_simp
  go_call T as e x ⟨rfl, rfl⟩
  clear T
  refine hK _ _ ?_
  clear hK K
  have T := rlong_any (m.value.size) w.drew
  refine wpAnyE_one 18 rfl (by kernel_rfl) hI (fun K hK => ?_)
  rw [if_pos (by kernel_rfl)]
  go_simp
  go_call T as e x ⟨rfl, rfl⟩
  clear T
  refine hK _ _ ?_
  clear hK K
  refine wpAnyE_one 19 rfl (by kernel_rfl) hI (fun K hK => ?_)
  rw [if_pos (by kernel_rfl)]
  go_simp
  refine hK _ _ ?_
  clear hK K
  have PL : Only [] w ((w.alloc (.cells #[.int .i64 (wordE m.text 1), .int .i64 (wordE m.lang 0), .int .i64 (longE m.value.size)] 65)).drew) := ((Only.refl [] w).alloc _).drew
  have hIL : (fun w' : World => Blk w' g 119 m.cells) ((w.alloc (.cells #[.int .i64 (wordE m.text 1), .int .i64 (wordE m.lang 0), .int .i64 (longE m.value.size)] 65)).drew) := hg.only PL (by simp)
  have RL : RdI ((w.alloc (.cells #[.int .i64 (wordE m.text 1), .int .i64 (wordE m.lang 0), .int .i64 (longE m.value.size)] 65)).drew) (some ⟨w.heap.size, 0, none⟩) [(wordE m.text 1), (wordE m.lang 0), (longE m.value.size)] := rdI_blk (Blk.new w 65 ([(wordE m.text 1), (wordE m.lang 0), (longE m.value.size)].map (.int .i64)))
  have T := rfirst_any (some ⟨w.heap.size, 0, none⟩) [(wordE m.text 1), (wordE m.lang 0), (longE m.value.size)] 3 _ RL (by simp [maxLen])
  refine wpAnyE_one 20 rfl (by kernel_rfl) hIL (fun K hK => ?_)
  rw [if_pos (by kernel_rfl)]
  go_simp
  go_call T as e x ⟨rfl, rfl⟩
  clear T
  refine hK _ _ ?_
  clear hK K
  refine wpAnyE_take 21 (v := (.int .i64 (firstE [(wordE m.text 1), (wordE m.lang 0), (longE m.value.size)]))) rfl (by kernel_rfl) (fun _ _ _ h => h) hIL (fun w' hw' => Or.inl ⟨by kernel_rfl, Or.inl (by go_simp)⟩) ?_
  refine wpAnyE_end (by kernel_rfl) hIL ?_
  simp only [Exit.then]
  go_wp2_with fail
  go_ret
  exact ⟨rfl, PL⟩
set_option maxRecDepth 100000 in
set_option maxHeartbeats 1600000 in
theorem askEnvR_any (hg : Blk w g 119 m.cells) (hm : m.ok w) : Calls Tryz.prog 76 #[.pointer (some ⟨g, 0, none⟩)] w fun e w' => e = .returned (.int .i64 (if hasEq m.text then 4 else firstE [wordE m.text 1, longE m.value.size])) ∧ Only [] w w' := by
  have c1 : w.cell? ⟨g, 1, none⟩ = some (.string m.text) := hg.cell 1
  have hlt := hg.lt
  have T := rhas_any m.text w
  obtain ⟨b, hb⟩ : ∃ b, hasEq m.text = b := ⟨_, rfl⟩
  rw [hb] at T ⊢
  replace hb := hide hb
  go_enter Tryz.func76, Tryz.ntmps76
  go_wp2_with fail
  go_call T as e x ⟨rfl, rfl⟩
  clear T
  cases b with
  | true =>
    go_wp2_with fail
    go_ret
    exact ⟨rfl, Only.refl _ _⟩
  | false =>
  go_wp2_with fail
  have hI : (fun w' : World => Blk w' g 119 m.cells) { w with drawn := w.drawn + 1 } := hg
  refine wp_region_E (fun w' : World => Blk w' g 119 m.cells) [] (by kernel_rfl) ?_
  refine wpAnyE_take 0 (v := (.pointer (some ⟨g, 0, none⟩))) rfl (by kernel_rfl) (fun _ _ _ h => h) hI (fun w' hw' => Or.inl ⟨by kernel_rfl, Or.inl (by go_simp)⟩) ?_
  refine wpAnyE_take 1 (v := (.pointer (some ⟨g, 0, none⟩))) rfl (by kernel_rfl) (fun _ _ _ h => h) hI (fun w' hw' => Or.inl ⟨by kernel_rfl, Or.inl (by go_simp)⟩) ?_
  refine wpAnyE_take 2 (v := (.pointer (some ⟨g, 0, none⟩))) rfl (by kernel_rfl) (fun _ _ _ h => h) hI (fun w' hw' => Or.inl ⟨by kernel_rfl, Or.inl (by go_simp)⟩) ?_
  refine wpAnyE_take 3 (v := (.pointer (some ⟨g, 1, none⟩))) rfl (by kernel_rfl) (fun _ _ _ h => h) hI (fun w' hw' => Or.inl ⟨by kernel_rfl, Or.inl (by go_simp)⟩) ?_
  refine wpAnyE_take 4 (v := (.string m.text)) rfl (by kernel_rfl) (fun _ _ _ h => h) hI (fun w' hw' => Or.inl ⟨by kernel_rfl, Or.inl (by have y0 : w'.cell? ⟨g, 1, none⟩ = some (.string m.text) := hw'.cell 1; go_simp)⟩) ?_
  refine wpAnyE_take 6 (v := (.pointer (some ⟨g, 0, none⟩))) rfl (by kernel_rfl) (fun _ _ _ h => h) hI (fun w' hw' => Or.inl ⟨by kernel_rfl, Or.inl (by go_simp)⟩) ?_
  refine wpAnyE_take 7 (v := (.pointer (some ⟨g, 0, none⟩))) rfl (by kernel_rfl) (fun _ _ _ h => h) hI (fun w' hw' => Or.inl ⟨by kernel_rfl, Or.inl (by go_simp)⟩) ?_
  refine wpAnyE_take 8 (v := (.pointer (some ⟨g, 0, none⟩))) rfl (by kernel_rfl) (fun _ _ _ h => h) hI (fun w' hw' => Or.inl ⟨by kernel_rfl, Or.inl (by go_simp)⟩) ?_
  refine wpAnyE_take 9 (v := (.pointer (some ⟨g, 2, none⟩))) rfl (by kernel_rfl) (fun _ _ _ h => h) hI (fun w' hw' => Or.inl ⟨by kernel_rfl, Or.inl (by go_simp)⟩) ?_
  refine wpAnyE_take 10 (v := (.string m.value)) rfl (by kernel_rfl) (fun _ _ _ h => h) hI (fun w' hw' => Or.inl ⟨by kernel_rfl, Or.inl (by have y0 : w'.cell? ⟨g, 2, none⟩ = some (.string m.value) := hw'.cell 2; go_simp)⟩) ?_
  refine wpAnyE_take 11 (v := (.int .i64 (m.value.size : Int))) rfl (by kernel_rfl) (fun _ _ _ h => h) hI (fun w' hw' => Or.inl ⟨by kernel_rfl, Or.inl (by go_simp)⟩) ?_
  have T := rword_any m.text 1 w.drew hm.text
  refine wpAnyE_one 5 rfl (by kernel_rfl) hI (fun K hK => ?_)
  rw [if_pos (by kernel_rfl)]
  go_simp
  go_call T as e x ⟨rfl, rfl⟩
  clear T
  refine hK _ _ ?_
  clear hK K
  have T := rlong_any (m.value.size) w.drew
  refine wpAnyE_one 12 rfl (by kernel_rfl) hI (fun K hK => ?_)
  rw [if_pos (by kernel_rfl)]
  go_simp
  go_call T as e x ⟨rfl, rfl⟩
  clear T
  refine hK _ _ ?_
  clear hK K
  refine wpAnyE_one 13 rfl (by kernel_rfl) hI (fun K hK => ?_)
  rw [if_pos (by kernel_rfl)]
  go_simp
  refine hK _ _ ?_
  clear hK K
  have PL : Only [] w ((w.alloc (.cells #[.int .i64 (wordE m.text 1), .int .i64 (longE m.value.size)] 65)).drew) := ((Only.refl [] w).alloc _).drew
  have hIL : (fun w' : World => Blk w' g 119 m.cells) ((w.alloc (.cells #[.int .i64 (wordE m.text 1), .int .i64 (longE m.value.size)] 65)).drew) := hg.only PL (by simp)
  have RL : RdI ((w.alloc (.cells #[.int .i64 (wordE m.text 1), .int .i64 (longE m.value.size)] 65)).drew) (some ⟨w.heap.size, 0, none⟩) [(wordE m.text 1), (longE m.value.size)] := rdI_blk (Blk.new w 65 ([(wordE m.text 1), (longE m.value.size)].map (.int .i64)))
  have T := rfirst_any (some ⟨w.heap.size, 0, none⟩) [(wordE m.text 1), (longE m.value.size)] 2 _ RL (by simp [maxLen])
  refine wpAnyE_one 14 rfl (by kernel_rfl) hIL (fun K hK => ?_)
  rw [if_pos (by kernel_rfl)]
  go_simp
  go_call T as e x ⟨rfl, rfl⟩
  clear T
  refine hK _ _ ?_
  clear hK K
  refine wpAnyE_take 15 (v := (.int .i64 (firstE [(wordE m.text 1), (longE m.value.size)]))) rfl (by kernel_rfl) (fun _ _ _ h => h) hIL (fun w' hw' => Or.inl ⟨by kernel_rfl, Or.inl (by go_simp)⟩) ?_
  refine wpAnyE_end (by kernel_rfl) hIL ?_
  simp only [Exit.then]
  go_wp2_with fail
  go_ret
  exact ⟨rfl, PL⟩
end
/-- What asks, of a kind. -/
theorem ask_any (k : Nat) (h1 : 1 ≤ k) (h2 : k ≤ 10) : ∃ F : FuncId, rask k = F ∧ (∀ (args : Array Value) (w : World), (callFunc F args).run Tryz.prog w = .ok (.enter F args) w) ∧
    ∀ (w : World) (m : RQ) (g : Nat), Blk w g 119 m.cells → m.ok w → Calls Tryz.prog F #[.pointer (some ⟨g, 0, none⟩)] w (fun e w' => e = .returned (.int .i64 (askR m k)) ∧ Only [] w w') := by
  rcases k10 h1 h2 with rfl | rfl | rfl | rfl | rfl | rfl | rfl | rfl | rfl | rfl
  · exact ⟨_, rfl, fun args w => by kernel_rfl, fun w m g hg hm => askPtyR_any m g w hg hm⟩
  · exact ⟨_, rfl, fun args w => by kernel_rfl, fun w m g hg hm => askEnvR_any m g w hg hm⟩
  · exact ⟨_, rfl, fun args w => by kernel_rfl, fun w m g hg hm => askNoneR_any g w⟩
  · exact ⟨_, rfl, fun args w => by kernel_rfl, fun w m g hg hm => askExecR_any m g w hg hm⟩
  · exact ⟨_, rfl, fun args w => by kernel_rfl, fun w m g hg hm => askWordR_any m g w hg hm⟩
  · exact ⟨_, rfl, fun args w => by kernel_rfl, fun w m g hg hm => askNoneR_any g w⟩
  · exact ⟨_, rfl, fun args w => by kernel_rfl, fun w m g hg hm => askNoneR_any g w⟩
  · exact ⟨_, rfl, fun args w => by kernel_rfl, fun w m g hg hm => askWordR_any m g w hg hm⟩
  · exact ⟨_, rfl, fun args w => by kernel_rfl, fun w m g hg hm => askNoneR_any g w⟩
  · exact ⟨_, rfl, fun args w => by kernel_rfl, fun w m g hg hm => askDeathR_any m g w hg hm⟩
end Go.Proofs.YtdplnedpbkpgpaaGreatDoor

namespace Go.Proofs.YtdplnedpbkpgpaaGreatDoor
set_option linter.all false
open Go.RowKit

/-- The result set. -/
def rset (w : World) (q : Nat) (m : RQ) : World := (((((((((((w.setCell ⟨q, 0, none⟩ (.int .i64 m.kind)).setCell ⟨q, 1, none⟩ (.string m.text)).setCell ⟨q, 2, none⟩ (.string m.value)).setCell ⟨q, 3, none⟩ (.string m.lang)).setCell ⟨q, 4, none⟩ (.int .u32 m.cols)).setCell ⟨q, 5, none⟩ (.int .u32 m.rows)).setCell ⟨q, 6, none⟩ (.int .u32 m.width)).setCell ⟨q, 7, none⟩ (.int .u32 m.height)).setCell ⟨q, 8, none⟩ (.slice m.mA m.modes.length m.mc)).setCell ⟨q, 9, none⟩ (.bool m.on)).setCell ⟨q, 10, none⟩ (.int .u32 m.code))
theorem rsetB {w : World} {q : Nat} {m0 : RQ} (m : RQ) (K : Blk w q 63 m0.cells) : Blk (rset w q m) q 63 m.cells := (((((((((((K.set_ 0 _).set_ 1 _).set_ 2 _).set_ 3 _).set_ 4 _).set_ 5 _).set_ 6 _).set_ 7 _).set_ 8 _).set_ 9 _).set_ 10 _)
theorem rsetO {L : List Nat} {w0 w : World} {q : Nat} (m : RQ) (hq : q ∈ L ∨ w0.heap.size ≤ q) (h : Only L w0 w) : Only L w0 (rset w q m) := (((((((((((h.setCell (p := ⟨q, 0, none⟩) hq _).setCell (p := ⟨q, 1, none⟩) hq _).setCell (p := ⟨q, 2, none⟩) hq _).setCell (p := ⟨q, 3, none⟩) hq _).setCell (p := ⟨q, 4, none⟩) hq _).setCell (p := ⟨q, 5, none⟩) hq _).setCell (p := ⟨q, 6, none⟩) hq _).setCell (p := ⟨q, 7, none⟩) hq _).setCell (p := ⟨q, 8, none⟩) hq _).setCell (p := ⟨q, 9, none⟩) hq _).setCell (p := ⟨q, 10, none⟩) hq _)
theorem ret_req {fn : Func} {p t : Tmp} {R : Ending → World → Prop} {a : Act} {w : World} {g : Nat} (m : RQ) (h : fn.results = #[.cell p 63, .tmp t]) (hp : a.tmps.getD p undef = .pointer (some ⟨g, 0, none⟩)) (hd : a.defers = [])
    (hg : Blk w g 63 m.cells) (hR : R (.returned (.tuple #[m.val, a.tmps.getD t undef])) w) : bodyPost Tryz.prog fn R .ret a w :=
  ret_row_tmp m.cells.toArray h hp hd hg Tryz.underlying63 rfl (by unfold RQ.cells; kernel_rfl) hR
/-- A request's modes can be written. -/
def RSoft (m : RQ) (w : World) : Prop := ∀ a, m.mA = some a → ∀ i, i < m.modes.length → w.frozen? (a.add i) = false
theorem RSoft.onlyL {w w' : World} {m : RQ} {L : List Nat} (h : RSoft m w) (ho : m.ok w) (hb : Only L w w') (hL : ∀ a, m.mA = some a → 0 < m.modes.length → a.block ∉ L) : RSoft m w' := by
  intro a ha i hi
  obtain ⟨b, off, e, hlt, _⟩ := ho.modes (by omega)
  rw [ha] at e
  injection e with e
  refine (World.frozen?_of_block (w := w) ?_).trans (h a ha i hi)
  rw [block_add]
  exact hb.block _ (by rw [e]; exact hlt) (hL a ha (by omega))
theorem RQ.ok.onlyL {w w' : World} {L : List Nat} {m : RQ} (h : m.ok w) (hb : Only L w w') (hn : ∀ a, m.mA = some a → 0 < m.modes.length → a.block ∉ L) : m.ok w' :=
  { h with modes := RdG.onlyL h.modes hb hn }
/-- What Decode hands on. -/
def RDecPost (w : World) (s : ByteArray) (l : List Int) : Ending → World → Prop := fun e w' => Only [] w w' ∧ ∃ (m : RQ) (E : Int), e = .returned (.tuple #[m.val, .int .i64 E]) ∧ m.ok w' ∧ (∀ a, m.mA = some a → w.heap.size ≤ a.block) ∧ RSoft m w' ∧ DecR s l m E
theorem zeroR_new (B : Nat) : ∀ a, zeroR.mA = some a → B ≤ a.block := fun a ha => by simp [zeroR] at ha
theorem zeroR_soft (w : World) : RSoft zeroR w := fun a ha => by simp [zeroR] at ha
structure PutOk (w : World) (B : Nat) (m : RQ) : Prop where
  ok : m.ok w
  new : ∀ a, m.mA = some a → B ≤ a.block
  soft : RSoft m w
theorem put_ok {w : World} {B : Nat} {fs : List FD} (k : Nat) (h1 : 1 ≤ k) (h2 : k ≤ 10) (hk : fs.map (fun f => f.pf.kind) = rkinds k) (hm : ∀ f ∈ fs, FD.mine w f B) (hn : ∀ f ∈ fs, U32 f.n ∧ InB f.text) : PutOk w B (putR (firstR k) k fs) := by
  have z0 : PutOk w B (firstR k) := ⟨firstR_ok w k, fun a ha => by simp [firstR, zeroR] at ha, fun a ha => by simp [firstR, zeroR] at ha⟩
  have hs : ∀ f ∈ fs, (strOfNums f.text).size ≤ maxLen := fun f hf => by rw [str_size]; exact Nat.le_trans (hm f hf).ok.tle (hm f hf).ok.tmax
  have z : U32 0 := ⟨by decide, by decide⟩
  rcases k10 h1 h2 with rfl | rfl | rfl | rfl | rfl | rfl | rfl | rfl | rfl | rfl
  · obtain ⟨x1, x2, x3, x4, x5, x6, rfl, _⟩ := ks6 hk
    exact ⟨{ z0.ok with text := hs x1 (by simp), nums := ⟨(hn x2 (by simp)).1, (hn x3 (by simp)).1, (hn x4 (by simp)).1, (hn x5 (by simp)).1, z⟩, modes := (hm x6 (by simp)).ok.text, mle := (hm x6 (by simp)).ok.tle, mmax := (hm x6 (by simp)).ok.tmax, bytes := (hn x6 (by simp)).2 }, (hm x6 (by simp)).new.1, (hm x6 (by simp)).soft⟩
  · obtain ⟨x1, x2, rfl, _⟩ := ks2 hk
    exact ⟨{ z0.ok with text := hs x1 (by simp), value := hs x2 (by simp) }, z0.new, z0.soft⟩
  · exact z0
  · obtain ⟨x1, rfl, _⟩ := ks1 hk
    exact ⟨{ z0.ok with text := hs x1 (by simp) }, z0.new, z0.soft⟩
  · obtain ⟨x1, rfl, _⟩ := ks1 hk
    exact ⟨{ z0.ok with text := hs x1 (by simp) }, z0.new, z0.soft⟩
  · obtain ⟨x1, x2, x3, x4, rfl, _⟩ := ks4 hk
    exact ⟨{ z0.ok with nums := ⟨(hn x1 (by simp)).1, (hn x2 (by simp)).1, (hn x3 (by simp)).1, (hn x4 (by simp)).1, z⟩ }, z0.new, z0.soft⟩
  · obtain ⟨x1, rfl, _⟩ := ks1 hk
    exact ⟨{ z0.ok with }, z0.new, z0.soft⟩
  · obtain ⟨x1, rfl, _⟩ := ks1 hk
    exact ⟨{ z0.ok with text := hs x1 (by simp) }, z0.new, z0.soft⟩
  · obtain ⟨x1, rfl, _⟩ := ks1 hk
    exact ⟨{ z0.ok with nums := ⟨z, z, z, z, (hn x1 (by simp)).1⟩ }, z0.new, z0.soft⟩
  · obtain ⟨x1, x2, x3, x4, rfl, _⟩ := ks4 hk
    exact ⟨{ z0.ok with text := hs x1 (by simp), value := hs x3 (by simp), lang := hs x4 (by simp) }, z0.new, z0.soft⟩
theorem str_ne {x y : ByteArray} (h : ¬ x = y) : (x.toList == y.toList) = false := by
  rw [beq_eq_false_iff_ne]
  intro e
  rw [ByteArray.toList_eq, ByteArray.toList_eq] at e
  exact h (bytes_ext e)
theorem rule_index0 (q : Nat) (w : World) : (Instr.index 133 (.agg (rtab q)) (.int .i64 ((0 : Nat) : Int))).run Tryz.prog w = .ok (.agg #[.string ⟨#[]⟩, .slice none 0 0, .nilFunc, .nilFunc, .nilFunc]) w := by kernel_rfl
theorem kinds_len (k : Nat) : (rkinds k).length ≤ 6 := by unfold rkinds; split <;> decide
theorem decR_none {s : ByteArray} (l : List Int) (h : ∀ j, 1 ≤ j → j < 11 → rname j ≠ s) : DecR s l zeroR 8 := by
  unfold DecR
  cases hk : kindL s.data.toList with
  | none => exact ⟨rfl, rfl⟩
  | some k =>
    obtain ⟨h1, h2, e⟩ := kindL_range hk
    exact absurd (bytes_ext (by rw [rname_data, e])) (h k h1 (by omega))
theorem decR_kind {k : Nat} (h1 : 1 ≤ k) (h2 : k ≤ 10) {l : List Int} {m : RQ} {E : Int} (h : DecK k l m E) : DecR (rname k) l m E := by
  unfold DecR
  rw [rname_data, kindL_name k h1 h2]
  exact h
set_option maxRecDepth 100000 in
set_option maxHeartbeats 6400000 in
theorem rdecode_anyP (s : ByteArray) (A : Option Addr) (l : List Int) (c : Nat) (i0 : Int) (w : World) (hm : w.cell? ⟨0, 0, none⟩ = some (.int .i64 i0)) (h : Rd w A l) (hl : ∀ x ∈ l, 0 ≤ x ∧ x < 256) (hln : l.length ≤ 140737488355000) (hlc : l.length ≤ c) (hlm : c ≤ maxLen) (hal : ∀ a, A = some a → 0 < l.length → a.block < w.heap.size) :
    Calls Tryz.prog 28 #[.string s, .slice A l.length c] w (RDecPost w s l) := by
  obtain ⟨ln, hn⟩ : ∃ ln, l.length = ln := ⟨_, rfl⟩
  have h0 : 0 < w.heap.size := Nat.pos_of_ne_zero (fun e => by
    have := block_lt_of_cell hm
    simp only at this
    omega)
  obtain ⟨w1, hw1⟩ : ∃ w1, w1 = w.alloc (.cells #[.int .i64 0, .string ⟨#[]⟩, .string ⟨#[]⟩, .string ⟨#[]⟩, .int .u32 0, .int .u32 0, .int .u32 0, .int .u32 0, .slice none 0 0, .bool false, .int .u32 0] 63) := ⟨_, rfl⟩
  have P1 : Only [] w w1 := by rw [hw1]; exact (Only.refl _ _).alloc _
  have K1 : Blk w1 w.heap.size 63 zeroR.cells := by rw [hw1]; exact Blk.new w _ _
  have RU := rules_any w1
  obtain ⟨tb, htb⟩ : ∃ tb, rtab w1.heap.size = tb := ⟨_, rfl⟩
  have hix := fun k h1 h2 w' => rule_index w1.heap.size k h1 h2 w'
  have hix0 := fun w' => rule_index0 w1.heap.size w'
  rw [htb] at RU hix0
  replace hix : ∀ k : Nat, 1 ≤ k → k ≤ 10 → ∀ w', (Instr.index 133 (.agg tb) (.int .i64 (k : Int))).run Tryz.prog w' = .ok (ruleV k (kaddr w1.heap.size k)) w' := fun k h1 h2 w' => by rw [← htb]; exact hix k h1 h2 w'
  rw [hn] at hln hlc ⊢
  replace hn := hide hn
  replace htb := hide htb
  replace hix := hide hix
  replace hix0 := hide hix0
  go_enter Tryz.func28, Tryz.ntmps28
  go_wp2_with fail
  rw [← hw1]
  replace hw1 := hide hw1
  go_call RU as e w2 ⟨rfl, P2, z2, R2⟩
  clear RU
  replace z2 := hide z2
  have K2 := K1.only P2 (by simp)
  have O2 : Only [] w w2 := P1.trans P2 (by simp)
  replace R2 := hide R2
  go_wp2_with fail
  go_loopw [13] (fun ii wr => ∃ i : Nat, i ≤ 11 ∧ ii = .int .i64 i ∧ Hid (∀ j, 1 ≤ j → j < i → rname j ≠ s) ∧ Only [] w2 wr) (fun ii _ => 11 - (intOf ii).toNat)
  case atStart => exact ⟨0, by omega, rfl, hide (fun j h1 h2 => by omega), Only.refl _ _⟩
  case round =>
    obtain ⟨wo, rfl⟩ : ∃ wo : World, wo = wr := ⟨_, rfl⟩
    obtain ⟨i, hi, rfl, hne, O⟩ := hrel
    by_cases hlt : i < 11
    · by_cases hi0 : i = 0
      · have hx : ∀ w', (Instr.index 133 (.agg tb) (.int .i64 (i : Int))).run Tryz.prog w' = .ok (.agg #[.string ⟨#[]⟩, .slice none 0 0, .nilFunc, .nilFunc, .nilFunc]) w' := fun w' => by rw [hi0]; exact hix0.out w'
        have ib : ((i : Int) == 0) = true := by simp [hi0]
        have hle : i ≤ 0 := by omega
        clear hi0
        go_wp2_with fail
        go_roundw
        case rel => exact ⟨i + 1, by omega, by go_num, hide (fun j h1 h2 => by omega), O.alloc _⟩
        case measure => simp [intOf]; omega
      · have h1 : 1 ≤ i := by omega
        have h2 : i ≤ 10 := by omega
        have hx := hix.out i h1 h2
        have RKi := R2.out i h1 h2
        obtain ⟨KA, hKA⟩ : ∃ KA, kaddr w1.heap.size i = KA := ⟨_, rfl⟩
        rw [hKA] at hx RKi
        unfold ruleV rfn at hx
        obtain ⟨F2, hF2, cF2, C2⟩ := rput_any i h1 h2
        obtain ⟨F3, hF3, cF3, C3⟩ := ask_any i h1 h2
        obtain ⟨F1, hF1⟩ : ∃ F, rget i = F := ⟨_, rfl⟩
        obtain ⟨n, hnk⟩ : ∃ n, (rkinds i).length = n := ⟨_, rfl⟩
        obtain ⟨nm, hnm⟩ : ∃ nm, rname i = nm := ⟨_, rfl⟩
        rw [hF1, hF2, hF3, hnk, hnm] at hx
        have ib : ((i : Int) == 0) = false := by simp; omega
        replace hKA := hide hKA
        replace hF1 := hide hF1
        replace hF2 := hide hF2
        replace hF3 := hide hF3
        replace C2 := hide C2
        replace C3 := hide C3
        by_cases hnn : nm = s
        · have s1 : (nm.toList == s.toList) = true := by rw [hnn]; simp
          have hsn : s = rname i := by rw [← hnn, ← hnm]
          replace hsn := hide hsn
          replace hnn := hide hnn
          replace hnm := hide hnm
          have B3 : Blk (wo.alloc (.cells #[.string nm, .slice KA n n, .func (Fn.func F1) #[] #[], .func (Fn.func F2) #[] #[], .func (Fn.func F3) #[] #[]] 114)) wo.heap.size 114 [.string nm, .slice KA n n, .func (Fn.func F1) #[] #[], .func (Fn.func F2) #[] #[], .func (Fn.func F3) #[] #[]] := Blk.new _ _ _
          have P3 : Only [] wo (wo.alloc (.cells #[.string nm, .slice KA n n, .func (Fn.func F1) #[] #[], .func (Fn.func F2) #[] #[], .func (Fn.func F3) #[] #[]] 114)) := (Only.refl _ _).alloc _
          obtain ⟨w3, hw3⟩ : ∃ w3, w3 = wo.alloc (.cells #[.string nm, .slice KA n n, .func (Fn.func F1) #[] #[], .func (Fn.func F2) #[] #[], .func (Fn.func F3) #[] #[]] 114) := ⟨_, rfl⟩
          rw [← hw3] at B3 P3
          have OO : Only [] w wo := O2.trans O (by simp)
          have O3 : Only [] w w3 := OO.trans P3 (by simp)
          have z3 := O3.size
          have RD := read_anyP w3 KA A (rkinds i) l n c i0 (cellL O3 h0 (by simp) hm) ((RKi.only O).only P3) (h.only O3) hl (by have := kinds_len i; omega) (by have := hn.out; omega) (by have := hn.out; omega) hlm (fun a ha h0 => by have := hal a ha h0; omega)
          obtain ⟨⟨E, ps⟩, hres⟩ : ∃ r, readP (rkinds i) l = r := ⟨_, rfl⟩
          rw [hnk, hn.out, hres] at RD
          have hgood := readP_good (rkinds i) l hl
          rw [hres] at hgood
          have K3 := (K2.only O (by simp)).only P3 (by simp)
          replace hnk := hide hnk
          replace hres := hide hres
          replace hgood := hide hgood
          go_wp2_with fail
          rw [← hw3]
          replace hw3 := hide hw3
          go_call RD as e w4 ⟨P4, Af, cf, fs, rfl, hfs, V4, H4⟩
          clear RD
          (try dsimp only at hfs)
          have K4 := K3.only P4 (by simp)
          have O4 := O3.trans P4 (by simp)
          have B4 := B3.only P4 (by simp)
          have x3 := B4.cell 3
          simp only [List.getElem?_cons_zero, List.getElem?_cons_succ] at x3
          (try dsimp only)
          by_cases hE : E = 0
          · obtain ⟨hg1, hg2⟩ := hgood.out hE
            (try dsimp only at hg1 hg2)
            have hk : fs.map (fun f => f.pf.kind) = rkinds i := by rw [← hg1, ← hfs, List.map_map]; rfl
            have hfl : fs.length = n := by rw [← hnk.out, ← hk, List.length_map]
            have hff : ∀ f ∈ fs, U32 f.n ∧ InB f.text := fun f hf => hg2 f.pf (by rw [← hfs]; exact List.mem_map_of_mem hf)
            have RF : RdF w4 Af fs := V4.rdF (fun f hf => ⟨(H4 f hf).1.ok, (hff f hf).1⟩)
            obtain ⟨_, _, e1, hcf, hcm, _⟩ := V4.form
            have e2 := (Value.slice.inj e1).2.2
            rw [← e2] at hcf hcm
            clear e1 e2
            have PM := put_ok i h1 h2 hk (fun f hf => (H4 f hf).1) hff
            have P5 : Only [] w4 (w4.alloc (.cells #[.int .i64 (i : Int), .string ⟨#[]⟩, .string ⟨#[]⟩, .string ⟨#[]⟩, .int .u32 0, .int .u32 0, .int .u32 0, .int .u32 0, .slice none 0 0, .bool false, .int .u32 0] 119)) := (Only.refl _ _).alloc _
            have K5 : Blk (w4.alloc (.cells #[.int .i64 (i : Int), .string ⟨#[]⟩, .string ⟨#[]⟩, .string ⟨#[]⟩, .int .u32 0, .int .u32 0, .int .u32 0, .int .u32 0, .slice none 0 0, .bool false, .int .u32 0] 119)) w4.heap.size 119 (firstR i).cells := Blk.new _ _ _
            have B5 := B4.only P5 (by simp)
            obtain ⟨w5, hw5⟩ : ∃ w5, w5 = w4.alloc (.cells #[.int .i64 (i : Int), .string ⟨#[]⟩, .string ⟨#[]⟩, .string ⟨#[]⟩, .int .u32 0, .int .u32 0, .int .u32 0, .int .u32 0, .slice none 0 0, .bool false, .int .u32 0] 119) := ⟨_, rfl⟩
            rw [← hw5] at P5 K5 B5
            have CZ := C2.out (firstR i) w4.heap.size w4 w5 Af fs n cf hfl hk (by omega) hcm RF P5 (Nat.le_refl _) K5
            obtain ⟨M, hM⟩ : ∃ M, putR (firstR i) i fs = M := ⟨_, rfl⟩
            rw [hM] at CZ PM
            rw [hfl]
            have hE2 : (E != 0) = false := by simpa using hE
            have hB4l := B4.lt
            have hne4 : ¬ wo.heap.size = w4.heap.size := by omega
            have x3' := B5.cell 3
            simp only [List.getElem?_cons_zero, List.getElem?_cons_succ] at x3'
            replace hE := hide hE
            replace hfl := hide hfl
            replace hk := hide hk
            replace hfs := hide hfs
            replace hg1 := hide hg1
            replace hM := hide hM
            clear hff hg2 V4 H4
            go_wp2_with fail
            rw [← hw5]
            replace hw5 := hide hw5
            go_call CZ as e w6 ⟨rfl, P6, K6⟩
            clear CZ x3 x3'
            have B6 := B5.only P6 (by simp; omega)
            have x4 := B6.cell 4
            simp only [List.getElem?_cons_zero, List.getElem?_cons_succ] at x4
            have P46 : Only [w4.heap.size] w4 w6 := (P5.mono (fun x hx => by simp at hx)).trans P6 (fun x hx => .inl hx)
            have hMb : ∀ a, M.mA = some a → 0 < M.modes.length → a.block ∉ [w4.heap.size] := fun a ha h0 => by
              have := RdG.lt (mk := .int .u8) PM.ok.modes h0 a ha
              simp
              omega
            have Mok := PM.ok.onlyL P46 hMb
            have Mso := PM.soft.onlyL PM.ok P46 hMb
            have CA := C3.out w6 M _ K6 Mok
            obtain ⟨E2, hE2x⟩ : ∃ E2, askR M i = E2 := ⟨_, rfl⟩
            rw [hE2x] at CA
            replace hE2x := hide hE2x
            go_wp2_with fail
            go_call CA as e w7 ⟨rfl, P7⟩
            clear CA x4
            have O7 : Only [] w w7 := (O4.trans P46 (fun x hx => .inr (by simp at hx; have := O4.size; omega))).trans P7 (by simp)
            have K7 := (K4.only P46 (by have := K4.lt; have := K1.lt; simp; omega)).only P7 (by simp)
            have KM := K6.only P7 (by simp)
            have Mok7 := Mok.only P7
            have Mso7 := Mso.onlyL Mok P7 (by simp)
            have g0 : w7.cell? ⟨w.heap.size, 0, none⟩ = some (.int .i64 0) := K7.cell 0
            have f0 := K7.frozen 0
            have g1 : w7.cell? ⟨w.heap.size, 1, none⟩ = some (.string ⟨#[]⟩) := K7.cell 1
            have f1 := K7.frozen 1
            have g2 : w7.cell? ⟨w.heap.size, 2, none⟩ = some (.string ⟨#[]⟩) := K7.cell 2
            have f2 := K7.frozen 2
            have g3 : w7.cell? ⟨w.heap.size, 3, none⟩ = some (.string ⟨#[]⟩) := K7.cell 3
            have f3 := K7.frozen 3
            have g4 : w7.cell? ⟨w.heap.size, 4, none⟩ = some (.int .u32 0) := K7.cell 4
            have f4 := K7.frozen 4
            have g5 : w7.cell? ⟨w.heap.size, 5, none⟩ = some (.int .u32 0) := K7.cell 5
            have f5 := K7.frozen 5
            have g6 : w7.cell? ⟨w.heap.size, 6, none⟩ = some (.int .u32 0) := K7.cell 6
            have f6 := K7.frozen 6
            have g7 : w7.cell? ⟨w.heap.size, 7, none⟩ = some (.int .u32 0) := K7.cell 7
            have f7 := K7.frozen 7
            have g8 : w7.cell? ⟨w.heap.size, 8, none⟩ = some (.slice none 0 0) := K7.cell 8
            have f8 := K7.frozen 8
            have g9 : w7.cell? ⟨w.heap.size, 9, none⟩ = some (.bool false) := K7.cell 9
            have f9 := K7.frozen 9
            have g10 : w7.cell? ⟨w.heap.size, 10, none⟩ = some (.int .u32 0) := K7.cell 10
            have f10 := K7.frozen 10
            by_cases hz : E2 = 0
            · have hzb : (E2 != 0) = false := by simpa using hz
              have hD : DecR s l M 0 := by
                rw [hsn.out]
                refine decR_kind h1 h2 ?_
                unfold DecK
                rw [hres.out, if_neg (by simpa using hE.out)]
                refine ⟨fs, hfs.out, ?_⟩
                rw [hM.out, hE2x.out, if_pos hz]
                exact ⟨rfl, rfl⟩
              replace hz := hide hz
              have b0 : w7.cell? ⟨w4.heap.size, 0, none⟩ = some (.int .i64 M.kind) := KM.cell 0
              have b1 : w7.cell? ⟨w4.heap.size, 1, none⟩ = some (.string M.text) := KM.cell 1
              have b2 : w7.cell? ⟨w4.heap.size, 2, none⟩ = some (.string M.value) := KM.cell 2
              have b3 : w7.cell? ⟨w4.heap.size, 3, none⟩ = some (.string M.lang) := KM.cell 3
              have b4 : w7.cell? ⟨w4.heap.size, 4, none⟩ = some (.int .u32 M.cols) := KM.cell 4
              have b5 : w7.cell? ⟨w4.heap.size, 5, none⟩ = some (.int .u32 M.rows) := KM.cell 5
              have b6 : w7.cell? ⟨w4.heap.size, 6, none⟩ = some (.int .u32 M.width) := KM.cell 6
              have b7 : w7.cell? ⟨w4.heap.size, 7, none⟩ = some (.int .u32 M.height) := KM.cell 7
              have b8 : w7.cell? ⟨w4.heap.size, 8, none⟩ = some (.slice M.mA M.modes.length M.mc) := KM.cell 8
              have b9 : w7.cell? ⟨w4.heap.size, 9, none⟩ = some (.bool M.on) := KM.cell 9
              have b10 : w7.cell? ⟨w4.heap.size, 10, none⟩ = some (.int .u32 M.code) := KM.cell 10
              go_wp2_with fail
              (try simp only [Exit.inBlock, Exit.then])
              refine ret_req (g := w.heap.size) M rfl (by rfl) (by rfl) (rsetB M K7) ?_
              have hx := rsetO M (L := [w.heap.size]) (w0 := w7) (w := w7) (q := w.heap.size) (.inl (by simp)) (Only.refl _ _)
              have hno : ∀ a, M.mA = some a → 0 < M.modes.length → a.block ∉ [w.heap.size] := fun a ha h0 => by
                have := PM.new a ha
                have := K3.lt
                simp
                omega
              exact ⟨rsetO M (.inr (Nat.le_refl _)) O7, M, 0, rfl, Mok7.onlyL hx hno, fun a ha => by have := PM.new a ha; omega, Mso7.onlyL Mok7 hx hno, hD⟩
            · have hzb : (E2 != 0) = true := by simpa using hz
              have hD : DecR s l zeroR E2 := by
                rw [hsn.out]
                refine decR_kind h1 h2 ?_
                unfold DecK
                rw [hres.out, if_neg (by simpa using hE.out)]
                refine ⟨fs, hfs.out, ?_⟩
                rw [hM.out, hE2x.out, if_neg hz]
                exact ⟨rfl, rfl⟩
              replace hz := hide hz
              go_wp2_with fail
              (try simp only [Exit.inBlock, Exit.then])
              refine ret_req (g := w.heap.size) zeroR rfl (by rfl) (by rfl) (rsetB zeroR K7) ?_
              exact ⟨rsetO zeroR (.inr (Nat.le_refl _)) O7, zeroR, E2, rfl, zeroR_ok _, zeroR_new _, zeroR_soft _, hD⟩
          · have hzb : (E != 0) = true := by simpa using hE
            have hD : DecR s l zeroR E := by
              rw [hsn.out]
              refine decR_kind h1 h2 ?_
              unfold DecK
              rw [hres.out, if_pos hE]
              exact ⟨rfl, rfl⟩
            replace hE := hide hE
            replace hfs := hide hfs
            have g0 : w4.cell? ⟨w.heap.size, 0, none⟩ = some (.int .i64 0) := K4.cell 0
            have f0 := K4.frozen 0
            have g1 : w4.cell? ⟨w.heap.size, 1, none⟩ = some (.string ⟨#[]⟩) := K4.cell 1
            have f1 := K4.frozen 1
            have g2 : w4.cell? ⟨w.heap.size, 2, none⟩ = some (.string ⟨#[]⟩) := K4.cell 2
            have f2 := K4.frozen 2
            have g3 : w4.cell? ⟨w.heap.size, 3, none⟩ = some (.string ⟨#[]⟩) := K4.cell 3
            have f3 := K4.frozen 3
            have g4 : w4.cell? ⟨w.heap.size, 4, none⟩ = some (.int .u32 0) := K4.cell 4
            have f4 := K4.frozen 4
            have g5 : w4.cell? ⟨w.heap.size, 5, none⟩ = some (.int .u32 0) := K4.cell 5
            have f5 := K4.frozen 5
            have g6 : w4.cell? ⟨w.heap.size, 6, none⟩ = some (.int .u32 0) := K4.cell 6
            have f6 := K4.frozen 6
            have g7 : w4.cell? ⟨w.heap.size, 7, none⟩ = some (.int .u32 0) := K4.cell 7
            have f7 := K4.frozen 7
            have g8 : w4.cell? ⟨w.heap.size, 8, none⟩ = some (.slice none 0 0) := K4.cell 8
            have f8 := K4.frozen 8
            have g9 : w4.cell? ⟨w.heap.size, 9, none⟩ = some (.bool false) := K4.cell 9
            have f9 := K4.frozen 9
            have g10 : w4.cell? ⟨w.heap.size, 10, none⟩ = some (.int .u32 0) := K4.cell 10
            have f10 := K4.frozen 10
            go_wp2_with fail
            (try simp only [Exit.inBlock, Exit.then])
            refine ret_req (g := w.heap.size) zeroR rfl (by rfl) (by rfl) (rsetB zeroR K4) ?_
            exact ⟨rsetO zeroR (.inr (Nat.le_refl _)) O4, zeroR, E, rfl, zeroR_ok _, zeroR_new _, zeroR_soft _, hD⟩
        · have s1 : (nm.toList == s.toList) = false := str_ne hnn
          have hne2 : ∀ j, 1 ≤ j → j < i + 1 → rname j ≠ s := fun j h1 h2 => by
            by_cases hj : j = i
            · rw [hj, hnm]; exact hnn
            · exact hne.out j h1 (by omega)
          replace hne2 := hide hne2
          replace hnm := hide hnm
          replace hnn := hide hnn
          go_wp2_with fail
          go_roundw
          case rel => exact ⟨i + 1, by omega, by go_num, hne2, O.alloc _⟩
          case measure => simp [intOf]; omega
    · obtain rfl : i = 11 := by omega
      have hD := decR_none l hne.out
      have KO := K2.only O (by simp)
      have g0 : wo.cell? ⟨w.heap.size, 0, none⟩ = some (.int .i64 0) := KO.cell 0
      have f0 := KO.frozen 0
      have g1 : wo.cell? ⟨w.heap.size, 1, none⟩ = some (.string ⟨#[]⟩) := KO.cell 1
      have f1 := KO.frozen 1
      have g2 : wo.cell? ⟨w.heap.size, 2, none⟩ = some (.string ⟨#[]⟩) := KO.cell 2
      have f2 := KO.frozen 2
      have g3 : wo.cell? ⟨w.heap.size, 3, none⟩ = some (.string ⟨#[]⟩) := KO.cell 3
      have f3 := KO.frozen 3
      have g4 : wo.cell? ⟨w.heap.size, 4, none⟩ = some (.int .u32 0) := KO.cell 4
      have f4 := KO.frozen 4
      have g5 : wo.cell? ⟨w.heap.size, 5, none⟩ = some (.int .u32 0) := KO.cell 5
      have f5 := KO.frozen 5
      have g6 : wo.cell? ⟨w.heap.size, 6, none⟩ = some (.int .u32 0) := KO.cell 6
      have f6 := KO.frozen 6
      have g7 : wo.cell? ⟨w.heap.size, 7, none⟩ = some (.int .u32 0) := KO.cell 7
      have f7 := KO.frozen 7
      have g8 : wo.cell? ⟨w.heap.size, 8, none⟩ = some (.slice none 0 0) := KO.cell 8
      have f8 := KO.frozen 8
      have g9 : wo.cell? ⟨w.heap.size, 9, none⟩ = some (.bool false) := KO.cell 9
      have f9 := KO.frozen 9
      have g10 : wo.cell? ⟨w.heap.size, 10, none⟩ = some (.int .u32 0) := KO.cell 10
      have f10 := KO.frozen 10
      go_wp2_with fail
      (try simp only [Exit.inBlock, Exit.then])
      refine ret_req (g := w.heap.size) zeroR rfl (by rfl) (by rfl) (rsetB zeroR KO) ?_
      exact ⟨rsetO zeroR (.inr (Nat.le_refl _)) (O2.trans O (by simp)), zeroR, 8, rfl, zeroR_ok _, zeroR_new _, zeroR_soft _, hD⟩
theorem rdecode_any (s : ByteArray) (A : Option Addr) (l : List Int) (c : Nat) (i0 : Int) (w : World) (hm : w.cell? ⟨0, 0, none⟩ = some (.int .i64 i0)) (h : Rd w A l) (hl : ∀ x ∈ l, 0 ≤ x ∧ x < 256) (hln : l.length ≤ 140737488355000) (hlc : l.length ≤ c) (hlm : c ≤ maxLen) (hal : ∀ a, A = some a → a.block < w.heap.size) :
    Calls Tryz.prog 28 #[.string s, .slice A l.length c] w (RDecPost w s l) := rdecode_anyP s A l c i0 w hm h hl hln hlc hlm (fun a ha _ => hal a ha)
end Go.Proofs.YtdplnedpbkpgpaaGreatDoor

namespace Go.Proofs.YtdplnedpbkpgpaaGreatDoor
open Go.RowKit Go.Shelf
set_option linter.all false
attribute [local go_sem] Oper.semAt_some

set_option maxHeartbeats 1000000 in
theorem bit_in (F : Fence) (n : Nat) (hF : F.fn 45) (hro : F.round = none) (op : Int) (h1 : 30 ≤ op) (h2 : op ≤ 93) (w : World) : CallsIn F n Tryz.prog 45 #[.int .i64 op] w fun e w' => e = .returned (.int .u64 (bitI op)) ∧ w' = w := by
  have e2 : IntKind.u64.wrap (2 ^ (op - 30).toNat) = bitI op := by
    unfold bitI
    have h3 : (2 : Int) ^ (op - 30).toNat = ((2 ^ (op - 30).toNat : Nat) : Int) := (Int.natCast_pow 2 _).symm
    have h6 : (op - 30).toNat < 64 := by omega
    have h4 : 2 ^ (op - 30).toNat < 2 ^ 64 := Nat.pow_lt_pow_right (by decide) h6
    rw [h3]
    generalize 2 ^ (op - 30).toNat = q at h4
    have h7 : q < 18446744073709551616 := h4
    have h5 : (q : Int) < 18446744073709551616 := by omega
    show ((q : Int) % (18446744073709551616 : Int)) = _
    exact Int.emod_eq_of_lt (Int.natCast_nonneg q) h5
  refine callsIn_of_wp Tryz.func45 rfl hF ?_ hro
  simp only [Tryz.ntmps45, List.size_toArray, List.length_cons, List.length_nil, Nat.reduceAdd, Nat.reduceSub, Array.replicate_succ, Array.replicate_zero, List.push_toArray, List.append_toArray, List.nil_append, List.cons_append]
  gi_wp2
  go_ret
  exact ⟨rfl, rfl⟩
theorem flagsF_any (w : World) : Calls Tryz.prog 44 #[] w fun e w' => e = .returned (.func (.func 69) #[] #[]) ∧ Only [] w w' := by
  refine Hs.enter Tryz.func44 [] [] [] [] (Mem.start0 w) (by kernel_rfl) (by kernel_rfl) ?_
  refine Hs.run0 300 (fun _ => by kernel_rfl) ?_
  exact Hs.ret (v := .func (.func 69) #[] #[]) Tryz.func44 (by kernel_rfl) fun w' H => ⟨rfl, H.only⟩
/-- Numbers of flags. -/
abbrev FI := { x : Int // 30 ≤ x ∧ x ≤ 93 }
def mkF (x : Int) : FI := if h : 30 ≤ x ∧ x ≤ 93 then ⟨x, h⟩ else ⟨30, by decide⟩
theorem mkF_val {x : Int} (h : 30 ≤ x ∧ x ≤ 93) : (mkF x).1 = x := by unfold mkF; rw [dif_pos h]
def rng (lo : Int) (n : Nat) : List FI := (List.range n).map fun j => mkF (lo + (j : Nat))
theorem rng_succ (lo : Int) (n : Nat) : rng lo (n + 1) = rng lo n ++ [mkF (lo + (n : Nat))] := by simp [rng, List.range_succ]
theorem rng_len (lo : Int) (n : Nat) : (rng lo n).length = n := by simp [rng]
def upG : Nat → List FI
  | 0 => []
  | 1 => rng 30 13
  | 2 => rng 30 13 ++ rng 50 13
  | 3 => rng 30 13 ++ rng 50 13 ++ rng 70 6
  | 4 => rng 30 13 ++ rng 50 13 ++ rng 70 6 ++ rng 90 4
  | _ => []
theorem upG_1 : upG 1 = upG 0 ++ rng 30 13 := by simp [upG]
theorem upG_2 : upG 2 = upG 1 ++ rng 50 13 := by simp [upG]
theorem upG_3 : upG 3 = upG 2 ++ rng 70 6 := by simp [upG]
theorem upG_4 : upG 4 = upG 3 ++ rng 90 4 := by simp [upG]
/-- All flags, in their order. -/
def flagL : List FI := upG 4
/-- Cells beside the block B stay. -/
def KpB (B : Nat) (W W' : World) : Prop := W.heap.size ≤ W'.heap.size ∧ ∀ (a : Addr) (v : Value), a.block ≠ B → W.cell? a = some v → W'.cell? a = some v
theorem KpB.trans {B : Nat} {W W' W'' : World} (h : KpB B W W') (h' : KpB B W' W'') : KpB B W W'' := ⟨Nat.le_trans h.1 h'.1, fun a v hb hc => h'.2 a v hb (h.2 a v hb hc)⟩
theorem only_grown {w w' : World} (h : Only [] w w') : w.grownBy w' none := ⟨h.os, h.tape, h.output, h.size, fun k hk _ => h.block k hk (by simp)⟩
set_option maxRecDepth 100000 in
set_option maxHeartbeats 4000000 in
/-- The flags' iterator: all of them, in order. -/
theorem flags_stops (n B : Nat) (hn : 1 ≤ n) (w : World) (hB : B < w.heap.size) : SeqStopsK Fence.wide n Tryz.prog 69 #[] (fun x : FI => #[Value.int .i64 x.1]) (KpB B) (fun xs => xs = flagL) (fun _ => True) 36 w := fun l J Jx W hW hJ _ hY h0 => by
  refine callsIn_of_wp Tryz.func69 rfl trivial ?_ rfl
  simp only [Tryz.ntmps69, List.size_toArray, List.length_cons, List.length_nil, Nat.reduceAdd, Nat.reduceSub, Array.replicate_succ, Array.replicate_zero, List.push_toArray, List.append_toArray, List.nil_append, List.cons_append]
  gi_wp2_with (refine ⟨trivial, ?_⟩; gi_at_call 70; refine (callsIn_wide.2 (groups_any _)).mono ?_; rintro e w1 ⟨rfl, hO⟩)
  have hJ0 : J [] w1 := hJ [] W w1 none h0 (only_grown hO) (fun r e => by cases e)
  have hsz : W.heap.size ≤ w1.heap.size := hO.size
  have hB1 : B < W.heap.size := Nat.lt_of_lt_of_le hB hW.size
  gi_loopw [6] (fun p wr => ∃ k : Nat, k ≤ 4 ∧ p = .int .i64 (k : Nat) ∧ J (upG k) wr ∧ W.heap.size ≤ wr.heap.size)
    (fun p _ => 4 - (intOf p).toNat)
  case atStart => exact ⟨0, by omega, rfl, hJ0, hsz⟩
  case round =>
    obtain ⟨k, hk, rfl, hJs, hsw⟩ := hrel
    obtain ⟨wo, rfl⟩ : ∃ wo : World, wo = wr := ⟨_, rfl⟩
    have hk5 : k = 0 ∨ k = 1 ∨ k = 2 ∨ k = 3 ∨ k = 4 := by omega
    rcases hk5 with rfl | rfl | rfl | rfl | rfl
    · gi_wp2
      have hix : ∀ w, (Instr.index 164 (.agg #[.int .i64 30, .int .i64 42, .int .i64 50, .int .i64 62, .int .i64 70, .int .i64 75, .int .i64 90, .int .i64 93]) (.int .i64 0)).run Tryz.prog w = .ok (.agg #[.int .i64 30, .int .i64 42]) w := fun w => by kernel_rfl
      rw [hix]
      gi_wp2
      gi_loopw [4] (fun p wr2 => ∃ j : Nat, j ≤ 13 ∧ p = .int .i64 (30 + (j : Nat)) ∧ J (upG 0 ++ rng 30 j) wr2 ∧ wr2.cell? ⟨wo.heap.size, 1, none⟩ = some (.int .i64 42) ∧ wo.heap.size ≤ wr2.heap.size)
        (fun p _ => 13 - (intOf p - 30).toNat)
      case atStart =>
        exact ⟨0, by omega, by simp, by
          rw [show upG 0 ++ rng 30 0 = upG 0 by simp [rng]]
          exact hJ _ wo _ none hJs (World.grownBy_alloc wo _ none) (fun r e => by cases e), (Blk.new wo 163 [.int .i64 30, .int .i64 42]).cell 1, by simp⟩
      case round =>
        obtain ⟨j, hj, rfl, hJ2, hc2, hs2⟩ := hrel
        by_cases hlt : j < 13
        · obtain ⟨fn, tmps, assign, body, hy, hR⟩ := hY _ (mkF (30 + (j : Nat))) _ hJ2 (by rw [List.length_append, rng_len]; show 0 + j < 36; omega)
          have hmk : (mkF (30 + (j : Nat))).1 = 30 + (j : Nat) := mkF_val ⟨by omega, by omega⟩
          rw [hmk] at hy
          gi_wp2
          refine hR.mono ?_
          rintro e W3 (⟨rfl, hJ3, hk3⟩ | ⟨rfl, hJx3⟩)
          · gi_wp2
            go_roundw
            case rel => exact ⟨j + 1, by omega, by simp; omega, by rw [rng_succ, ← List.append_assoc]; exact hJ3, hk3.2 ⟨wo.heap.size, 1, none⟩ _ (by show wo.heap.size ≠ B; omega) hc2, Nat.le_trans hs2 hk3.1⟩
            case measure => simp [intOf]; omega
          · gi_wp2
            refine bodyPost_ret (results_none rfl _ _ _) rfl ?_
            exact ⟨⟨_, rfl⟩, .inr ⟨_, trivial, hJx3⟩⟩
        · obtain rfl : j = 13 := by omega
          gi_wp2
          go_roundw
          case rel => exact ⟨1, by omega, by simp, by rw [upG_1]; exact hJ2, Nat.le_trans hsw hs2⟩
          case measure => simp [intOf]
    · gi_wp2
      have hix : ∀ w, (Instr.index 164 (.agg #[.int .i64 30, .int .i64 42, .int .i64 50, .int .i64 62, .int .i64 70, .int .i64 75, .int .i64 90, .int .i64 93]) (.int .i64 1)).run Tryz.prog w = .ok (.agg #[.int .i64 50, .int .i64 62]) w := fun w => by kernel_rfl
      rw [hix]
      gi_wp2
      gi_loopw [4] (fun p wr2 => ∃ j : Nat, j ≤ 13 ∧ p = .int .i64 (50 + (j : Nat)) ∧ J (upG 1 ++ rng 50 j) wr2 ∧ wr2.cell? ⟨wo.heap.size, 1, none⟩ = some (.int .i64 62) ∧ wo.heap.size ≤ wr2.heap.size)
        (fun p _ => 13 - (intOf p - 50).toNat)
      case atStart =>
        exact ⟨0, by omega, by simp, by
          rw [show upG 1 ++ rng 50 0 = upG 1 by simp [rng]]
          exact hJ _ wo _ none hJs (World.grownBy_alloc wo _ none) (fun r e => by cases e), (Blk.new wo 163 [.int .i64 50, .int .i64 62]).cell 1, by simp⟩
      case round =>
        obtain ⟨j, hj, rfl, hJ2, hc2, hs2⟩ := hrel
        by_cases hlt : j < 13
        · obtain ⟨fn, tmps, assign, body, hy, hR⟩ := hY _ (mkF (50 + (j : Nat))) _ hJ2 (by rw [List.length_append, rng_len]; show 13 + j < 36; omega)
          have hmk : (mkF (50 + (j : Nat))).1 = 50 + (j : Nat) := mkF_val ⟨by omega, by omega⟩
          rw [hmk] at hy
          gi_wp2
          refine hR.mono ?_
          rintro e W3 (⟨rfl, hJ3, hk3⟩ | ⟨rfl, hJx3⟩)
          · gi_wp2
            go_roundw
            case rel => exact ⟨j + 1, by omega, by simp; omega, by rw [rng_succ, ← List.append_assoc]; exact hJ3, hk3.2 ⟨wo.heap.size, 1, none⟩ _ (by show wo.heap.size ≠ B; omega) hc2, Nat.le_trans hs2 hk3.1⟩
            case measure => simp [intOf]; omega
          · gi_wp2
            refine bodyPost_ret (results_none rfl _ _ _) rfl ?_
            exact ⟨⟨_, rfl⟩, .inr ⟨_, trivial, hJx3⟩⟩
        · obtain rfl : j = 13 := by omega
          gi_wp2
          go_roundw
          case rel => exact ⟨2, by omega, by simp, by rw [upG_2]; exact hJ2, Nat.le_trans hsw hs2⟩
          case measure => simp [intOf]
    · gi_wp2
      have hix : ∀ w, (Instr.index 164 (.agg #[.int .i64 30, .int .i64 42, .int .i64 50, .int .i64 62, .int .i64 70, .int .i64 75, .int .i64 90, .int .i64 93]) (.int .i64 2)).run Tryz.prog w = .ok (.agg #[.int .i64 70, .int .i64 75]) w := fun w => by kernel_rfl
      rw [hix]
      gi_wp2
      gi_loopw [4] (fun p wr2 => ∃ j : Nat, j ≤ 6 ∧ p = .int .i64 (70 + (j : Nat)) ∧ J (upG 2 ++ rng 70 j) wr2 ∧ wr2.cell? ⟨wo.heap.size, 1, none⟩ = some (.int .i64 75) ∧ wo.heap.size ≤ wr2.heap.size)
        (fun p _ => 6 - (intOf p - 70).toNat)
      case atStart =>
        exact ⟨0, by omega, by simp, by
          rw [show upG 2 ++ rng 70 0 = upG 2 by simp [rng]]
          exact hJ _ wo _ none hJs (World.grownBy_alloc wo _ none) (fun r e => by cases e), (Blk.new wo 163 [.int .i64 70, .int .i64 75]).cell 1, by simp⟩
      case round =>
        obtain ⟨j, hj, rfl, hJ2, hc2, hs2⟩ := hrel
        by_cases hlt : j < 6
        · obtain ⟨fn, tmps, assign, body, hy, hR⟩ := hY _ (mkF (70 + (j : Nat))) _ hJ2 (by rw [List.length_append, rng_len]; show 26 + j < 36; omega)
          have hmk : (mkF (70 + (j : Nat))).1 = 70 + (j : Nat) := mkF_val ⟨by omega, by omega⟩
          rw [hmk] at hy
          gi_wp2
          refine hR.mono ?_
          rintro e W3 (⟨rfl, hJ3, hk3⟩ | ⟨rfl, hJx3⟩)
          · gi_wp2
            go_roundw
            case rel => exact ⟨j + 1, by omega, by simp; omega, by rw [rng_succ, ← List.append_assoc]; exact hJ3, hk3.2 ⟨wo.heap.size, 1, none⟩ _ (by show wo.heap.size ≠ B; omega) hc2, Nat.le_trans hs2 hk3.1⟩
            case measure => simp [intOf]; omega
          · gi_wp2
            refine bodyPost_ret (results_none rfl _ _ _) rfl ?_
            exact ⟨⟨_, rfl⟩, .inr ⟨_, trivial, hJx3⟩⟩
        · obtain rfl : j = 6 := by omega
          gi_wp2
          go_roundw
          case rel => exact ⟨3, by omega, by simp, by rw [upG_3]; exact hJ2, Nat.le_trans hsw hs2⟩
          case measure => simp [intOf]
    · gi_wp2
      have hix : ∀ w, (Instr.index 164 (.agg #[.int .i64 30, .int .i64 42, .int .i64 50, .int .i64 62, .int .i64 70, .int .i64 75, .int .i64 90, .int .i64 93]) (.int .i64 3)).run Tryz.prog w = .ok (.agg #[.int .i64 90, .int .i64 93]) w := fun w => by kernel_rfl
      rw [hix]
      gi_wp2
      gi_loopw [4] (fun p wr2 => ∃ j : Nat, j ≤ 4 ∧ p = .int .i64 (90 + (j : Nat)) ∧ J (upG 3 ++ rng 90 j) wr2 ∧ wr2.cell? ⟨wo.heap.size, 1, none⟩ = some (.int .i64 93) ∧ wo.heap.size ≤ wr2.heap.size)
        (fun p _ => 4 - (intOf p - 90).toNat)
      case atStart =>
        exact ⟨0, by omega, by simp, by
          rw [show upG 3 ++ rng 90 0 = upG 3 by simp [rng]]
          exact hJ _ wo _ none hJs (World.grownBy_alloc wo _ none) (fun r e => by cases e), (Blk.new wo 163 [.int .i64 90, .int .i64 93]).cell 1, by simp⟩
      case round =>
        obtain ⟨j, hj, rfl, hJ2, hc2, hs2⟩ := hrel
        by_cases hlt : j < 4
        · obtain ⟨fn, tmps, assign, body, hy, hR⟩ := hY _ (mkF (90 + (j : Nat))) _ hJ2 (by rw [List.length_append, rng_len]; show 32 + j < 36; omega)
          have hmk : (mkF (90 + (j : Nat))).1 = 90 + (j : Nat) := mkF_val ⟨by omega, by omega⟩
          rw [hmk] at hy
          gi_wp2
          refine hR.mono ?_
          rintro e W3 (⟨rfl, hJ3, hk3⟩ | ⟨rfl, hJx3⟩)
          · gi_wp2
            go_roundw
            case rel => exact ⟨j + 1, by omega, by simp; omega, by rw [rng_succ, ← List.append_assoc]; exact hJ3, hk3.2 ⟨wo.heap.size, 1, none⟩ _ (by show wo.heap.size ≠ B; omega) hc2, Nat.le_trans hs2 hk3.1⟩
            case measure => simp [intOf]; omega
          · gi_wp2
            refine bodyPost_ret (results_none rfl _ _ _) rfl ?_
            exact ⟨⟨_, rfl⟩, .inr ⟨_, trivial, hJx3⟩⟩
        · obtain rfl : j = 4 := by omega
          gi_wp2
          go_roundw
          case rel => exact ⟨4, by omega, by simp, by rw [upG_4]; exact hJ2, Nat.le_trans hsw hs2⟩
          case measure => simp [intOf]
    · gi_wp2
      go_end0
      exact ⟨⟨_, rfl⟩, .inl ⟨_, rfl, hJs⟩⟩
def clrI (r op : Int) : Int := bits BinOp.andNot IntKind.u64 r (bitI op)
def restF (fl : Int) (pre : List FI) : Int := pre.foldl (fun r x => clrI r x.1) fl
theorem restF_snoc (fl : Int) (pre : List FI) (x : FI) : restF fl (pre ++ [x]) = clrI (restF fl pre) x.1 := by simp [restF]
def rightB (t : TM) : Bool := restF t.fl flagL == 0 && (t.ch 0 == 0 && (decide (t.mn ≥ 0) && (decide (t.mn ≤ 255) && (decide (t.tm ≥ 0) && decide (t.tm ≤ 255)))))
set_option maxRecDepth 100000 in
set_option maxHeartbeats 4000000 in
theorem right_any (t : TM) (w : World) : Calls Tryz.prog 23 #[t.val] w fun e w' => e = .returned (.bool (rightB t)) ∧ Below w.heap.size w w' := by
  unfold TM.val
  refine (callsIn_wide (n := 3)).1 ?_
  refine callsIn_of_wp_marks Tryz.func23 rfl trivial ?_ rfl
  simp only [Tryz.ntmps23, List.size_toArray, List.length_cons, List.length_nil, Nat.reduceAdd, Nat.reduceSub, Array.replicate_succ, Array.replicate_zero, List.push_toArray, List.append_toArray, List.nil_append, List.cons_append]
  gi_wp2_with (refine ⟨trivial, ?_⟩; gi_at_call 44; refine (callsIn_wide.2 (flagsF_any _)).mono ?_; rintro e w1 ⟨rfl, hO⟩)
  have b0 := (Blk.new w 28 (#[.int .u8 (t.ch 0), .int .u8 (t.ch 1), .int .u8 (t.ch 2), .int .u8 (t.ch 3), .int .u8 (t.ch 4), .int .u8 (t.ch 5), .int .u8 (t.ch 6), .int .u8 (t.ch 7), .int .u8 (t.ch 8), .int .u8 (t.ch 9), .int .u8 (t.ch 10), .int .u8 (t.ch 11), .int .u8 (t.ch 12), .int .u8 (t.ch 13), .int .u8 (t.ch 14), .int .u8 (t.ch 15), .int .u8 (t.ch 16), .int .u8 (t.ch 17), .int .u8 (t.ch 18), .int .u64 t.fl, .int .u32 t.inn, .int .u32 t.out, .int .i64 t.mn, .int .i64 t.tm] : Array Value).toList).alloc (.cells #[.int .u64 t.fl] 26)
  have b1 := Blk.new (w.alloc (.cells #[.int .u8 (t.ch 0), .int .u8 (t.ch 1), .int .u8 (t.ch 2), .int .u8 (t.ch 3), .int .u8 (t.ch 4), .int .u8 (t.ch 5), .int .u8 (t.ch 6), .int .u8 (t.ch 7), .int .u8 (t.ch 8), .int .u8 (t.ch 9), .int .u8 (t.ch 10), .int .u8 (t.ch 11), .int .u8 (t.ch 12), .int .u8 (t.ch 13), .int .u8 (t.ch 14), .int .u8 (t.ch 15), .int .u8 (t.ch 16), .int .u8 (t.ch 17), .int .u8 (t.ch 18), .int .u64 t.fl, .int .u32 t.inn, .int .u32 t.out, .int .i64 t.mn, .int .i64 t.tm] 28)) 26 [.int .u64 t.fl]
  have hs1 : (w.alloc (.cells #[.int .u8 (t.ch 0), .int .u8 (t.ch 1), .int .u8 (t.ch 2), .int .u8 (t.ch 3), .int .u8 (t.ch 4), .int .u8 (t.ch 5), .int .u8 (t.ch 6), .int .u8 (t.ch 7), .int .u8 (t.ch 8), .int .u8 (t.ch 9), .int .u8 (t.ch 10), .int .u8 (t.ch 11), .int .u8 (t.ch 12), .int .u8 (t.ch 13), .int .u8 (t.ch 14), .int .u8 (t.ch 15), .int .u8 (t.ch 16), .int .u8 (t.ch 17), .int .u8 (t.ch 18), .int .u64 t.fl, .int .u32 t.inn, .int .u32 t.out, .int .i64 t.mn, .int .i64 t.tm] 28)).heap.size = w.heap.size + 1 := by simp
  rw [hs1] at b1
  have hB0 : Below w.heap.size w ((w.alloc (.cells #[.int .u8 (t.ch 0), .int .u8 (t.ch 1), .int .u8 (t.ch 2), .int .u8 (t.ch 3), .int .u8 (t.ch 4), .int .u8 (t.ch 5), .int .u8 (t.ch 6), .int .u8 (t.ch 7), .int .u8 (t.ch 8), .int .u8 (t.ch 9), .int .u8 (t.ch 10), .int .u8 (t.ch 11), .int .u8 (t.ch 12), .int .u8 (t.ch 13), .int .u8 (t.ch 14), .int .u8 (t.ch 15), .int .u8 (t.ch 16), .int .u8 (t.ch 17), .int .u8 (t.ch 18), .int .u64 t.fl, .int .u32 t.inn, .int .u32 t.out, .int .i64 t.mn, .int .i64 t.tm] 28)).alloc (.cells #[.int .u64 t.fl] 26)) := ((Below.refl _ w).alloc (Nat.le_refl _) _).alloc (by simp) _
  have hB1 : Below w.heap.size w w1 := hB0.trans (hO.below (by simp; omega) (by simp))
  have hz : w.heap.size + 2 ≤ w1.heap.size := Nat.le_trans (by simp) hO.size
  replace b0 := b0.only hO (by simp)
  replace b1 := b1.only hO (by simp)
  refine wpIn_rangeFunc_ownF rfl (by omega) (gf := 69) (lb := #[]) rfl trivial (enters_of Tryz.func69 (by kernel_rfl) rfl)
    (flags_stops _ (w.heap.size + 1) (by omega) w1 (by omega)) KpB.trans (fun W l o o' hl ho hc _ => ⟨by simp, fun a v hb hv => cell_kept hv (grownBy_putObj' W l o') (fun r e => by cases e; exact ⟨o, ho, hc⟩)⟩) (Below.refl _ _) (fun _ => rfl)
    (fun pre W => ((∀ i v, (TM.cells t)[i]? = some v → W.cell? ⟨w.heap.size, i, none⟩ = some v) ∧ W.cell? ⟨w.heap.size + 1, 0, none⟩ = some (.int .u64 (restF t.fl pre)) ∧ W.frozen? ⟨w.heap.size + 1, 0, none⟩ = false) ∧ Below w.heap.size w W)
    (fun _ _ _ => False)
    (OwnFrom.and (Own.from (fun s A B row hs hg hr => ⟨fun i v hv => cell_kept (hs.1 i v hv) hg hr, cell_kept hs.2.1 hg hr, (frozen_kept hs.2.1 hg hr).trans hs.2.2⟩) _) (ownFrom_below (Nat.le_refl _) (by omega)))
    (fun _ _ _ _ _ hs _ _ => hs)
    ⟨⟨fun i v hv => by rw [b0.cell]; exact hv, b1.cell 0, b1.frozen 0⟩, hB1⟩
    (fun x => { tmps := #[(.agg #[.int .u8 (t.ch 0), .int .u8 (t.ch 1), .int .u8 (t.ch 2), .int .u8 (t.ch 3), .int .u8 (t.ch 4), .int .u8 (t.ch 5), .int .u8 (t.ch 6), .int .u8 (t.ch 7), .int .u8 (t.ch 8), .int .u8 (t.ch 9), .int .u8 (t.ch 10), .int .u8 (t.ch 11), .int .u8 (t.ch 12), .int .u8 (t.ch 13), .int .u8 (t.ch 14), .int .u8 (t.ch 15), .int .u8 (t.ch 16), .int .u8 (t.ch 17), .int .u8 (t.ch 18), .int .u64 t.fl, .int .u32 t.inn, .int .u32 t.out, .int .i64 t.mn, .int .i64 t.tm]), .pointer (some ⟨w.heap.size, 0, none⟩), .bool false, .pointer (some ⟨w.heap.size + 1, 0, none⟩), .int .i64 x.1, .pointer (some ⟨w.heap.size, 19, none⟩), .int .u64 t.fl, .func (.func 69) #[] #[], .int .i64 x.1, undef, undef, undef, undef, undef, undef, undef, undef, undef, undef, undef, undef, undef, undef, undef, undef, undef, undef, undef, undef, undef, undef, undef, undef, undef, undef, undef, undef, undef, undef, undef, undef], defers := [] }) ?assign ?body ?done ?stop
  case assign =>
    intro l x W K hK
    gi_wp2
    exact hK
  case body =>
    rintro l pre x W ⟨⟨hbx, hc, hf⟩, hB⟩ _
    have hd : 1 ≤ 3 - 1 - 1 := by omega
    have hmx : Tryz.prog.follows .mixedOrders = true := by kernel_rfl
    gi_wp2
    gi_region_with_o (refine ⟨trivial, ?_⟩; gi_at_call 45; refine (CallsIn.inRound l (bit_in Fence.wide _ trivial rfl x.1 x.2.1 x.2.2 _)).mono ?_; rintro e w' ⟨rfl, rfl⟩)
    all_goals gi_wp2
    all_goals (try go_bits)
    all_goals
      refine ⟨(KeepsOthers.setCell _ _ _).trans (KeepsOthers.drew _), ⟨by simp, fun a v hb hv => by rw [World.cell?_drew, World.cell?_setCell_other (h := fun e => hb (by rw [← e]))]; exact hv⟩, ⟨⟨fun i v hv => ?_, ?_, ?_⟩, ?_⟩⟩
      · rw [World.cell?_drew, World.cell?_setCell_other (h := fun e => by have := congrArg Addr.block e; simp at this)]; exact hbx i v hv
      · rw [World.cell?_drew, World.cell?_setCell_same (h := hc), restF_snoc]; rfl
      · rw [World.frozen?_drew, World.frozen?_setCell]; exact hf
      · exact hB.trans (((Below.refl _ _).setCell (by show w.heap.size ≤ w.heap.size + 1; omega) _).drew)
  case done =>
    rintro D ys W hD rfl ⟨⟨hbx, hc, hf⟩, hB⟩ hK
    have c0 : W.cell? ⟨w.heap.size, 0, none⟩ = some (.int .u8 (t.ch 0)) := hbx 0 _ rfl
    have c22 : W.cell? ⟨w.heap.size, 22, none⟩ = some (.int .i64 t.mn) := hbx 22 _ rfl
    have c23 : W.cell? ⟨w.heap.size, 23, none⟩ = some (.int .i64 t.tm) := hbx 23 _ rfl
    gi_wp2
    all_goals
      refine ⟨by simp, .inl ⟨_, _, rfl, run_takeDeferred hK, ?_⟩⟩
      refine ⟨_, results_tmp rfl _ _ _, ?_, hB.trans (belowK_b (w := w) (Nat.le_refl _) W D _ _ (by omega) hK rfl rfl)⟩
      refine congrArg Ending.returned ?_
      simp_all [rightB]
      try omega
  case stop =>
    rintro D c pre W _ _ h _
    exact h.elim
end Go.Proofs.YtdplnedpbkpgpaaGreatDoor

namespace Go.Proofs.YtdplnedpbkpgpaaGreatDoor
set_option linter.all false
set_option maxRecDepth 100000
open Go.RowKit

def tDef : TM := ⟨fun k => [0, 3, 28, 127, 21, 4, 255, 255, 17, 19, 26, 255, 18, 23, 22, 255, 255, 255, 15].getD k 0, 2305848510591797568, 38400, 38400, 1, 0⟩
/-- A session. -/
structure SS where
  pty : Bool
  term : ByteArray
  c0 : Int
  c1 : Int
  c2 : Int
  c3 : Int
  t : TM
  env : List VR
  st : Bool
def SS.val (s : SS) (A : Option Addr) (cap : Nat) : Value := .agg (#[.bool s.pty, .string s.term, .int .u32 s.c0, .int .u32 s.c1, .int .u32 s.c2, .int .u32 s.c3, .int .u8 (s.t.ch 0), .int .u8 (s.t.ch 1), .int .u8 (s.t.ch 2), .int .u8 (s.t.ch 3), .int .u8 (s.t.ch 4), .int .u8 (s.t.ch 5), .int .u8 (s.t.ch 6), .int .u8 (s.t.ch 7), .int .u8 (s.t.ch 8), .int .u8 (s.t.ch 9), .int .u8 (s.t.ch 10), .int .u8 (s.t.ch 11), .int .u8 (s.t.ch 12), .int .u8 (s.t.ch 13), .int .u8 (s.t.ch 14), .int .u8 (s.t.ch 15), .int .u8 (s.t.ch 16), .int .u8 (s.t.ch 17), .int .u8 (s.t.ch 18), .int .u64 s.t.fl, .int .u32 s.t.inn, .int .u32 s.t.out, .int .i64 s.t.mn, .int .i64 s.t.tm, .slice A s.env.length cap, .bool s.st])
def SS.sc (s : SS) (A : Option Addr) (cap : Nat) : List SC := [.v (.bool s.pty), .v (.string s.term), .v (.int .u32 s.c0), .v (.int .u32 s.c1), .v (.int .u32 s.c2), .v (.int .u32 s.c3), .v (.int .u8 (s.t.ch 0)), .v (.int .u8 (s.t.ch 1)), .v (.int .u8 (s.t.ch 2)), .v (.int .u8 (s.t.ch 3)), .v (.int .u8 (s.t.ch 4)), .v (.int .u8 (s.t.ch 5)), .v (.int .u8 (s.t.ch 6)), .v (.int .u8 (s.t.ch 7)), .v (.int .u8 (s.t.ch 8)), .v (.int .u8 (s.t.ch 9)), .v (.int .u8 (s.t.ch 10)), .v (.int .u8 (s.t.ch 11)), .v (.int .u8 (s.t.ch 12)), .v (.int .u8 (s.t.ch 13)), .v (.int .u8 (s.t.ch 14)), .v (.int .u8 (s.t.ch 15)), .v (.int .u8 (s.t.ch 16)), .v (.int .u8 (s.t.ch 17)), .v (.int .u8 (s.t.ch 18)), .v (.int .u64 s.t.fl), .v (.int .u32 s.t.inn), .v (.int .u32 s.t.out), .v (.int .i64 s.t.mn), .v (.int .i64 s.t.tm), .v (.slice A s.env.length cap), .v (.bool s.st)]
/-- What comes of a request. -/
structure AC where
  ok : Bool
  what : Int
  prog : Int
  sig : Int
  c0 : Int
  c1 : Int
  c2 : Int
  c3 : Int
def AC.val (a : AC) : Value := .agg #[.bool a.ok, .int .i64 a.what, .int .i64 a.prog, .int .i64 a.sig, .int .u32 a.c0, .int .u32 a.c1, .int .u32 a.c2, .int .u32 a.c3]
def noA : AC := ⟨false, 0, 0, 0, 0, 0, 0, 0⟩
def okA : AC := ⟨true, 0, 0, 0, 0, 0, 0, 0⟩
def shellS : ByteArray := ⟨#[115, 104, 101, 108, 108]⟩
def cutS (s : ByteArray) : ByteArray := ⟨(Lib.cut s.data.toList [32]).1.toArray⟩
def startS (s : SS) (nm : ByteArray) (ps : List PR) : SS × AC := if s.st then (s, noA) else if findB nm ps then ({ s with st := true }, ⟨true, 1, findN nm ps, 0, 0, 0, 0, 0⟩) else (s, noA)
def varI (nm : ByteArray) (l : List VR) : Int := idxS nm (l.map VR.n) 0
def ptyM (s : SS) (m : RQ) : SS × AC := if s.pty then (s, noA) else if s.st then (s, noA) else if (modesD tDef m.modes).2 ≠ 0 then (s, noA) else if rightB (modesD tDef m.modes).1 then ({ s with pty := true, term := m.text, c0 := m.cols, c1 := m.rows, c2 := m.width, c3 := m.height, t := (modesD tDef m.modes).1 }, okA) else (s, noA)
def envM (s : SS) (m : RQ) : SS × AC := if s.st then (s, noA) else if varI m.text s.env ≥ 0 then ({ s with env := s.env.set (varI m.text s.env).toNat ⟨((s.env.map VR.n)[(varI m.text s.env).toNat]?).getD ⟨#[]⟩, m.value⟩ }, okA) else if (s.env.length : Int) ≥ 16 then (s, noA) else ({ s with env := s.env ++ [⟨m.text, m.value⟩] }, okA)
def sizeM (s : SS) (m : RQ) : SS × AC := if s.pty then (if s.st then ({ s with c0 := m.cols, c1 := m.rows, c2 := m.width, c3 := m.height }, ⟨true, 2, 0, 0, m.cols, m.rows, m.width, m.height⟩) else ({ s with c0 := m.cols, c1 := m.rows, c2 := m.width, c3 := m.height }, okA)) else (s, noA)
def sigM (s : SS) (m : RQ) : SS × AC := if s.st then (if numB m.text then (if wireS (numS m.text) then (s, ⟨true, 3, 0, numS m.text, 0, 0, 0, 0⟩) else (s, noA)) else (s, noA)) else (s, noA)
/-- What is asked and what is to be done. -/
def kindM (s : SS) (m : RQ) (ps : List PR) : Nat → SS × AC
  | 1 => ptyM s m
  | 2 => envM s m
  | 3 => startS s shellS ps
  | 4 => startS s (cutS m.text) ps
  | 5 => startS s m.text ps
  | 6 => sizeM s m
  | 8 => sigM s m
  | _ => (s, noA)
def askM (s : SS) (m : RQ) (E : Int) (ps : List PR) : SS × AC := if E ≠ 0 then (s, noA) else kindM s m ps m.kind.toNat
theorem decK_kind {k : Nat} {l : List Int} {m : RQ} (h1 : 1 ≤ k) (h2 : k ≤ 10) (h : DecK k l m 0) : m.kind = (k : Int) := by
  unfold DecK at h
  split at h
  · rename_i hn
    exact absurd h.1.symm hn
  · obtain ⟨fs, hf, h⟩ := h
    split at h
    · rw [h.2]
      have e : ∀ (m0 : RQ) (k : Nat) (fs : List FD), (putR m0 k fs).kind = m0.kind := by
        intro m0 k fs
        unfold putR
        split <;> rfl
      rw [e]
      rfl
    · rename_i hn
      exact absurd h.1.symm hn
theorem decR_kind27 {nm : ByteArray} {l : List Int} {m : RQ} (h : DecR nm l m 0) : ∃ k : Nat, 1 ≤ k ∧ k ≤ 10 ∧ m.kind = (k : Int) := by
  unfold DecR at h
  split at h
  · exact absurd h.1 (by decide)
  · rename_i k hk
    obtain ⟨h1, h2, _⟩ := kindL_range hk
    exact ⟨k, h1, h2, decK_kind h1 h2 h⟩
def kindsV : Value := .agg #[.func (.func 51) #[] #[], .func (.func 52) #[] #[], .func (.func 53) #[] #[], .func (.func 54) #[] #[], .func (.func 55) #[] #[], .func (.func 56) #[] #[], .func (.func 57) #[] #[], .func (.func 51) #[] #[], .func (.func 58) #[] #[], .func (.func 51) #[] #[], .func (.func 51) #[] #[]]
theorem kinds_any27 (w : World) : Calls Tryz.prog 29 #[] w fun e w' => e = .returned kindsV ∧ Only [] w w' := by
  refine Hs.enter Tryz.func29 [] [] [] [] (Mem.start0 w) (by kernel_rfl) (by kernel_rfl) ?_
  refine Hs.run1 300 (fun _ => by kernel_rfl) fun b0 => ?_
  exact Hs.ret (v := kindsV) Tryz.func29 (by kernel_rfl) fun w' H => ⟨rfl, H.only⟩
theorem default_any27 (w : World) : Calls Tryz.prog 94 #[] w fun e w' => e = .returned tDef.val ∧ Only [] w w' := by
  refine Hs.enter Tryz.func94 [] [] [] [] (Mem.start0 w) (by kernel_rfl) (by kernel_rfl) ?_
  refine Hs.runK [45] 1200 2 Tryz.func94 rfl (by kernel_rfl) (fun ν => by kernel_rfl) (fun ν => by kernel_rfl) fun ν hν => ?_
  exact Hs.ret (v := tDef.val) Tryz.func94 (by kernel_rfl) fun w' H => ⟨rfl, H.only⟩
end Go.Proofs.YtdplnedpbkpgpaaGreatDoor

namespace Go.Proofs.YtdplnedpbkpgpaaGreatDoor
set_option linter.all false
set_option maxRecDepth 100000
open Go.RowKit

def AC.sc (a : AC) : List SC := [.v (.bool a.ok), .v (.int .i64 a.what), .v (.int .i64 a.prog), .v (.int .i64 a.sig), .v (.int .u32 a.c0), .v (.int .u32 a.c1), .v (.int .u32 a.c2), .v (.int .u32 a.c3)]
/-- What is asked of a session, as it lies in a block. -/
def askSC (s : SS) (A : Option Addr) (cap : Nat) (m : RQ) (pA : Option Addr) (pl pc : Nat) (a : AC) : List SC := s.sc A cap ++ (m.sc ++ (.v (.slice pA pl pc) :: a.sc))
def askL (s : SS) (A : Option Addr) (cap : Nat) (m : RQ) (pA : Option Addr) (pl pc : Nat) (a : AC) : List Value := dens [] (askSC s A cap m pA pl pc a)
theorem dens_ask (β : List Nat) (s : SS) (A : Option Addr) (cap : Nat) (m : RQ) (pA : Option Addr) (pl pc : Nat) (a : AC) : dens β (askSC s A cap m pA pl pc a) = askL s A cap m pA pl pc a := by kernel_rfl
abbrev AskAt (w : World) (g : Nat) (s : SS) (A : Option Addr) (cap : Nat) (m : RQ) (pA : Option Addr) (pl pc : Nat) (a : AC) : Prop := Blk w g 88 (askL s A cap m pA pl pc a)
def AskPost (w : World) (g : Nat) (A : Option Addr) (cap : Nat) (m : RQ) (pA : Option Addr) (pl pc : Nat) (r : SS × AC) : Ending → World → Prop := fun e w' => e = .returned (.tuple #[]) ∧ Only [g] w w' ∧ AskAt w' g r.1 A cap m pA pl pc r.2
theorem cell_far {w w' : World} {g : Nat} {v : Value} (O : Only [g] w w') (h : w.cell? ⟨0, 0, none⟩ = some v) (hg : g ≠ 0) : w'.cell? ⟨0, 0, none⟩ = some v := by
  have hb := block_lt_of_cell h
  rw [← h]
  exact World.cell?_of_block (w := w) (w' := w') (O.block 0 hb (by simp [Ne.symm hg]))
section
variable {w w' : World} {g : Nat} {s s' : SS} {A : Option Addr} {cap : Nat} {m : RQ} {pA : Option Addr} {pl pc : Nat} {a a' : AC} {β : List Nat} {hp : List HB}
theorem Mem.ask (hB : AskAt w g s A cap m pA pl pc a) : Mem w [g] [g] [.b true 88 (askSC s A cap m pA pl pc a)] w := Mem.one w g (by rw [dens_ask]; exact hB)
theorem Mem.askB (H : Mem w [g] β hp w') (hg : nm β 0 = g) (hk : hp[0]? = some (.b true 88 (askSC s' A cap m pA pl pc a'))) : AskAt w' g s' A cap m pA pl pc a' := by
  have := H.at 0 hk
  rw [dens_ask, hg] at this
  exact this
theorem Mem.askE {r : SS × AC} (H : Mem w [g] β hp w') (hg : nm β 0 = g) (hk : hp[0]? = some (.b true 88 (askSC r.1 A cap m pA pl pc r.2))) : AskPost w g A cap m pA pl pc r (.returned (.tuple #[])) w' := ⟨rfl, H.only, H.askB hg hk⟩
end
section
variable (s : SS) (A : Option Addr) (cap : Nat) (m : RQ) (pA : Option Addr) (pc : Nat) (ps : List PR) (w : World) (g : Nat)
theorem start_any27 (nm : ByteArray) (hB : AskAt w g s A cap m pA ps.length pc noA) (hr : RdX cPr w pA ps) (hl : ps.length ≤ maxLen) (hf : ∀ a, pA = some a → 0 < ps.length → a.block ≠ g) : Calls Tryz.prog 98 #[.pointer (some ⟨g, 0, none⟩), .string nm] w (AskPost w g A cap m pA ps.length pc (startS s nm ps)) := by
  refine Hs.enter Tryz.func98 [g] [g] [.b true 88 (askSC s A cap m pA ps.length pc noA)] [.c (.p 0 0), .c (.v (.string nm))] (Mem.ask hB) (by kernel_rfl) (by kernel_rfl) ?_
  unfold startS
  refine Hs.run0 300 (fun _ => by kernel_rfl) ?_
  refine Hs.callV (fun w' H => find_any27 nm pA pc ps w' (hr.far H.only (fun a ha h0 hm => hf a ha h0 (List.mem_singleton.1 hm))) hl) (by kernel_rfl) ?_
  refine Hs.run0 300 (fun _ => by kernel_rfl) ?_
  refine Hs.bool 20 s.st (by kernel_rfl) (fun h1 => ?_) (fun h1 => ?_)
  · refine Hs.rung0 [5] 300 (fun _ => by kernel_rfl) ?_
    refine Hs.condT (by kernel_rfl) ?_
    refine Hs.run0 300 (fun _ => by kernel_rfl) ?_
    rw [if_pos h1]
    exact Hs.ret (v := .tuple #[]) Tryz.func98 (by kernel_rfl) fun w' H => H.askE rfl (by kernel_rfl)
  · refine Hs.rung0 [5] 300 (fun _ => by kernel_rfl) ?_
    rw [if_neg (by rw [h1]; decide)]
    refine Hs.cond (!findB nm ps) (by kernel_rfl) (fun h2 => ?_) (fun h2 => ?_)
    · rw [if_neg (by simpa using h2)]
      refine Hs.run0 300 (fun _ => by kernel_rfl) ?_
      exact Hs.ret (v := .tuple #[]) Tryz.func98 (by kernel_rfl) fun w' H => H.askE rfl (by kernel_rfl)
    · rw [if_pos (by simpa using h2)]
      refine Hs.runK [100, 95] 1000 0 Tryz.func98 rfl (by kernel_rfl) (fun ν => by kernel_rfl) (fun ν => by kernel_rfl) fun ν hν => ?_
      obtain rfl := List.length_eq_zero_iff.1 hν
      exact Hs.ret (v := .tuple #[]) Tryz.func98 (by kernel_rfl) fun w' H => H.askE rfl (by kernel_rfl)
theorem nothing_any27 (hB : AskAt w g s A cap m pA ps.length pc noA) : Calls Tryz.prog 51 #[.pointer (some ⟨g, 0, none⟩)] w (AskPost w g A cap m pA ps.length pc (s, noA)) := by
  refine Hs.enter Tryz.func51 [g] [g] [.b true 88 (askSC s A cap m pA ps.length pc noA)] [.c (.p 0 0)] (Mem.ask hB) (by kernel_rfl) (by kernel_rfl) ?_
  refine Hs.run0 300 (fun _ => by kernel_rfl) ?_
  exact Hs.ret (v := .tuple #[]) Tryz.func51 (by kernel_rfl) fun w' H => H.askE rfl (by kernel_rfl)
theorem shell_any27 (hB : AskAt w g s A cap m pA ps.length pc noA) (hr : RdX cPr w pA ps) (hl : ps.length ≤ maxLen) (hf : ∀ a, pA = some a → 0 < ps.length → a.block ≠ g) : Calls Tryz.prog 54 #[.pointer (some ⟨g, 0, none⟩)] w (AskPost w g A cap m pA ps.length pc (startS s shellS ps)) := by
  refine Hs.enter Tryz.func54 [g] [g] [.b true 88 (askSC s A cap m pA ps.length pc noA)] [.c (.p 0 0)] (Mem.ask hB) (by kernel_rfl) (by kernel_rfl) ?_
  generalize hz : startS s shellS ps = z
  refine Hs.run0 300 (fun _ => by kernel_rfl) ?_
  refine Hs.callP 0 88 (askSC z.1 A cap m pA ps.length pc z.2) (v := .tuple #[]) (fun w' H => (start_any27 s A cap m pA pc ps w' g shellS (H.askB rfl (by kernel_rfl)) (hr.far H.only (fun a ha h0 hm => hf a ha h0 (List.mem_singleton.1 hm))) hl hf).mono fun e w1 h => by rw [hz] at h; rw [dens_ask]; exact h) (by kernel_rfl) (by kernel_rfl) ?_
  refine Hs.run0 300 (fun _ => by kernel_rfl) ?_
  exact Hs.ret (v := .tuple #[]) Tryz.func54 (by kernel_rfl) fun w' H => H.askE rfl (by kernel_rfl)
theorem subsystem_any27 (hB : AskAt w g s A cap m pA ps.length pc noA) (hr : RdX cPr w pA ps) (hl : ps.length ≤ maxLen) (hf : ∀ a, pA = some a → 0 < ps.length → a.block ≠ g) : Calls Tryz.prog 56 #[.pointer (some ⟨g, 0, none⟩)] w (AskPost w g A cap m pA ps.length pc (startS s m.text ps)) := by
  refine Hs.enter Tryz.func56 [g] [g] [.b true 88 (askSC s A cap m pA ps.length pc noA)] [.c (.p 0 0)] (Mem.ask hB) (by kernel_rfl) (by kernel_rfl) ?_
  generalize hz : startS s m.text ps = z
  refine Hs.run0 300 (fun _ => by kernel_rfl) ?_
  refine Hs.callP 0 88 (askSC z.1 A cap m pA ps.length pc z.2) (v := .tuple #[]) (fun w' H => (start_any27 s A cap m pA pc ps w' g m.text (H.askB rfl (by kernel_rfl)) (hr.far H.only (fun a ha h0 hm => hf a ha h0 (List.mem_singleton.1 hm))) hl hf).mono fun e w1 h => by rw [hz] at h; rw [dens_ask]; exact h) (by kernel_rfl) (by kernel_rfl) ?_
  refine Hs.run0 300 (fun _ => by kernel_rfl) ?_
  exact Hs.ret (v := .tuple #[]) Tryz.func56 (by kernel_rfl) fun w' H => H.askE rfl (by kernel_rfl)
theorem exec_any27 (i0 : Int) (h00 : w.cell? ⟨0, 0, none⟩ = some (.int .i64 i0)) (hg0 : g ≠ 0) (hsz : m.text.size < 4294967281) (hB : AskAt w g s A cap m pA ps.length pc noA) (hr : RdX cPr w pA ps) (hl : ps.length ≤ maxLen) (hf : ∀ a, pA = some a → 0 < ps.length → a.block ≠ g) : Calls Tryz.prog 55 #[.pointer (some ⟨g, 0, none⟩)] w (AskPost w g A cap m pA ps.length pc (startS s (cutS m.text) ps)) := by
  refine Hs.enter Tryz.func55 [g] [g] [.b true 88 (askSC s A cap m pA ps.length pc noA)] [.c (.p 0 0)] (Mem.ask hB) (by kernel_rfl) (by kernel_rfl) ?_
  generalize hz : startS s (cutS m.text) ps = z
  refine Hs.run0 300 (fun _ => by kernel_rfl) ?_
  refine Hs.callV (v := .tuple #[.string (cutS m.text), .string ⟨(Lib.cut m.text.data.toList [32]).2.1.toArray⟩, .bool (Lib.cut m.text.data.toList [32]).2.2]) (fun w' H => (Tryz.strings_Cut m.text ⟨#[32]⟩ i0 w' hsz (cell_far H.only h00 hg0)).mono fun e w1 ⟨h1, q, h2⟩ => ⟨h1, by rw [h2]; exact (Only.refl _ _).drewN q⟩) (by kernel_rfl) ?_
  refine Hs.run0 300 (fun _ => by kernel_rfl) ?_
  refine Hs.callP 0 88 (askSC z.1 A cap m pA ps.length pc z.2) (v := .tuple #[]) (fun w' H => (start_any27 s A cap m pA pc ps w' g (cutS m.text) (H.askB rfl (by kernel_rfl)) (hr.far H.only (fun a ha h0 hm => hf a ha h0 (List.mem_singleton.1 hm))) hl hf).mono fun e w1 h => by rw [hz] at h; rw [dens_ask]; exact h) (by kernel_rfl) (by kernel_rfl) ?_
  refine Hs.run0 300 (fun _ => by kernel_rfl) ?_
  exact Hs.ret (v := .tuple #[]) Tryz.func55 (by kernel_rfl) fun w' H => H.askE rfl (by kernel_rfl)
theorem resize_any27 (hB : AskAt w g s A cap m pA ps.length pc noA) : Calls Tryz.prog 57 #[.pointer (some ⟨g, 0, none⟩)] w (AskPost w g A cap m pA ps.length pc (sizeM s m)) := by
  refine Hs.enter Tryz.func57 [g] [g] [.b true 88 (askSC s A cap m pA ps.length pc noA)] [.c (.p 0 0)] (Mem.ask hB) (by kernel_rfl) (by kernel_rfl) ?_
  unfold sizeM
  refine Hs.run0 300 (fun _ => by kernel_rfl) ?_
  refine Hs.cond (!s.pty) (by kernel_rfl) (fun h1 => ?_) (fun h1 => ?_)
  · rw [if_neg (by simpa using h1)]
    refine Hs.run0 300 (fun _ => by kernel_rfl) ?_
    exact Hs.ret (v := .tuple #[]) Tryz.func57 (by kernel_rfl) fun w' H => H.askE rfl (by kernel_rfl)
  rw [if_pos (by simpa using h1)]
  refine Hs.run0 300 (fun _ => by kernel_rfl) ?_
  refine Hs.cond (!s.st) (by kernel_rfl) (fun h2 => ?_) (fun h2 => ?_)
  · rw [if_neg (by simpa using h2)]
    refine Hs.runK [100, 95] 1000 0 Tryz.func57 rfl (by kernel_rfl) (fun ν => by kernel_rfl) (fun ν => by kernel_rfl) fun ν hν => ?_
    obtain rfl := List.length_eq_zero_iff.1 hν
    exact Hs.ret (v := .tuple #[]) Tryz.func57 (by kernel_rfl) fun w' H => H.askE rfl (by kernel_rfl)
  · rw [if_pos (by simpa using h2)]
    refine Hs.runK [100, 95] 1000 0 Tryz.func57 rfl (by kernel_rfl) (fun ν => by kernel_rfl) (fun ν => by kernel_rfl) fun ν hν => ?_
    obtain rfl := List.length_eq_zero_iff.1 hν
    exact Hs.ret (v := .tuple #[]) Tryz.func57 (by kernel_rfl) fun w' H => H.askE rfl (by kernel_rfl)
theorem signal_any27 (hB : AskAt w g s A cap m pA ps.length pc noA) : Calls Tryz.prog 58 #[.pointer (some ⟨g, 0, none⟩)] w (AskPost w g A cap m pA ps.length pc (sigM s m)) := by
  refine Hs.enter Tryz.func58 [g] [g] [.b true 88 (askSC s A cap m pA ps.length pc noA)] [.c (.p 0 0)] (Mem.ask hB) (by kernel_rfl) (by kernel_rfl) ?_
  unfold sigM
  refine Hs.run0 300 (fun _ => by kernel_rfl) ?_
  refine Hs.callV (fun w' H => number_any18 m.text w') (by kernel_rfl) ?_
  refine Hs.run0 300 (fun _ => by kernel_rfl) ?_
  refine Hs.bool 19 (!s.st) (by kernel_rfl) (fun h1 => ?_) (fun h1 => ?_)
  · refine Hs.rung0 [6, 10] 300 (fun _ => by kernel_rfl) ?_
    refine Hs.condT (by kernel_rfl) ?_
    refine Hs.run0 300 (fun _ => by kernel_rfl) ?_
    rw [if_neg (by simpa using h1)]
    exact Hs.ret (v := .tuple #[]) Tryz.func58 (by kernel_rfl) fun w' H => H.askE rfl (by kernel_rfl)
  rw [if_pos (by simpa using h1)]
  refine Hs.rung0 [6] 300 (fun _ => by kernel_rfl) ?_
  refine Hs.bool 23 (!numB m.text) (by kernel_rfl) (fun h2 => ?_) (fun h2 => ?_)
  · refine Hs.rung0 [6, 10] 300 (fun _ => by kernel_rfl) ?_
    refine Hs.condT (by kernel_rfl) ?_
    refine Hs.run0 300 (fun _ => by kernel_rfl) ?_
    rw [if_neg (by simpa using h2)]
    exact Hs.ret (v := .tuple #[]) Tryz.func58 (by kernel_rfl) fun w' H => H.askE rfl (by kernel_rfl)
  rw [if_pos (by simpa using h2)]
  refine Hs.rung0 [6, 10] 300 (fun _ => by kernel_rfl) ?_
  refine Hs.callV (fun w' H => wire_any18 (numS m.text) w') (by kernel_rfl) ?_
  refine Hs.rung0 [6, 10] 300 (fun _ => by kernel_rfl) ?_
  refine Hs.cond (!wireS (numS m.text)) (by kernel_rfl) (fun h3 => ?_) (fun h3 => ?_)
  · rw [if_neg (by simpa using h3)]
    refine Hs.run0 300 (fun _ => by kernel_rfl) ?_
    exact Hs.ret (v := .tuple #[]) Tryz.func58 (by kernel_rfl) fun w' H => H.askE rfl (by kernel_rfl)
  · rw [if_pos (by simpa using h3)]
    refine Hs.runK [100, 95] 1000 0 Tryz.func58 rfl (by kernel_rfl) (fun ν => by kernel_rfl) (fun ν => by kernel_rfl) fun ν hν => ?_
    obtain rfl := List.length_eq_zero_iff.1 hν
    exact Hs.ret (v := .tuple #[]) Tryz.func58 (by kernel_rfl) fun w' H => H.askE rfl (by kernel_rfl)
end
end Go.Proofs.YtdplnedpbkpgpaaGreatDoor

namespace Go.Proofs.YtdplnedpbkpgpaaGreatDoor
set_option linter.all false
set_option maxRecDepth 100000
open Go.RowKit

section
variable {P : Program} {f : FuncId} {R : Ending → World → Prop} {n : Nat} {β : List Nat} {m : SM} {w0 : World} {L : List Nat}
/-- The way on from a state that several ways come to. -/
theorem Hs.share0 {S : SM} {β' : List Nat} (h1 : Hs P f R n w0 L β' S → Hs P f R n w0 L β m) (h2 : Hs P f R n w0 L β' S) : Hs P f R n w0 L β m := h1 h2
theorem Hs.share1 {S : Nat → SM} {β' : List Nat} (h1 : (∀ b, Hs P f R n w0 L (β' ++ [b]) (S b)) → Hs P f R n w0 L β m) (h2 : ∀ b, Hs P f R n w0 L (β' ++ [b]) (S b)) : Hs P f R n w0 L β m := h1 h2
def keyM (n : Nat) (m : SM) : RM × List Item × List HB × List SV × List Deferred := ⟨m.r, m.todo, m.hp, (List.range n).map m.sl.at, m.sl.ds⟩
/-- A state that another state is, but for the order in which its slots were written. -/
theorem Hs.eqM {m' : SM} (k : Hs P f R n w0 L β m') (h : keyM n m = keyM n m') (hw : m'.sl.wf m'.hp.length = true) : Hs P f R n w0 L β m := by
  obtain ⟨r, td, sl, hp⟩ := m
  obtain ⟨r', td', sl', hp'⟩ := m'
  simp only [keyM, Prod.mk.injEq] at h
  obtain ⟨rfl, rfl, rfl, hs, hd⟩ := h
  have e : fr n β sl = fr n β sl' := by
    unfold fr
    rw [hd]
    congr 2
    refine List.map_congr_left fun i hi => ?_
    have h1 := List.mem_range.1 hi
    have h2 := congrArg (fun l => l[i]?) hs
    simp only [List.getElem?_map, List.getElem?_range h1, Option.map_some, Option.some.injEq] at h2
    rw [h2]
  refine ⟨fun w H W => ?_⟩
  have W' : SM.wf ⟨r, td, sl', hp⟩ = true := by
    unfold SM.wf at W ⊢
    simp only [Bool.and_eq_true] at W ⊢
    exact ⟨hw, W.2⟩
  have g := k.go w H W'
  unfold Gs at g ⊢
  dsimp only at g ⊢
  rw [e]
  exact g
end
end Go.Proofs.YtdplnedpbkpgpaaGreatDoor

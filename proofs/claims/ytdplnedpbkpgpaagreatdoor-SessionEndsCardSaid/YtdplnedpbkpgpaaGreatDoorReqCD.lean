/- Layer 4: the getters; no condition but the sizes that can be. -/
import Derived.Test.YtdplnedpbkpgpaaGreatDoorReqB
import Derived.Test.YtdplnedpbkpgpaaGreatDoorReqC
import Derived.Test.YtdplnedpbkpgpaaGreatDoorApX
namespace Go.Proofs.YtdplnedpbkpgpaaGreatDoor
set_option linter.all false
open Go.RowKit

theorem elemF : ElemT Tryz.prog 120 123 4 64 := elemT_of Tryz.underlying120 fieldInfos rfl (by decide)
theorem oneF : ∀ f : FD, ∀ u ∈ f.cells, u.oneCell' = true := by intro f u hu; simp [FD.cells] at hu; rcases hu with rfl | rfl | rfl | rfl <;> rfl
theorem lenF : ∀ f : FD, f.cells.length = 4 := fun _ => rfl
theorem okOff_app {w w' : World} {v v' : Value} {fs : List FD} (P : Only v.ownBlock.toList w w') (G : Where2 v v' w.heap.size) (h : ∀ f ∈ fs, FD.ok w f ∧ f.off v) : ∀ f ∈ fs, FD.ok w' f ∧ f.off v' := by
  intro f hf
  obtain ⟨ok, off⟩ := h f hf
  have t1 := ok.tlt
  have t2 := ok.llt
  refine ⟨{ ok with text := ok.text.onlyL P (fun a ha h0 hx => off.1 a ha h0 (by simpa using hx)), list := ok.list.onlyL P (fun a ha h0 hx => off.2 a ha h0 (by simpa using hx)) }, fun a ha h0 hx => ?_, fun a ha h0 hx => ?_⟩
  · rcases G with e | e
    · rw [e] at hx; exact off.1 a ha h0 hx
    · rw [e] at hx; injection hx with hx; have := t1 a ha h0; omega
  · rcases G with e | e
    · rw [e] at hx; exact off.2 a ha h0 hx
    · rw [e] at hx; injection hx with hx; have := t2 a ha h0; omega
theorem off_plain {f : FD} {v : Value} (h1 : f.text = []) (h2 : f.list = []) : f.off v := ⟨fun a ha h0 => by rw [h1] at h0; simp at h0, fun a ha h0 => by rw [h2] at h0; simp at h0⟩
theorem sizes_plain {m : RQ} {fs : List FD} (h : fs.map FD.pf = (partsR m 6).map (fun p => { p with kind := 0 })) : ∀ f ∈ fs, f.text = [] ∧ f.list = [] := by
  intro f hf
  have : f.pf ∈ fs.map FD.pf := List.mem_map_of_mem hf
  rw [h] at this
  simp only [partsR, List.map_cons, List.map_nil, List.mem_cons, List.not_mem_nil, or_false] at this
  have e1 : f.text = f.pf.text := rfl
  have e2 : f.list = f.pf.list := rfl
  rw [e1, e2]
  rcases this with e | e | e | e <;> rw [e] <;> exact ⟨rfl, rfl⟩
theorem rdX_one {w : World} {q : Nat} {f : FD} (h : Blk w q 123 f.cells) : RdX FD.cells w (some ⟨q, 0, none⟩) [f] := fun _ => ⟨q, 0, rfl, h.lt, fun j u hj => by
  rw [Nat.zero_add, h.cell]
  simpa using hj⟩
section
variable (m : RQ) (g : Nat) (w : World)
theorem pty_end {m : RQ} {w x : World} {v : Value} {fs1 fs2 : List FD} (hm : m.ok w) (PE : Only [] w x) (V : OwnX FD.cells 123 4 x w.heap.size v ((fs1 ++ fs2) ++ [⟨0, 0, m.mA, m.mc, m.modes, none, 0, []⟩])) (M : ∀ f ∈ fs1 ++ fs2, FD.ok x f ∧ f.off v)
    (hp1 : fs1.map FD.pf = (partsR m 4).map (fun p => { p with kind := 0 })) (hp2 : fs2.map FD.pf = (partsR m 6).map (fun p => { p with kind := 0 })) (hn1 : ∀ f ∈ fs1, U32 f.n) (hn2 : ∀ f ∈ fs2, U32 f.n) : GetsPost w (partsR m 1) (.returned v) x := by
  refine ⟨PE, v, _, rfl, V, ?_, fun f hf => ?_, fun f hf => ?_⟩
  · rw [List.map_append, List.map_append, hp1, hp2]; rfl
  · rcases List.mem_append.1 hf with hf | hf
    · exact M f hf
    · rw [List.mem_singleton] at hf
      subst hf
      refine ⟨⟨hm.modes.only PE, RdG.nil, hm.mle, hm.mmax, by simp, by simp, by simp⟩, fun a ha h0 hx => ?_, fun a ha => by simp at ha⟩
      have h1 := (V.block _ hx).1
      have h2 := RdG.lt (mk := .int .u8) hm.modes h0 a ha
      omega
  · rcases List.mem_append.1 hf with hf | hf
    · rcases List.mem_append.1 hf with hf | hf
      · exact hn1 f hf
      · exact hn2 f hf
    · rw [List.mem_singleton] at hf
      subst hf
      exact ⟨Int.le_refl 0, show (0 : Int) ≤ 4294967295 by decide⟩
set_option maxRecDepth 100000 in
set_option maxHeartbeats 1600000 in
theorem getPtyR_any (hg : Blk w g 119 m.cells) (hm : m.ok w) (hs : m.text.size ≤ 140737488355328) : Calls Tryz.prog 71 #[.pointer (some ⟨g, 0, none⟩)] w (GetsPost w (partsR m 1)) := by
  have hlt := hg.lt
  go_enter Tryz.func71, Tryz.ntmps71
  go_wp2_with fail
  have hI : (fun w' : World => Blk w' g 119 m.cells) { w with drawn := w.drawn + 1 } := hg
  refine wp_region_E (fun w' : World => Blk w' g 119 m.cells) [] (by kernel_rfl) ?_
  refine wpAnyE_take 0 (v := (.pointer (some ⟨g, 0, none⟩))) rfl (by kernel_rfl) (fun _ _ _ h => h) hI (fun w' hw' => Or.inl ⟨by kernel_rfl, Or.inl (by go_simp)⟩) ?_
  refine wpAnyE_take 2 (v := (.pointer (some ⟨g, 0, none⟩))) rfl (by kernel_rfl) (fun _ _ _ h => h) hI (fun w' hw' => Or.inl ⟨by kernel_rfl, Or.inl (by go_simp)⟩) ?_
  refine wpAnyE_take 5 (v := (.pointer (some ⟨g, 0, none⟩))) rfl (by kernel_rfl) (fun _ _ _ h => h) hI (fun w' hw' => Or.inl ⟨by kernel_rfl, Or.inl (by go_simp)⟩) ?_
  refine wpAnyE_take 6 (v := (.pointer (some ⟨g, 0, none⟩))) rfl (by kernel_rfl) (fun _ _ _ h => h) hI (fun w' hw' => Or.inl ⟨by kernel_rfl, Or.inl (by go_simp)⟩) ?_
  refine wpAnyE_take 7 (v := (.pointer (some ⟨g, 0, none⟩))) rfl (by kernel_rfl) (fun _ _ _ h => h) hI (fun w' hw' => Or.inl ⟨by kernel_rfl, Or.inl (by go_simp)⟩) ?_
  refine wpAnyE_take 8 (v := (.pointer (some ⟨g, 8, none⟩))) rfl (by kernel_rfl) (fun _ _ _ h => h) hI (fun w' hw' => Or.inl ⟨by kernel_rfl, Or.inl (by go_simp)⟩) ?_
  refine wpAnyE_take 9 (v := (.slice m.mA m.modes.length m.mc)) rfl (by kernel_rfl) (fun _ _ _ h => h) hI (fun w' hw' => Or.inl ⟨by kernel_rfl, Or.inl (by have y0 : w'.cell? ⟨g, 8, none⟩ = some (.slice m.mA m.modes.length m.mc) := hw'.cell 8; go_simp)⟩) ?_
  refine wpAnyE_take 10 (v := (.agg #[.int .i64 0, .int .u32 0, .slice m.mA m.modes.length m.mc, .slice none 0 0])) rfl (by kernel_rfl) (fun _ _ _ h => h) hI (fun w' hw' => Or.inl ⟨by kernel_rfl, Or.inl (by go_simp)⟩) ?_
  have P0 : Only [] w w.drew := (Only.refl _ _).drew
  refine wpAnyE_two 1 11 rfl rfl (by kernel_rfl) hI (fun K hK => ?_) (fun K hK => ?_)
  · rw [if_pos (by kernel_rfl)]
    have T := getTextR_any m g w.drew hI hs
    go_simp
    go_call T as e x1 ⟨Q1, v1, fs1, rfl, V1, hp1, M1, hn1⟩
    clear T
    have o1 := OwnF.block V1
    replace V1 : OwnX FD.cells 123 4 x1 w.heap.size v1 fs1 := OwnX.mono (cf := FD.cells) V1 P0.size
    have P1 : Only [] w x1 := P0.trans Q1 (by simp)
    have hI1 : (fun w' : World => Blk w' g 119 m.cells) x1 := hg.only P1 (by simp)
    have z1 := Q1.size
    refine hK _ _ ?_
    clear hK K
    refine wpAnyE_two 3 11 rfl rfl (by kernel_rfl) hI1 (fun K hK => ?_) (fun K hK => ?_)
    · rw [if_pos (by kernel_rfl)]
      have T := getSizeR_any m g x1 hI1 hm.nums
      go_simp
      go_call T as e x2 ⟨Q2, v2, fs2, rfl, V2, hp2, M2x, hn2⟩
      clear T
      replace V2 : OwnX FD.cells 123 4 x2 w.heap.size v2 fs2 := OwnX.mono (cf := FD.cells) V2 P1.size
      have M2 := fun f hf => (M2x f hf).1
      clear M2x
      have P2 : Only [] w x2 := P1.trans Q2 (by simp)
      have hI2 : (fun w' : World => Blk w' g 119 m.cells) x2 := hg.only P2 (by simp)
      have z2 := Q2.size
      have V1 := V1.only Q2
      have M1 := fun f hf => (⟨(M1 f hf).1.only Q2, (M1 f hf).2⟩ : FD.ok x2 f ∧ f.off v1)
      obtain ⟨A2, c2, rfl, hc2, hm2, R2, _⟩ := V2.form
      refine hK _ _ ?_
      clear hK K
      refine wpAnyE_two 4 11 rfl rfl (by kernel_rfl) hI2 (fun K hK => ?_) (fun K hK => ?_)
      · rw [if_pos (by kernel_rfl)]
        have R2' : RdX FD.cells x2 A2 fs2 := by obtain ⟨A2', c2', e2, _, _, R2', _⟩ := V2.form; rw [(Value.slice.inj e2).1]; exact R2'
        have l1 : fs1.length = 1 := by have := congrArg List.length hp1; simpa [partsR] using this
        have l2 : fs2.length = 4 := by have := congrArg List.length hp2; simpa [partsR] using this
        refine wp_appX (.tmp 4) (.tmp 6) elemF rfl oneF lenF (by kernel_rfl) V1 A2 c2 fs2 _ rfl (by kernel_rfl) R2' (by simp only [maxLen]; omega) (by omega) P2.size ?_
        intro v7 x3 V7 Q3 G3
        have V7 := V7.out
        have M12 : ∀ f ∈ fs1 ++ fs2, FD.ok x2 f ∧ f.off v1 := fun f hf => by
          rcases List.mem_append.1 hf with hf | hf
          · exact M1 f hf
          · exact ⟨M2 f hf, off_plain (sizes_plain hp2 f hf).1 (sizes_plain hp2 f hf).2⟩
        have M7 := okOff_app Q3 G3.out M12
        have P3 : Only [] w x3 := P2.trans Q3 (fun x hx => .inr (V1.block x (by simpa using hx)).1)
        have hI3 : (fun w' : World => Blk w' g 119 m.cells) x3 := hg.only P3 (by simp)
        refine hK _ _ ?_
        clear hK K
        refine wpAnyE_one 11 rfl (by kernel_rfl) hI3 (fun K hK => ?_)
        rw [if_pos (by kernel_rfl)]
        have Q4 : Only [] x3 (x3.alloc (.cells #[.int .i64 0, .int .u32 0, .slice m.mA m.modes.length m.mc, .slice none 0 0] 123)) := (Only.refl [] x3).alloc _
        have B3 : Blk (x3.alloc (.cells #[.int .i64 0, .int .u32 0, .slice m.mA m.modes.length m.mc, .slice none 0 0] 123)) x3.heap.size 123 [.int .i64 0, .int .u32 0, .slice m.mA m.modes.length m.mc, .slice none 0 0] := Blk.new x3 _ _
        obtain ⟨q3, hq3⟩ : ∃ q, q = x3.heap.size := ⟨_, rfl⟩
        have hq3w : w.heap.size ≤ q3 := by have := P3.size; omega
        have hq3' : q3 ≤ x3.heap.size ∧ x3.heap.size ≤ q3 := by omega
        go_simp
        obtain ⟨x4, hx4⟩ : ∃ x, x = x3.alloc (.cells #[.int .i64 0, .int .u32 0, .slice m.mA m.modes.length m.mc, .slice none 0 0] 123) := ⟨_, rfl⟩
        rw [← hx4] at Q4 B3 ⊢
        rw [← hq3] at B3 ⊢
        have P4 : Only [] w x4 := P3.trans Q4 (by simp)
        have hI4 : (fun w' : World => Blk w' g 119 m.cells) x4 := hg.only P4 (by simp)
        have z4 := Q4.size
        have V7 := V7.only Q4
        have M7 := fun f hf => (⟨(M7 f hf).1.only Q4, (M7 f hf).2⟩ : FD.ok x4 f ∧ f.off v7)
        replace hx4 := hide hx4
        replace hq3 := hide hq3
        refine hK _ _ ?_
        clear hK K
        refine wpAnyE_one 12 rfl (by kernel_rfl) hI4 (fun K hK => ?_)
        rw [if_pos (by kernel_rfl)]
        refine wp_appX (.tmp 7) (.tmp 14) elemF rfl oneF lenF (by kernel_rfl) V7 (some ⟨q3, 0, none⟩) 1 [⟨0, 0, m.mA, m.mc, m.modes, none, 0, []⟩] 1 rfl (by kernel_rfl) (rdX_one B3) (by simp only [maxLen, List.length_append, List.length_singleton]; omega) (by simp only [List.length_append, List.length_singleton]; omega) P4.size ?_
        intro v12 x5 V12 Q5 G5
        have V12 := V12.out
        have M12' := okOff_app Q5 G5.out M7
        have PE : Only [] w x5 := P4.trans Q5 (fun x hx => .inr (V7.block x (by simpa using hx)).1)
        have hIE : (fun w' : World => Blk w' g 119 m.cells) x5 := hg.only PE (by simp)
        refine hK _ _ ?_
        clear hK K
        refine wpAnyE_take 13 (v := v12) rfl (by kernel_rfl) (fun _ _ _ h => h) hIE (fun w' hw' => Or.inl ⟨by kernel_rfl, Or.inl (by go_simp)⟩) ?_
        refine wpAnyE_end (by kernel_rfl) hIE ?_
        simp only [Exit.then]
        go_wp2_with fail
        go_ret
        exact pty_end hm PE V12 M12' hp1 hp2 hn1 hn2
      · rw [if_pos (by kernel_rfl)]
        have Q3 : Only [] x2 (x2.alloc (.cells #[.int .i64 0, .int .u32 0, .slice m.mA m.modes.length m.mc, .slice none 0 0] 123)) := (Only.refl [] x2).alloc _
        have B3 : Blk (x2.alloc (.cells #[.int .i64 0, .int .u32 0, .slice m.mA m.modes.length m.mc, .slice none 0 0] 123)) x2.heap.size 123 [.int .i64 0, .int .u32 0, .slice m.mA m.modes.length m.mc, .slice none 0 0] := Blk.new x2 _ _
        obtain ⟨q3, hq3⟩ : ∃ q, q = x2.heap.size := ⟨_, rfl⟩
        have hq3w : w.heap.size ≤ q3 := by have := P2.size; omega
        have hq3' : q3 ≤ x2.heap.size ∧ x2.heap.size ≤ q3 := by omega
        go_simp
        obtain ⟨x3, hx3⟩ : ∃ x, x = x2.alloc (.cells #[.int .i64 0, .int .u32 0, .slice m.mA m.modes.length m.mc, .slice none 0 0] 123) := ⟨_, rfl⟩
        rw [← hx3] at Q3 B3 ⊢
        rw [← hq3] at B3 ⊢
        have P3 : Only [] w x3 := P2.trans Q3 (by simp)
        have hI3 : (fun w' : World => Blk w' g 119 m.cells) x3 := hg.only P3 (by simp)
        have z3 := Q3.size
        have V1 := V1.only Q3
        have M1 := fun f hf => (⟨(M1 f hf).1.only Q3, (M1 f hf).2⟩ : FD.ok x3 f ∧ f.off v1)
        have V2 := V2.only Q3
        have M2 := fun f hf => (M2 f hf).only Q3
        replace hx3 := hide hx3
        replace hq3 := hide hq3
        refine hK _ _ ?_
        clear hK K
        refine wpAnyE_one 4 rfl (by kernel_rfl) hI3 (fun K hK => ?_)
        rw [if_pos (by kernel_rfl)]
        have R2' : RdX FD.cells x3 A2 fs2 := by obtain ⟨A2', c2', e2, _, _, R2', _⟩ := V2.form; rw [(Value.slice.inj e2).1]; exact R2'
        have l1 : fs1.length = 1 := by have := congrArg List.length hp1; simpa [partsR] using this
        have l2 : fs2.length = 4 := by have := congrArg List.length hp2; simpa [partsR] using this
        refine wp_appX (.tmp 4) (.tmp 6) elemF rfl oneF lenF (by kernel_rfl) V1 A2 c2 fs2 _ rfl (by kernel_rfl) R2' (by simp only [maxLen]; omega) (by omega) P3.size ?_
        intro v7 x4 V7 Q4 G4
        have V7 := V7.out
        have M12 : ∀ f ∈ fs1 ++ fs2, FD.ok x3 f ∧ f.off v1 := fun f hf => by
          rcases List.mem_append.1 hf with hf | hf
          · exact M1 f hf
          · exact ⟨M2 f hf, off_plain (sizes_plain hp2 f hf).1 (sizes_plain hp2 f hf).2⟩
        have M7 := okOff_app Q4 G4.out M12
        have P4 : Only [] w x4 := P3.trans Q4 (fun x hx => .inr (V1.block x (by simpa using hx)).1)
        have hI4 : (fun w' : World => Blk w' g 119 m.cells) x4 := hg.only P4 (by simp)
        have B3 := B3.only Q4 (fun hx => by have := o1 q3 (by simpa using hx); omega)
        refine hK _ _ ?_
        clear hK K
        refine wpAnyE_one 12 rfl (by kernel_rfl) hI4 (fun K hK => ?_)
        rw [if_pos (by kernel_rfl)]
        refine wp_appX (.tmp 7) (.tmp 14) elemF rfl oneF lenF (by kernel_rfl) V7 (some ⟨q3, 0, none⟩) 1 [⟨0, 0, m.mA, m.mc, m.modes, none, 0, []⟩] 1 rfl (by kernel_rfl) (rdX_one B3) (by simp only [maxLen, List.length_append, List.length_singleton]; omega) (by simp only [List.length_append, List.length_singleton]; omega) P4.size ?_
        intro v12 x5 V12 Q5 G5
        have V12 := V12.out
        have M12' := okOff_app Q5 G5.out M7
        have PE : Only [] w x5 := P4.trans Q5 (fun x hx => .inr (V7.block x (by simpa using hx)).1)
        have hIE : (fun w' : World => Blk w' g 119 m.cells) x5 := hg.only PE (by simp)
        refine hK _ _ ?_
        clear hK K
        refine wpAnyE_take 13 (v := v12) rfl (by kernel_rfl) (fun _ _ _ h => h) hIE (fun w' hw' => Or.inl ⟨by kernel_rfl, Or.inl (by go_simp)⟩) ?_
        refine wpAnyE_end (by kernel_rfl) hIE ?_
        simp only [Exit.then]
        go_wp2_with fail
        go_ret
        exact pty_end hm PE V12 M12' hp1 hp2 hn1 hn2
    · rw [if_pos (by kernel_rfl)]
      have Q2 : Only [] x1 (x1.alloc (.cells #[.int .i64 0, .int .u32 0, .slice m.mA m.modes.length m.mc, .slice none 0 0] 123)) := (Only.refl [] x1).alloc _
      have B3 : Blk (x1.alloc (.cells #[.int .i64 0, .int .u32 0, .slice m.mA m.modes.length m.mc, .slice none 0 0] 123)) x1.heap.size 123 [.int .i64 0, .int .u32 0, .slice m.mA m.modes.length m.mc, .slice none 0 0] := Blk.new x1 _ _
      obtain ⟨q3, hq3⟩ : ∃ q, q = x1.heap.size := ⟨_, rfl⟩
      have hq3w : w.heap.size ≤ q3 := by have := P1.size; omega
      have hq3' : q3 ≤ x1.heap.size ∧ x1.heap.size ≤ q3 := by omega
      go_simp
      obtain ⟨x2, hx2⟩ : ∃ x, x = x1.alloc (.cells #[.int .i64 0, .int .u32 0, .slice m.mA m.modes.length m.mc, .slice none 0 0] 123) := ⟨_, rfl⟩
      rw [← hx2] at Q2 B3 ⊢
      rw [← hq3] at B3 ⊢
      have P2 : Only [] w x2 := P1.trans Q2 (by simp)
      have hI2 : (fun w' : World => Blk w' g 119 m.cells) x2 := hg.only P2 (by simp)
      have z2 := Q2.size
      have V1 := V1.only Q2
      have M1 := fun f hf => (⟨(M1 f hf).1.only Q2, (M1 f hf).2⟩ : FD.ok x2 f ∧ f.off v1)
      replace hx2 := hide hx2
      replace hq3 := hide hq3
      refine hK _ _ ?_
      clear hK K
      refine wpAnyE_one 3 rfl (by kernel_rfl) hI2 (fun K hK => ?_)
      rw [if_pos (by kernel_rfl)]
      have T := getSizeR_any m g x2 hI2 hm.nums
      go_simp
      go_call T as e x3 ⟨Q3, v2, fs2, rfl, V2, hp2, M2x, hn2⟩
      clear T
      replace V2 : OwnX FD.cells 123 4 x3 w.heap.size v2 fs2 := OwnX.mono (cf := FD.cells) V2 P2.size
      have M2 := fun f hf => (M2x f hf).1
      clear M2x
      have P3 : Only [] w x3 := P2.trans Q3 (by simp)
      have hI3 : (fun w' : World => Blk w' g 119 m.cells) x3 := hg.only P3 (by simp)
      have z3 := Q3.size
      have V1 := V1.only Q3
      have M1 := fun f hf => (⟨(M1 f hf).1.only Q3, (M1 f hf).2⟩ : FD.ok x3 f ∧ f.off v1)
      have B3 := B3.only Q3 (by simp)
      obtain ⟨A2, c2, rfl, hc2, hm2, R2, _⟩ := V2.form
      refine hK _ _ ?_
      clear hK K
      refine wpAnyE_one 4 rfl (by kernel_rfl) hI3 (fun K hK => ?_)
      rw [if_pos (by kernel_rfl)]
      have R2' : RdX FD.cells x3 A2 fs2 := by obtain ⟨A2', c2', e2, _, _, R2', _⟩ := V2.form; rw [(Value.slice.inj e2).1]; exact R2'
      have l1 : fs1.length = 1 := by have := congrArg List.length hp1; simpa [partsR] using this
      have l2 : fs2.length = 4 := by have := congrArg List.length hp2; simpa [partsR] using this
      refine wp_appX (.tmp 4) (.tmp 6) elemF rfl oneF lenF (by kernel_rfl) V1 A2 c2 fs2 _ rfl (by kernel_rfl) R2' (by simp only [maxLen]; omega) (by omega) P3.size ?_
      intro v7 x4 V7 Q4 G4
      have V7 := V7.out
      have M12 : ∀ f ∈ fs1 ++ fs2, FD.ok x3 f ∧ f.off v1 := fun f hf => by
        rcases List.mem_append.1 hf with hf | hf
        · exact M1 f hf
        · exact ⟨M2 f hf, off_plain (sizes_plain hp2 f hf).1 (sizes_plain hp2 f hf).2⟩
      have M7 := okOff_app Q4 G4.out M12
      have P4 : Only [] w x4 := P3.trans Q4 (fun x hx => .inr (V1.block x (by simpa using hx)).1)
      have hI4 : (fun w' : World => Blk w' g 119 m.cells) x4 := hg.only P4 (by simp)
      have B3 := B3.only Q4 (fun hx => by have := o1 q3 (by simpa using hx); omega)
      refine hK _ _ ?_
      clear hK K
      refine wpAnyE_one 12 rfl (by kernel_rfl) hI4 (fun K hK => ?_)
      rw [if_pos (by kernel_rfl)]
      refine wp_appX (.tmp 7) (.tmp 14) elemF rfl oneF lenF (by kernel_rfl) V7 (some ⟨q3, 0, none⟩) 1 [⟨0, 0, m.mA, m.mc, m.modes, none, 0, []⟩] 1 rfl (by kernel_rfl) (rdX_one B3) (by simp only [maxLen, List.length_append, List.length_singleton]; omega) (by simp only [List.length_append, List.length_singleton]; omega) P4.size ?_
      intro v12 x5 V12 Q5 G5
      have V12 := V12.out
      have M12' := okOff_app Q5 G5.out M7
      have PE : Only [] w x5 := P4.trans Q5 (fun x hx => .inr (V7.block x (by simpa using hx)).1)
      have hIE : (fun w' : World => Blk w' g 119 m.cells) x5 := hg.only PE (by simp)
      refine hK _ _ ?_
      clear hK K
      refine wpAnyE_take 13 (v := v12) rfl (by kernel_rfl) (fun _ _ _ h => h) hIE (fun w' hw' => Or.inl ⟨by kernel_rfl, Or.inl (by go_simp)⟩) ?_
      refine wpAnyE_end (by kernel_rfl) hIE ?_
      simp only [Exit.then]
      go_wp2_with fail
      go_ret
      exact pty_end hm PE V12 M12' hp1 hp2 hn1 hn2
  · rw [if_pos (by kernel_rfl)]
    have Q1 : Only [] w.drew ((w.alloc (.cells #[.int .i64 0, .int .u32 0, .slice m.mA m.modes.length m.mc, .slice none 0 0] 123)).drew) := (Only.refl [] w.drew).alloc _
    have B3 : Blk ((w.alloc (.cells #[.int .i64 0, .int .u32 0, .slice m.mA m.modes.length m.mc, .slice none 0 0] 123)).drew) w.heap.size 123 [.int .i64 0, .int .u32 0, .slice m.mA m.modes.length m.mc, .slice none 0 0] := Blk.new w.drew _ _
    obtain ⟨q3, hq3⟩ : ∃ q, q = w.heap.size := ⟨_, rfl⟩
    have hq3w : w.heap.size ≤ q3 := by have := P0.size; omega
    have hq3' : q3 < ((w.alloc (.cells #[.int .i64 0, .int .u32 0, .slice m.mA m.modes.length m.mc, .slice none 0 0] 123)).drew).heap.size := by rw [hq3]; simp
    go_simp
    obtain ⟨x1, hx1⟩ : ∃ x, x = (w.alloc (.cells #[.int .i64 0, .int .u32 0, .slice m.mA m.modes.length m.mc, .slice none 0 0] 123)).drew := ⟨_, rfl⟩
    rw [← hx1] at Q1 B3 ⊢
    rw [← hx1] at hq3'
    rw [← hq3] at B3
    rw [show (Value.slice (some ⟨w.heap.size, 0, none⟩) 1 1) = Value.slice (some ⟨q3, 0, none⟩) 1 1 by rw [hq3]]
    have P1 : Only [] w x1 := P0.trans Q1 (by simp)
    have hI1 : (fun w' : World => Blk w' g 119 m.cells) x1 := hg.only P1 (by simp)
    have z1 := Q1.size
    replace hx1 := hide hx1
    replace hq3 := hide hq3
    refine hK _ _ ?_
    clear hK K
    refine wpAnyE_one 1 rfl (by kernel_rfl) hI1 (fun K hK => ?_)
    rw [if_pos (by kernel_rfl)]
    have T := getTextR_any m g x1 hI1 hs
    go_simp
    go_call T as e x2 ⟨Q2, v1, fs1, rfl, V1, hp1, M1, hn1⟩
    clear T
    have o1 := OwnF.block V1
    replace V1 : OwnX FD.cells 123 4 x2 w.heap.size v1 fs1 := OwnX.mono (cf := FD.cells) V1 P1.size
    have P2 : Only [] w x2 := P1.trans Q2 (by simp)
    have hI2 : (fun w' : World => Blk w' g 119 m.cells) x2 := hg.only P2 (by simp)
    have z2 := Q2.size
    have B3 := B3.only Q2 (by simp)
    refine hK _ _ ?_
    clear hK K
    refine wpAnyE_one 3 rfl (by kernel_rfl) hI2 (fun K hK => ?_)
    rw [if_pos (by kernel_rfl)]
    have T := getSizeR_any m g x2 hI2 hm.nums
    go_simp
    go_call T as e x3 ⟨Q3, v2, fs2, rfl, V2, hp2, M2x, hn2⟩
    clear T
    replace V2 : OwnX FD.cells 123 4 x3 w.heap.size v2 fs2 := OwnX.mono (cf := FD.cells) V2 P2.size
    have M2 := fun f hf => (M2x f hf).1
    clear M2x
    have P3 : Only [] w x3 := P2.trans Q3 (by simp)
    have hI3 : (fun w' : World => Blk w' g 119 m.cells) x3 := hg.only P3 (by simp)
    have z3 := Q3.size
    have V1 := V1.only Q3
    have M1 := fun f hf => (⟨(M1 f hf).1.only Q3, (M1 f hf).2⟩ : FD.ok x3 f ∧ f.off v1)
    have B3 := B3.only Q3 (by simp)
    obtain ⟨A2, c2, rfl, hc2, hm2, R2, _⟩ := V2.form
    refine hK _ _ ?_
    clear hK K
    refine wpAnyE_one 4 rfl (by kernel_rfl) hI3 (fun K hK => ?_)
    rw [if_pos (by kernel_rfl)]
    have R2' : RdX FD.cells x3 A2 fs2 := by obtain ⟨A2', c2', e2, _, _, R2', _⟩ := V2.form; rw [(Value.slice.inj e2).1]; exact R2'
    have l1 : fs1.length = 1 := by have := congrArg List.length hp1; simpa [partsR] using this
    have l2 : fs2.length = 4 := by have := congrArg List.length hp2; simpa [partsR] using this
    refine wp_appX (.tmp 4) (.tmp 6) elemF rfl oneF lenF (by kernel_rfl) V1 A2 c2 fs2 _ rfl (by kernel_rfl) R2' (by simp only [maxLen]; omega) (by omega) P3.size ?_
    intro v7 x4 V7 Q4 G4
    have V7 := V7.out
    have M12 : ∀ f ∈ fs1 ++ fs2, FD.ok x3 f ∧ f.off v1 := fun f hf => by
      rcases List.mem_append.1 hf with hf | hf
      · exact M1 f hf
      · exact ⟨M2 f hf, off_plain (sizes_plain hp2 f hf).1 (sizes_plain hp2 f hf).2⟩
    have M7 := okOff_app Q4 G4.out M12
    have P4 : Only [] w x4 := P3.trans Q4 (fun x hx => .inr (V1.block x (by simpa using hx)).1)
    have hI4 : (fun w' : World => Blk w' g 119 m.cells) x4 := hg.only P4 (by simp)
    have B3 := B3.only Q4 (fun hx => by have := o1 q3 (by simpa using hx); omega)
    refine hK _ _ ?_
    clear hK K
    refine wpAnyE_one 12 rfl (by kernel_rfl) hI4 (fun K hK => ?_)
    rw [if_pos (by kernel_rfl)]
    refine wp_appX (.tmp 7) (.tmp 14) elemF rfl oneF lenF (by kernel_rfl) V7 (some ⟨q3, 0, none⟩) 1 [⟨0, 0, m.mA, m.mc, m.modes, none, 0, []⟩] 1 rfl (by kernel_rfl) (rdX_one B3) (by simp only [maxLen, List.length_append, List.length_singleton]; omega) (by simp only [List.length_append, List.length_singleton]; omega) P4.size ?_
    intro v12 x5 V12 Q5 G5
    have V12 := V12.out
    have M12' := okOff_app Q5 G5.out M7
    have PE : Only [] w x5 := P4.trans Q5 (fun x hx => .inr (V7.block x (by simpa using hx)).1)
    have hIE : (fun w' : World => Blk w' g 119 m.cells) x5 := hg.only PE (by simp)
    refine hK _ _ ?_
    clear hK K
    refine wpAnyE_take 13 (v := v12) rfl (by kernel_rfl) (fun _ _ _ h => h) hIE (fun w' hw' => Or.inl ⟨by kernel_rfl, Or.inl (by go_simp)⟩) ?_
    refine wpAnyE_end (by kernel_rfl) hIE ?_
    simp only [Exit.then]
    go_wp2_with fail
    go_ret
    exact pty_end hm PE V12 M12' hp1 hp2 hn1 hn2
end
end Go.Proofs.YtdplnedpbkpgpaaGreatDoor

/- Layer 29: what a watch hears of a channel; for all watches and messages; no condition but that the message lies in memory · Layer 29: what a watch hears for all: the end, answers to requests, that an Open failed; for all watches and messages; no condition · Layer 29: what a watch hears: that an Open failed; for all watches and messages; no condition · Layer 29: what a watch hears: that a channel is open; for all watches and messages; no condition · Layer 29: the keys of a map, sorted; for maps of ours; no condition but that they are not too many · Layer 29: a new watch, whether the server has left, the channels there were; for all watches; no condition but that they are not too many · Layer 29: what is more than is looked at, the ends as the document has them, the same ends; no condition but that the lines lie in memory. -/
import Derived.Test.YtkgikodiecmakaaGreatDoorTqC
import Derived.Test.YtkgikodiecmakaaGreatDoorSrJ
import Derived.Test.YtkgikodiecmakaaGreatDoorEngK
namespace Go.Proofs.YtkgikodiecmakaaGreatDoor
set_option linter.all false
set_option maxRecDepth 100000
open Go.RowKit Go.MapKept

def NotAll (k : Int) : Prop := k ≠ 1 ∧ k ≠ 81 ∧ k ≠ 82 ∧ k ≠ 91 ∧ k ≠ 92
/-- The server has left. -/
theorem hears_dead (M : WM) (p : Nat) (m : MD) (w : World) (h : WAt w p M) (hd : M.dead = true) (ok : Bool) : Calls Tryz.prog 10 #[ptrV p, m.val] w (WtPost M p (hearsS M.abs m ok).1 (.int .i64 (hearsS M.abs m ok).2) w) := by
  have eS : hearsS M.abs m ok = (M.abs, 9) := by unfold hearsS; rw [if_pos (show M.abs.dead = true from hd)]
  rw [eS]
  have hb := h.blk
  obtain ⟨ob, eb, nb, opens, glob, ends, nums, dead⟩ := M
  dsimp only at hd
  subst hd
  refine Hs.enter Tryz.func10 [] [p] [.b false 55 (wS ⟨ob, eb, nb, opens, glob, ends, nums, true⟩)] [.c (.p 0 0), .g (mdS m)] (Mem.rdOne w p hb) (by kernel_rfl) (by kernel_rfl) ?_
  refine Hs.run1 300 (fun _ => by kernel_rfl) fun b0 => ?_
  refine Hs.condF (by kernel_rfl) ?_
  refine Hs.run0 300 (fun _ => by kernel_rfl) ?_
  refine Hs.condT (by kernel_rfl) ?_
  refine Hs.run0 300 (fun _ => by kernel_rfl) ?_
  exact Hs.ret (v := .int .i64 9) Tryz.func10 (by kernel_rfl) fun w' H => h.keep H.only _
/-- No channel of that number. -/
theorem hears_no (M : WM) (p : Nat) (m : MD) (w : World) (h : WAt w p M) (hd : M.dead = false) (hk : NotAll m.kind) (he : lookA m.chan M.ends = none) (ok : Bool) : Calls Tryz.prog 10 #[ptrV p, m.val] w (WtPost M p (hearsS M.abs m ok).1 (.int .i64 (hearsS M.abs m ok).2) w) := by
  have eS : hearsS M.abs m ok = (M.abs, if m.kind < 93 ∨ m.kind > 100 then 2 else 8) := by
    obtain ⟨k1, k2, k3, k4, k5⟩ := hk
    unfold hearsS
    rw [if_neg (show ¬ M.abs.dead = true by rw [show M.abs.dead = M.dead from rfl, hd]; decide), if_neg k1, if_neg (fun e => e.elim k2 k3), if_neg k4, if_neg k5]
    rw [show lookA m.chan M.abs.ends = none by unfold WM.abs; dsimp only; rw [lookA_map, he]; rfl]
    split <;> rfl
  rw [eS]
  have hb := h.blk
  have hme := h.me
  have A := apartW h.nd
  have h4 := A.four
  simp only [List.nodup_cons, List.mem_cons, List.not_mem_nil, or_false, not_or] at h4
  have hlook : lookM m.chan (mapA (fun x => ptrV x.1) M.ends) = none := by rw [lookM_A, he]; rfl
  obtain ⟨ob, eb, nb, opens, glob, ends, nums, dead⟩ := M
  dsimp only at *
  subst hd
  have hnd : [p, eb].Nodup := by simp only [List.nodup_cons, List.mem_cons, List.not_mem_nil, or_false, not_or, List.nodup_nil, not_false_eq_true, and_true]; exact h4.1.2.1
  refine Hs.enter Tryz.func10 [] [p, eb] [.b false 55 (wS ⟨ob, eb, nb, opens, glob, ends, nums, false⟩), HB.mpr (kI .u32) eb (mapA (fun x => ptrV x.1) ends)] [.c (.p 0 0), .g (mdS m)] (Mem.startW [] (β := [p, eb]) (hp := [.b false 55 (wS ⟨ob, eb, nb, opens, glob, ends, nums, false⟩), HB.mpr (kI .u32) eb (mapA (fun x => ptrV x.1) ends)]) rfl hnd ⟨hb, ⟨hme, fun a ha => by injection ha with ha; subst ha; exact hme.lt⟩, trivial⟩ (by simp [wrN, HB.wr, HB.mpr])) (by kernel_rfl) (by kernel_rfl) ?_
  refine Hs.run1 300 (fun _ => by kernel_rfl) fun b0 => ?_
  refine Hs.condF (by kernel_rfl) ?_
  refine Hs.run0 300 (fun _ => by kernel_rfl) ?_
  refine Hs.condF (by kernel_rfl) ?_
  refine Hs.run0 300 (fun _ => by kernel_rfl) ?_
  refine Hs.any [0, 2] (by kernel_rfl) ?_
  refine Hs.run0 300 (fun _ => by kernel_rfl) ?_
  refine Hs.callQ (X := Nat) (fun r => some ⟨r, 0, none⟩) (fun r => .map (some r)) (fun r w' => MapM (kI .i64) w' r (forL p)) (fun r => MapM.st) (fun w' H => forL_any p w') (by kernel_rfl) (by kernel_rfl) fun r => ?_
  refine Hs.run0 300 (fun _ => by kernel_rfl) ?_
  refine Hs.getM (r := r) (es := forL p) keyH m.kind true (.tuple #[.nilFunc, .bool false]) (by rw [look_for_no m.kind p hk]; rfl) (by kernel_rfl) (fun w' H => H.mapM 3 (by kernel_rfl)) ?_
  refine Hs.run0 300 (fun _ => by kernel_rfl) ?_
  refine Hs.condF (by kernel_rfl) ?_
  refine Hs.run0 300 (fun _ => by kernel_rfl) ?_
  refine Hs.any [0, 1, 2] (by kernel_rfl) ?_
  refine Hs.run0 300 (fun _ => by kernel_rfl) ?_
  refine Hs.getM (r := eb) (es := mapA (fun x => ptrV x.1) ends) keyEn m.chan true (.tuple #[.pointer none, .bool false]) (by rw [hlook]; rfl) (by kernel_rfl) (fun w' H => H.mapR 1 (by kernel_rfl)) ?_
  refine Hs.run0 300 (fun _ => by kernel_rfl) ?_
  refine Hs.condT (by kernel_rfl) ?_
  refine Hs.run1 300 (fun _ => by kernel_rfl) fun q => ?_
  refine Hs.any [2] (by kernel_rfl) ?_
  refine Hs.run0 300 (fun _ => by kernel_rfl) ?_
  refine Hs.callQ (X := Nat) (fun r => some ⟨r, 0, none⟩) (fun r => .map (some r)) (fun r w' => MapM (kI .i64) w' r (ofL q)) (fun r => MapM.st) (fun w' H => ofL_any q w') (by kernel_rfl) (by kernel_rfl) fun r2 => ?_
  refine Hs.run0 300 (fun _ => by kernel_rfl) ?_
  by_cases hr : m.kind < 93 ∨ m.kind > 100
  · rw [if_pos hr]
    refine Hs.getM (r := r2) (es := ofL q) keyH m.kind true (.tuple #[.nilFunc, .bool false]) (by rw [look_of_no m.kind q hr]; rfl) (by kernel_rfl) (fun w' H => H.mapM 5 (by kernel_rfl)) ?_
    refine Hs.run0 300 (fun _ => by kernel_rfl) ?_
    refine Hs.condT (by kernel_rfl) ?_
    refine Hs.run0 300 (fun _ => by kernel_rfl) ?_
    exact Hs.ret (v := .int .i64 2) Tryz.func10 (by kernel_rfl) fun w' H => h.keep H.only _
  · rw [if_neg hr]
    refine Hs.getM (r := r2) (es := ofL q) keyH m.kind true (.tuple #[mV (takeF m.kind) q, .bool true]) (by rw [look_of m.kind q (by omega) (by omega)]; rfl) (by kernel_rfl) (fun w' H => H.mapM 5 (by kernel_rfl)) ?_
    refine Hs.run0 300 (fun _ => by kernel_rfl) ?_
    refine Hs.condF (by kernel_rfl) ?_
    refine Hs.run0 300 (fun _ => by kernel_rfl) ?_
    refine Hs.condT (by kernel_rfl) ?_
    refine Hs.run0 300 (fun _ => by kernel_rfl) ?_
    exact Hs.ret (v := .int .i64 8) Tryz.func10 (by kernel_rfl) fun w' H => h.keep H.only _
/-- A channel there is. -/
theorem hears_end (M : WM) (p : Nat) (m : MD) (i0 : Int) (w : World) (h : WAt w p M) (hd : M.dead = false) (hk : NotAll m.kind) {b : Nat} {x : EN} (he : lookA m.chan M.ends = some (b, x)) (hx : U32 x.packet) (hm : Keeps w (M.fp p) (MsgIn i0 m)) : Calls Tryz.prog 10 #[ptrV p, m.val] w (WtPost M p (hearsS M.abs m (okEx m)).1 (.int .i64 (hearsS M.abs m (okEx m)).2) w) := by
  have hle : lookA m.chan M.abs.ends = some x := by unfold WM.abs; dsimp only; rw [lookA_map, he]; rfl
  have eS : hearsS M.abs m (okEx m) = if m.kind < 93 ∨ m.kind > 100 then (M.abs, 2) else if x.closed then (M.abs, 9) else ({ M.abs with ends := setA m.chan (endS x m (okEx m)).1 M.abs.ends }, (endS x m (okEx m)).2) := by
    obtain ⟨k1, k2, k3, k4, k5⟩ := hk
    unfold hearsS
    rw [if_neg (show ¬ M.abs.dead = true by rw [show M.abs.dead = M.dead from rfl, hd]; decide), if_neg k1, if_neg (fun e => e.elim k2 k3), if_neg k4, if_neg k5, hle]
  rw [eS]
  have hb := h.blk
  have hme := h.me
  have A := apartW h.nd
  have h4 := A.four
  simp only [List.nodup_cons, List.mem_cons, List.not_mem_nil, or_false, not_or] at h4
  have hbm : b ∈ fpA eFp M.ends := fpA_mem he (by simp [eFp])
  have hb4 := A.fe b hbm
  simp only [List.mem_cons, List.not_mem_nil, or_false, not_or] at hb4
  have hE : Blk w b 49 x.cells := h.es _ (lookA_mem he)
  have hlook : lookM m.chan (mapA (fun x => ptrV x.1) M.ends) = some (ptrV b) := by rw [lookM_A, he]; rfl
  have hmb : Keeps w [b] (MsgIn i0 m) := hm.mono fun y hy => by
    rw [List.mem_singleton] at hy; subst hy
    simp only [WM.fp, List.mem_append]
    exact .inr (.inr hbm)
  have hput := fun (w' : World) (x' : EN) (O : Only [p, b] w w') hp hb v => h.putE (x' := x') O he hp hb v
  have hkeep := fun (w' : World) (O : Only [b] w w') (hp : Blk w' b 49 x.cells) v => h.putE (x' := x) (v := v) (O.mono (by simp)) he (Blk.only (L := [b]) h.blk O (by simp only [List.mem_singleton]; exact fun e => hb4.1 e.symm)) hp
  have habs : { M.abs with ends := setA m.chan x M.abs.ends } = M.abs := by
    have e : setA m.chan x M.abs.ends = M.abs.ends := by
      have := setA_same (id : EN → EN) hle (v' := x) rfl
      unfold mapA at this
      simpa using this
    rw [e]
  rw [habs] at hkeep
  have hpne : ∀ w', Only [b] w w' → Blk w' p 55 M.cells := fun w' O => Blk.only (L := [b]) h.blk O (by simp only [List.mem_singleton]; exact fun e => hb4.1 e.symm)
  have hnd : [p, M.eb, b].Nodup := by
    simp only [List.nodup_cons, List.mem_cons, List.not_mem_nil, or_false, not_or, List.nodup_nil, not_false_eq_true, and_true]
    exact ⟨⟨h4.1.2.1, fun e => hb4.1 e.symm⟩, fun e => hb4.2.2.1 e.symm⟩
  clear hle eS hbm
  obtain ⟨ob, eb, nb, opens, glob, ends, nums, dead⟩ := M
  dsimp only at *
  subst hd
  refine Hs.enter Tryz.func10 [b] [p, eb, b] [.b false 55 (wS ⟨ob, eb, nb, opens, glob, ends, nums, false⟩), HB.mpr (kI .u32) eb (mapA (fun x => ptrV x.1) ends), .b true 49 x.sc] [.c (.p 0 0), .g (mdS m)] (Mem.startW [b] (β := [p, eb, b]) (hp := [.b false 55 (wS ⟨ob, eb, nb, opens, glob, ends, nums, false⟩), HB.mpr (kI .u32) eb (mapA (fun x => ptrV x.1) ends), .b true 49 x.sc]) rfl hnd ⟨hb, ⟨hme, fun a ha => by injection ha with ha; subst ha; exact hme.lt⟩, hE, trivial⟩ (by simp [wrN, HB.wr, HB.mpr, HB.blk])) (by kernel_rfl) (by kernel_rfl) ?_
  refine Hs.run1 300 (fun _ => by kernel_rfl) fun b0 => ?_
  refine Hs.condF (by kernel_rfl) ?_
  refine Hs.run0 300 (fun _ => by kernel_rfl) ?_
  refine Hs.condF (by kernel_rfl) ?_
  refine Hs.run0 300 (fun _ => by kernel_rfl) ?_
  refine Hs.any [0, 3] (by kernel_rfl) ?_
  refine Hs.run0 300 (fun _ => by kernel_rfl) ?_
  refine Hs.callQ (X := Nat) (fun r => some ⟨r, 0, none⟩) (fun r => .map (some r)) (fun r w' => MapM (kI .i64) w' r (forL p)) (fun r => MapM.st) (fun w' H => forL_any p w') (by kernel_rfl) (by kernel_rfl) fun r => ?_
  refine Hs.run0 300 (fun _ => by kernel_rfl) ?_
  refine Hs.getM (r := r) (es := forL p) keyH m.kind true (.tuple #[.nilFunc, .bool false]) (by rw [look_for_no m.kind p hk]; rfl) (by kernel_rfl) (fun w' H => H.mapM 4 (by kernel_rfl)) ?_
  refine Hs.run0 300 (fun _ => by kernel_rfl) ?_
  refine Hs.condF (by kernel_rfl) ?_
  refine Hs.run0 300 (fun _ => by kernel_rfl) ?_
  refine Hs.any [0, 1, 3] (by kernel_rfl) ?_
  refine Hs.run0 300 (fun _ => by kernel_rfl) ?_
  refine Hs.getM (r := eb) (es := mapA (fun x => ptrV x.1) ends) keyEn m.chan true (.tuple #[ptrV b, .bool true]) (by rw [hlook]; rfl) (by kernel_rfl) (fun w' H => H.mapR 1 (by kernel_rfl)) ?_
  refine Hs.run0 300 (fun _ => by kernel_rfl) ?_
  refine Hs.condF (by kernel_rfl) ?_
  refine Hs.slot 7 (.c (.p 2 0)) (by kernel_rfl) (by kernel_rfl) ?_
  refine Hs.run0 300 (fun _ => by kernel_rfl) ?_
  refine Hs.any [3] (by kernel_rfl) ?_
  refine Hs.run0 300 (fun _ => by kernel_rfl) ?_
  refine Hs.callQ (X := Nat) (fun r => some ⟨r, 0, none⟩) (fun r => .map (some r)) (fun r w' => MapM (kI .i64) w' r (ofL b)) (fun r => MapM.st) (fun w' H => ofL_any b w') (by kernel_rfl) (by kernel_rfl) fun r2 => ?_
  refine Hs.run0 300 (fun _ => by kernel_rfl) ?_
  by_cases hr : m.kind < 93 ∨ m.kind > 100
  · rw [if_pos hr]
    refine Hs.getM (r := r2) (es := ofL b) keyH m.kind true (.tuple #[.nilFunc, .bool false]) (by rw [look_of_no m.kind b hr]; rfl) (by kernel_rfl) (fun w' H => H.mapM 5 (by kernel_rfl)) ?_
    refine Hs.run0 300 (fun _ => by kernel_rfl) ?_
    refine Hs.condT (by kernel_rfl) ?_
    refine Hs.run0 300 (fun _ => by kernel_rfl) ?_
    exact Hs.ret (v := .int .i64 2) Tryz.func10 (by kernel_rfl) fun w' H => hkeep w' H.only (H.at 2 (wr := true) (T := 49) (cs := x.sc) (by kernel_rfl)) _
  rw [if_neg hr]
  have hT : ∀ w', Only [b] w w' → Blk w' b 49 x.cells → Calls Tryz.prog (takeF m.kind) #[ptrV b, m.val] w' (EnPost b (endS x m (okEx m)) w') := fun w' O hB => take29_any x b m i0 w' hB hx (hmb.go O) (by omega) (by omega)
  obtain ⟨F, hF⟩ : ∃ F, takeF m.kind = F := ⟨_, rfl⟩
  have hFs : F = 30 ∨ F = 31 ∨ F = 32 ∨ F = 33 ∨ F = 34 ∨ F = 35 := by
    rw [← hF]
    unfold takeF
    repeat' split
    all_goals simp
  refine Hs.getM (r := r2) (es := ofL b) keyH m.kind true (.tuple #[mV F b, .bool true]) (by rw [look_of m.kind b (by omega) (by omega), hF]; rfl) (by kernel_rfl) (fun w' H => H.mapM 5 (by kernel_rfl)) ?_
  rw [hF] at hT
  obtain ⟨y, hy⟩ : ∃ y, endS x m (okEx m) = y := ⟨_, rfl⟩
  rw [hy] at hT ⊢
  clear hF hy
  rcases hFs with rfl | rfl | rfl | rfl | rfl | rfl
  · refine Hs.run0 300 (fun _ => by kernel_rfl) ?_
    refine Hs.condF (by kernel_rfl) ?_
    refine Hs.run0 300 (fun _ => by kernel_rfl) ?_
    refine Hs.condF (by kernel_rfl) ?_
    refine Hs.run0 300 (fun _ => by kernel_rfl) ?_
    refine Hs.cond x.closed (by kernel_rfl) (fun hc => ?_) (fun hc => ?_)
    · rw [if_pos hc]
      refine Hs.run0 300 (fun _ => by kernel_rfl) ?_
      exact Hs.ret (v := .int .i64 9) Tryz.func10 (by kernel_rfl) fun w' H => hkeep w' H.only (H.at 2 (wr := true) (T := 49) (cs := x.sc) (by kernel_rfl)) _
    · rw [if_neg (by rw [hc]; simp)]
      refine Hs.run0 300 (fun _ => by kernel_rfl) ?_
      refine Hs.callP (v := .int .i64 y.2) 2 49 y.1.sc (fun w' H => hT w' H.only (H.at 2 (wr := true) (T := 49) (cs := x.sc) (by kernel_rfl))) (by kernel_rfl) (by kernel_rfl) ?_
      refine Hs.run0 300 (fun _ => by kernel_rfl) ?_
      exact Hs.ret (v := .int .i64 y.2) Tryz.func10 (by kernel_rfl) fun w' H => hput w' y.1 (H.only.mono (by simp)) (hpne w' H.only) (H.at 2 (wr := true) (T := 49) (cs := y.1.sc) (by kernel_rfl)) _
  · refine Hs.run0 300 (fun _ => by kernel_rfl) ?_
    refine Hs.condF (by kernel_rfl) ?_
    refine Hs.run0 300 (fun _ => by kernel_rfl) ?_
    refine Hs.condF (by kernel_rfl) ?_
    refine Hs.run0 300 (fun _ => by kernel_rfl) ?_
    refine Hs.cond x.closed (by kernel_rfl) (fun hc => ?_) (fun hc => ?_)
    · rw [if_pos hc]
      refine Hs.run0 300 (fun _ => by kernel_rfl) ?_
      exact Hs.ret (v := .int .i64 9) Tryz.func10 (by kernel_rfl) fun w' H => hkeep w' H.only (H.at 2 (wr := true) (T := 49) (cs := x.sc) (by kernel_rfl)) _
    · rw [if_neg (by rw [hc]; simp)]
      refine Hs.run0 300 (fun _ => by kernel_rfl) ?_
      refine Hs.callP (v := .int .i64 y.2) 2 49 y.1.sc (fun w' H => hT w' H.only (H.at 2 (wr := true) (T := 49) (cs := x.sc) (by kernel_rfl))) (by kernel_rfl) (by kernel_rfl) ?_
      refine Hs.run0 300 (fun _ => by kernel_rfl) ?_
      exact Hs.ret (v := .int .i64 y.2) Tryz.func10 (by kernel_rfl) fun w' H => hput w' y.1 (H.only.mono (by simp)) (hpne w' H.only) (H.at 2 (wr := true) (T := 49) (cs := y.1.sc) (by kernel_rfl)) _
  · refine Hs.run0 300 (fun _ => by kernel_rfl) ?_
    refine Hs.condF (by kernel_rfl) ?_
    refine Hs.run0 300 (fun _ => by kernel_rfl) ?_
    refine Hs.condF (by kernel_rfl) ?_
    refine Hs.run0 300 (fun _ => by kernel_rfl) ?_
    refine Hs.cond x.closed (by kernel_rfl) (fun hc => ?_) (fun hc => ?_)
    · rw [if_pos hc]
      refine Hs.run0 300 (fun _ => by kernel_rfl) ?_
      exact Hs.ret (v := .int .i64 9) Tryz.func10 (by kernel_rfl) fun w' H => hkeep w' H.only (H.at 2 (wr := true) (T := 49) (cs := x.sc) (by kernel_rfl)) _
    · rw [if_neg (by rw [hc]; simp)]
      refine Hs.run0 300 (fun _ => by kernel_rfl) ?_
      refine Hs.callP (v := .int .i64 y.2) 2 49 y.1.sc (fun w' H => hT w' H.only (H.at 2 (wr := true) (T := 49) (cs := x.sc) (by kernel_rfl))) (by kernel_rfl) (by kernel_rfl) ?_
      refine Hs.run0 300 (fun _ => by kernel_rfl) ?_
      exact Hs.ret (v := .int .i64 y.2) Tryz.func10 (by kernel_rfl) fun w' H => hput w' y.1 (H.only.mono (by simp)) (hpne w' H.only) (H.at 2 (wr := true) (T := 49) (cs := y.1.sc) (by kernel_rfl)) _
  · refine Hs.run0 300 (fun _ => by kernel_rfl) ?_
    refine Hs.condF (by kernel_rfl) ?_
    refine Hs.run0 300 (fun _ => by kernel_rfl) ?_
    refine Hs.condF (by kernel_rfl) ?_
    refine Hs.run0 300 (fun _ => by kernel_rfl) ?_
    refine Hs.cond x.closed (by kernel_rfl) (fun hc => ?_) (fun hc => ?_)
    · rw [if_pos hc]
      refine Hs.run0 300 (fun _ => by kernel_rfl) ?_
      exact Hs.ret (v := .int .i64 9) Tryz.func10 (by kernel_rfl) fun w' H => hkeep w' H.only (H.at 2 (wr := true) (T := 49) (cs := x.sc) (by kernel_rfl)) _
    · rw [if_neg (by rw [hc]; simp)]
      refine Hs.run0 300 (fun _ => by kernel_rfl) ?_
      refine Hs.callP (v := .int .i64 y.2) 2 49 y.1.sc (fun w' H => hT w' H.only (H.at 2 (wr := true) (T := 49) (cs := x.sc) (by kernel_rfl))) (by kernel_rfl) (by kernel_rfl) ?_
      refine Hs.run0 300 (fun _ => by kernel_rfl) ?_
      exact Hs.ret (v := .int .i64 y.2) Tryz.func10 (by kernel_rfl) fun w' H => hput w' y.1 (H.only.mono (by simp)) (hpne w' H.only) (H.at 2 (wr := true) (T := 49) (cs := y.1.sc) (by kernel_rfl)) _
  · refine Hs.run0 300 (fun _ => by kernel_rfl) ?_
    refine Hs.condF (by kernel_rfl) ?_
    refine Hs.run0 300 (fun _ => by kernel_rfl) ?_
    refine Hs.condF (by kernel_rfl) ?_
    refine Hs.run0 300 (fun _ => by kernel_rfl) ?_
    refine Hs.cond x.closed (by kernel_rfl) (fun hc => ?_) (fun hc => ?_)
    · rw [if_pos hc]
      refine Hs.run0 300 (fun _ => by kernel_rfl) ?_
      exact Hs.ret (v := .int .i64 9) Tryz.func10 (by kernel_rfl) fun w' H => hkeep w' H.only (H.at 2 (wr := true) (T := 49) (cs := x.sc) (by kernel_rfl)) _
    · rw [if_neg (by rw [hc]; simp)]
      refine Hs.run0 300 (fun _ => by kernel_rfl) ?_
      refine Hs.callP (v := .int .i64 y.2) 2 49 y.1.sc (fun w' H => hT w' H.only (H.at 2 (wr := true) (T := 49) (cs := x.sc) (by kernel_rfl))) (by kernel_rfl) (by kernel_rfl) ?_
      refine Hs.run0 300 (fun _ => by kernel_rfl) ?_
      exact Hs.ret (v := .int .i64 y.2) Tryz.func10 (by kernel_rfl) fun w' H => hput w' y.1 (H.only.mono (by simp)) (hpne w' H.only) (H.at 2 (wr := true) (T := 49) (cs := y.1.sc) (by kernel_rfl)) _
  · refine Hs.run0 300 (fun _ => by kernel_rfl) ?_
    refine Hs.condF (by kernel_rfl) ?_
    refine Hs.run0 300 (fun _ => by kernel_rfl) ?_
    refine Hs.condF (by kernel_rfl) ?_
    refine Hs.run0 300 (fun _ => by kernel_rfl) ?_
    refine Hs.cond x.closed (by kernel_rfl) (fun hc => ?_) (fun hc => ?_)
    · rw [if_pos hc]
      refine Hs.run0 300 (fun _ => by kernel_rfl) ?_
      exact Hs.ret (v := .int .i64 9) Tryz.func10 (by kernel_rfl) fun w' H => hkeep w' H.only (H.at 2 (wr := true) (T := 49) (cs := x.sc) (by kernel_rfl)) _
    · rw [if_neg (by rw [hc]; simp)]
      refine Hs.run0 300 (fun _ => by kernel_rfl) ?_
      refine Hs.callP (v := .int .i64 y.2) 2 49 y.1.sc (fun w' H => hT w' H.only (H.at 2 (wr := true) (T := 49) (cs := x.sc) (by kernel_rfl))) (by kernel_rfl) (by kernel_rfl) ?_
      refine Hs.run0 300 (fun _ => by kernel_rfl) ?_
      exact Hs.ret (v := .int .i64 y.2) Tryz.func10 (by kernel_rfl) fun w' H => hput w' y.1 (H.only.mono (by simp)) (hpne w' H.only) (H.at 2 (wr := true) (T := 49) (cs := y.1.sc) (by kernel_rfl)) _
end Go.Proofs.YtkgikodiecmakaaGreatDoor

namespace Go.Proofs.YtkgikodiecmakaaGreatDoor
set_option linter.all false
set_option maxRecDepth 100000
open Go.RowKit Go.MapKept

theorem hears_left (M : WM) (p : Nat) (m : MD) (w : World) (h : WAt w p M) (hd : M.dead = false) (hk : m.kind = 1) (ok : Bool) : Calls Tryz.prog 10 #[ptrV p, m.val] w (WtPost M p (hearsS M.abs m ok).1 (.int .i64 (hearsS M.abs m ok).2) w) := by
  have eS : hearsS M.abs m ok = ({ M.abs with dead := true }, 0) := by
    unfold hearsS
    rw [if_neg (show ¬ M.abs.dead = true by rw [show M.abs.dead = M.dead from rfl, hd]; decide), if_pos hk]
  rw [eS]
  have hb := h.blk
  have hput := fun (w' : World) (O : Only [p] w w') hp v => h.putP (g := M.glob) (d := true) O hp v
  obtain ⟨ob, eb, nb, opens, glob, ends, nums, dead⟩ := M
  dsimp only at *
  subst hd
  refine Hs.enter Tryz.func10 [p] [p] [.b true 55 (wS ⟨ob, eb, nb, opens, glob, ends, nums, false⟩)] [.c (.p 0 0), .g (mdS m)] (Mem.one w p hb) (by kernel_rfl) (by kernel_rfl) ?_
  refine Hs.run1 300 (fun _ => by kernel_rfl) fun b0 => ?_
  refine Hs.condF (by kernel_rfl) ?_
  refine Hs.run0 300 (fun _ => by kernel_rfl) ?_
  refine Hs.condF (by kernel_rfl) ?_
  refine Hs.run0 300 (fun _ => by kernel_rfl) ?_
  refine Hs.any [0, 1] (by kernel_rfl) ?_
  refine Hs.run0 300 (fun _ => by kernel_rfl) ?_
  refine Hs.callQ (X := Nat) (fun r => some ⟨r, 0, none⟩) (fun r => .map (some r)) (fun r w' => MapM (kI .i64) w' r (forL p)) (fun r => MapM.st) (fun w' H => forL_any p w') (by kernel_rfl) (by kernel_rfl) fun r => ?_
  refine Hs.run0 300 (fun _ => by kernel_rfl) ?_
  refine Hs.getM (r := r) (es := forL p) keyH m.kind true (.tuple #[mV 26 p, .bool true]) (by rw [hk]; rfl) (by kernel_rfl) (fun w' H => H.mapM 2 (by kernel_rfl)) ?_
  refine Hs.run0 300 (fun _ => by kernel_rfl) ?_
  refine Hs.condT (by kernel_rfl) ?_
  refine Hs.run0 300 (fun _ => by kernel_rfl) ?_
  refine Hs.inl Tryz.func26 [.c (.p 0 0), .g (mdS m)] (by kernel_rfl) (by kernel_rfl) ?_
  refine Hs.run1 300 (fun _ => by kernel_rfl) fun b1 => ?_
  refine Hs.retI Tryz.func26 (by kernel_rfl) (by kernel_rfl) (by kernel_rfl) ?_
  refine Hs.run0 300 (fun _ => by kernel_rfl) ?_
  exact Hs.ret (v := .int .i64 0) Tryz.func10 (by kernel_rfl) fun w' H => hput w' H.only (H.at 0 (wr := true) (T := 55) (cs := wS ⟨ob, eb, nb, opens, glob, ends, nums, true⟩) (by kernel_rfl)) _
theorem hears_global (M : WM) (p : Nat) (m : MD) (w : World) (h : WAt w p M) (hd : M.dead = false) (hk : m.kind = 81 ∨ m.kind = 82) (ok : Bool) : Calls Tryz.prog 10 #[ptrV p, m.val] w (WtPost M p (hearsS M.abs m ok).1 (.int .i64 (hearsS M.abs m ok).2) w) := by
  have eS : hearsS M.abs m ok = if M.glob = 0 then (M.abs, 9) else ({ M.abs with glob := IntKind.i64.wrap (M.glob - 1) }, 0) := by
    unfold hearsS
    rw [if_neg (show ¬ M.abs.dead = true by rw [show M.abs.dead = M.dead from rfl, hd]; decide), if_neg (by rcases hk with hk | hk <;> rw [hk] <;> decide), if_pos hk]
    rfl
  rw [eS]
  have hb := h.blk
  have hput := fun (w' : World) (g : Int) (O : Only [p] w w') hp v => h.putP (g := g) (d := M.dead) O hp v
  have hlook : lookM m.kind (forL p) = some (mV 27 p) := by rcases hk with hk | hk <;> rw [hk] <;> rfl
  obtain ⟨ob, eb, nb, opens, glob, ends, nums, dead⟩ := M
  dsimp only at *
  subst hd
  refine Hs.enter Tryz.func10 [p] [p] [.b true 55 (wS ⟨ob, eb, nb, opens, glob, ends, nums, false⟩)] [.c (.p 0 0), .g (mdS m)] (Mem.one w p hb) (by kernel_rfl) (by kernel_rfl) ?_
  refine Hs.run1 300 (fun _ => by kernel_rfl) fun b0 => ?_
  refine Hs.condF (by kernel_rfl) ?_
  refine Hs.run0 300 (fun _ => by kernel_rfl) ?_
  refine Hs.condF (by kernel_rfl) ?_
  refine Hs.run0 300 (fun _ => by kernel_rfl) ?_
  refine Hs.any [0, 1] (by kernel_rfl) ?_
  refine Hs.run0 300 (fun _ => by kernel_rfl) ?_
  refine Hs.callQ (X := Nat) (fun r => some ⟨r, 0, none⟩) (fun r => .map (some r)) (fun r w' => MapM (kI .i64) w' r (forL p)) (fun r => MapM.st) (fun w' H => forL_any p w') (by kernel_rfl) (by kernel_rfl) fun r => ?_
  refine Hs.run0 300 (fun _ => by kernel_rfl) ?_
  refine Hs.getM (r := r) (es := forL p) keyH m.kind true (.tuple #[mV 27 p, .bool true]) (by rw [hlook]; rfl) (by kernel_rfl) (fun w' H => H.mapM 2 (by kernel_rfl)) ?_
  refine Hs.run0 300 (fun _ => by kernel_rfl) ?_
  refine Hs.condT (by kernel_rfl) ?_
  refine Hs.run0 300 (fun _ => by kernel_rfl) ?_
  refine Hs.inl Tryz.func27 [.c (.p 0 0), .g (mdS m)] (by kernel_rfl) (by kernel_rfl) ?_
  refine Hs.run1 300 (fun _ => by kernel_rfl) fun b1 => ?_
  refine Hs.condP (glob = 0) (by kernel_rfl) (fun hg => ?_) (fun hg => ?_)
  · rw [if_pos hg]
    refine Hs.run0 300 (fun _ => by kernel_rfl) ?_
    refine Hs.retI Tryz.func27 (by kernel_rfl) (by kernel_rfl) (by kernel_rfl) ?_
    refine Hs.run0 300 (fun _ => by kernel_rfl) ?_
    exact Hs.ret (v := .int .i64 9) Tryz.func10 (by kernel_rfl) fun w' H => hput w' glob H.only (H.at 0 (wr := true) (T := 55) (cs := wS ⟨ob, eb, nb, opens, glob, ends, nums, false⟩) (by kernel_rfl)) _
  · rw [if_neg hg]
    refine Hs.run0 300 (fun _ => by kernel_rfl) ?_
    refine Hs.retI Tryz.func27 (by kernel_rfl) (by kernel_rfl) (by kernel_rfl) ?_
    refine Hs.run0 300 (fun _ => by kernel_rfl) ?_
    exact Hs.ret (v := .int .i64 0) Tryz.func10 (by kernel_rfl) fun w' H => hput w' _ H.only (H.at 0 (wr := true) (T := 55) (cs := wS ⟨ob, eb, nb, opens, IntKind.i64.wrap (glob - 1), ends, nums, false⟩) (by kernel_rfl)) _
end Go.Proofs.YtkgikodiecmakaaGreatDoor

namespace Go.Proofs.YtkgikodiecmakaaGreatDoor
set_option linter.all false
set_option maxRecDepth 100000
open Go.RowKit Go.MapKept

theorem WAt.osel {w : World} {p : Nat} {M : WM} (h : WAt w p M) (s : Int) : ∃ o : OS, (lookA s M.opens).getD ⟨none, 0, []⟩ = o ∧ o.at w ∧ (∀ y ∈ o.fp, ∃ o', lookA s M.opens = some o' ∧ y ∈ o'.fp) ∧ (lookM s (mapA OS.val M.opens)).getD (.slice none 0 0) = o.val ∧ ((lookA s M.opens).map OS.l).getD [] = o.l := by
  cases e : lookA s M.opens with
  | none => exact ⟨⟨none, 0, []⟩, rfl, OwnO.none_, fun y hy => by simp [OS.fp, bkO] at hy, by rw [lookM_A, e]; rfl, rfl⟩
  | some o => exact ⟨o, rfl, h.os _ (lookA_mem e), fun y hy => ⟨_, rfl, hy⟩, by rw [lookM_A, e]; rfl, rfl⟩
theorem first_nil {M : WM} {s : Int} (h : ((lookA s M.opens).map OS.l).getD [] = []) : firstS M.abs s = none := by
  unfold firstS WM.abs
  dsimp only
  rw [lookA_map]
  cases e : (lookA s M.opens).map OS.l with
  | none => rfl
  | some l => rw [e] at h; simp at h; subst h; rfl
theorem first_cons {M : WM} {s : Int} {x : Int × Int} {l : List (Int × Int)} (h : ((lookA s M.opens).map OS.l).getD [] = x :: l) : firstS M.abs s = some (x, l) := by
  unfold firstS WM.abs
  dsimp only
  rw [lookA_map]
  cases e : (lookA s M.opens).map OS.l with
  | none => rw [e] at h; cases h
  | some l' => rw [e] at h; simp at h; subst h; rfl
theorem hears_fail0 (M : WM) (p : Nat) (m : MD) (w : World) (h : WAt w p M) (hd : M.dead = false) (hk : m.kind = 92) (hn : ((lookA m.chan M.opens).map OS.l).getD [] = []) (ok : Bool) : Calls Tryz.prog 10 #[ptrV p, m.val] w (WtPost M p (hearsS M.abs m ok).1 (.int .i64 (hearsS M.abs m ok).2) w) := by
  have eS : hearsS M.abs m ok = (M.abs, 8) := by
    unfold hearsS
    rw [if_neg (show ¬ M.abs.dead = true by rw [show M.abs.dead = M.dead from rfl, hd]; decide), if_neg (by rw [hk]; decide), if_neg (by rw [hk]; decide), if_neg (by rw [hk]; decide), if_pos hk, first_nil hn]
  rw [eS]
  have hb := h.blk
  have hmo := h.mo
  obtain ⟨o, -, hoo, -, hlook, hol⟩ := h.osel m.chan
  rw [hn] at hol
  obtain ⟨oA, oc, ol⟩ := o
  dsimp only at hol
  subst hol
  have hl : (Value.slice oA ([] : List (Int × Int)).length oc) = .slice oA 0 oc := rfl
  obtain ⟨ob, eb, nb, opens, glob, ends, nums, dead⟩ := M
  dsimp only at *
  subst hd
  refine Hs.enter Tryz.func10 [] [p] [.b false 55 (wS ⟨ob, eb, nb, opens, glob, ends, nums, false⟩)] [.c (.p 0 0), .g (mdS m)] (Mem.rdOne w p hb) (by kernel_rfl) (by kernel_rfl) ?_
  refine Hs.run1 300 (fun _ => by kernel_rfl) fun b0 => ?_
  refine Hs.condF (by kernel_rfl) ?_
  refine Hs.run0 300 (fun _ => by kernel_rfl) ?_
  refine Hs.condF (by kernel_rfl) ?_
  refine Hs.run0 300 (fun _ => by kernel_rfl) ?_
  refine Hs.any [0, 1] (by kernel_rfl) ?_
  refine Hs.run0 300 (fun _ => by kernel_rfl) ?_
  refine Hs.callQ (X := Nat) (fun r => some ⟨r, 0, none⟩) (fun r => .map (some r)) (fun r w' => MapM (kI .i64) w' r (forL p)) (fun r => MapM.st) (fun w' H => forL_any p w') (by kernel_rfl) (by kernel_rfl) fun r => ?_
  refine Hs.run0 300 (fun _ => by kernel_rfl) ?_
  refine Hs.getM (r := r) (es := forL p) keyH m.kind true (.tuple #[mV 29 p, .bool true]) (by rw [hk]; rfl) (by kernel_rfl) (fun w' H => H.mapM 2 (by kernel_rfl)) ?_
  refine Hs.run0 300 (fun _ => by kernel_rfl) ?_
  refine Hs.condT (by kernel_rfl) ?_
  refine Hs.run0 300 (fun _ => by kernel_rfl) ?_
  refine Hs.inl Tryz.func29 [.c (.p 0 0), .g (mdS m)] (by kernel_rfl) (by kernel_rfl) ?_
  refine Hs.run1 300 (fun _ => by kernel_rfl) fun b1 => ?_
  refine Hs.inl Tryz.func43 [.c (.p 0 0), .c (.v (.int .u32 m.chan))] (by kernel_rfl) (by kernel_rfl) ?_
  refine Hs.run1 300 (fun _ => by kernel_rfl) fun b2 => ?_
  refine Hs.getM (r := ob) (es := mapA OS.val opens) keyOp m.chan false (.slice oA 0 oc) hlook (by kernel_rfl) (fun w' H => hmo.only H.only (by simp)) ?_
  refine Hs.run0 300 (fun _ => by kernel_rfl) ?_
  refine Hs.condT (by kernel_rfl) ?_
  refine Hs.run0 300 (fun _ => by kernel_rfl) ?_
  refine Hs.retI Tryz.func43 (by kernel_rfl) (by kernel_rfl) (by kernel_rfl) ?_
  refine Hs.run1 300 (fun _ => by kernel_rfl) fun b3 => ?_
  refine Hs.condT (by kernel_rfl) ?_
  refine Hs.run0 300 (fun _ => by kernel_rfl) ?_
  refine Hs.retI Tryz.func29 (by kernel_rfl) (by kernel_rfl) (by kernel_rfl) ?_
  refine Hs.run0 300 (fun _ => by kernel_rfl) ?_
  exact Hs.ret (v := .int .i64 8) Tryz.func10 (by kernel_rfl) fun w' H => h.keep H.only _
/-- An entry of opens turns. -/
theorem WAt.putO {w w' : World} {p : Nat} {M : WM} {L : List Nat} {s : Int} {o : OS} (h : WAt w p M) (O : Only L w w') (hL : ∀ y ∈ L, y = p ∨ y = M.ob ∨ ∃ o', lookA s M.opens = some o' ∧ y ∈ o'.fp) (hB : Blk w' p 55 M.cells) (hM : MapM (kI .u32) w' M.ob (setE s o.val (mapA OS.val M.opens))) (hO : o.at w') (hnew : ∀ y ∈ o.fp, (∃ o', lookA s M.opens = some o' ∧ y ∈ o'.fp) ∨ w.heap.size ≤ y) (v : Value) : WtPost M p { M.abs with opens := setA s o.l M.abs.opens } v w (.returned v) w' := by
  have A := apartW h.nd
  have h4 := A.four
  simp only [List.nodup_cons, List.mem_cons, List.not_mem_nil, or_false, not_or] at h4
  refine WAt.put (M' := { M with opens := setA s o M.opens }) h O s s rfl rfl rfl hB (by dsimp only; rw [← setE_A]; exact hM) (h.me.only O fun hm => ?_) (h.mn.only O fun hm => ?_) h.kn (.inr ⟨_, rfl, hO, hnew⟩) (.inl ⟨rfl, fun x hx hm => ?_⟩) (fun y hy => ?_) _ _ ?_
  · rcases hL _ hm with h1 | h1 | ⟨o', h1, h2⟩
    · exact h4.1.2.1 h1.symm
    · exact h4.2.1.1 h1.symm
    · exact A.fo _ (fpA_mem h1 h2) (by simp)
  · rcases hL _ hm with h1 | h1 | ⟨o', h1, h2⟩
    · exact h4.1.2.2 h1.symm
    · exact h4.2.1.2 h1.symm
    · exact A.fo _ (fpA_mem h1 h2) (by simp)
  · have hx2 : x.1 ∈ fpA eFp M.ends := fpA_mem hx (by simp [eFp])
    rcases hL _ hm with h1 | h1 | ⟨o', h1, h2⟩
    · exact A.fe _ hx2 (by simp [h1])
    · exact A.fe _ hx2 (by simp [h1])
    · exact A.oe _ (fpA_mem h1 h2) hx2
  · rcases hL _ hy with h1 | h1 | h1
    · exact .inl (by simp [h1])
    · exact .inl (by simp [h1])
    · exact .inr (.inl h1)
  · unfold WM.abs
    dsimp only
    rw [← setA_map]
/-- The three blocks of an Open. -/
theorem open_nodup {w : World} {p : Nat} {M : WM} {s : Int} {oA : Option Addr} (h : WAt w p M) (hofp : ∀ y ∈ bkO oA, ∃ o', lookA s M.opens = some o' ∧ y ∈ o'.fp) : (p :: M.ob :: bkO oA).Nodup := by
  have A := apartW h.nd
  have h4 := A.four
  simp only [List.nodup_cons, List.mem_cons, List.not_mem_nil, or_false, not_or] at h4 ⊢
  refine ⟨⟨h4.1.1, fun hm => ?_⟩, fun hm => ?_, bkO_nodup _⟩
  · obtain ⟨o', h1, h2⟩ := hofp p hm
    exact A.fo p (fpA_mem h1 h2) (by simp)
  · obtain ⟨o', h1, h2⟩ := hofp M.ob hm
    exact A.fo M.ob (fpA_mem h1 h2) (by simp)
theorem hears_fail1 (M : WM) (p : Nat) (m : MD) (w : World) (h : WAt w p M) (hd : M.dead = false) (hk : m.kind = 92) {x : Int × Int} {l : List (Int × Int)} (hn : ((lookA m.chan M.opens).map OS.l).getD [] = x :: l) (ok : Bool) : Calls Tryz.prog 10 #[ptrV p, m.val] w (WtPost M p (hearsS M.abs m ok).1 (.int .i64 (hearsS M.abs m ok).2) w) := by
  have eS : hearsS M.abs m ok = ({ M.abs with opens := setA m.chan l M.abs.opens }, 0) := by
    unfold hearsS
    rw [if_neg (show ¬ M.abs.dead = true by rw [show M.abs.dead = M.dead from rfl, hd]; decide), if_neg (by rw [hk]; decide), if_neg (by rw [hk]; decide), if_neg (by rw [hk]; decide), if_pos hk, first_cons hn]
  rw [eS]
  have hb := h.blk
  have hmo := h.mo
  obtain ⟨o, -, hoo, hofp, hlook, hol⟩ := h.osel m.chan
  rw [hn] at hol
  obtain ⟨oA, oc, ol⟩ := o
  dsimp only at hol
  subst hol
  obtain ⟨ln, hln⟩ : ∃ ln, (x :: l).length = ln := ⟨_, rfl⟩
  have hl0 : 0 < ln := by rw [← hln]; simp
  obtain ⟨g, off, hA, -, -⟩ := OwnO.rd hoo cOp_len (by simp)
  dsimp only at hA
  subst hA
  have hval : OS.val ⟨some ⟨g, off, none⟩, oc, x :: l⟩ = .slice (some ⟨g, off, none⟩) ln oc := by rw [← hln]; rfl
  rw [hval] at hlook
  have hnd := open_nodup h (oA := some ⟨g, off, none⟩) hofp
  have hput := fun (w' : World) (O : Only [p, M.ob, g] w w') hB hM hO => h.putO (o := ⟨cutA g off oc 10, oc - 1, l⟩) (s := m.chan) (v := .int .i64 0) O (fun y hy => by
    simp only [List.mem_cons, List.not_mem_nil, or_false] at hy
    exact hy.imp id (Or.imp id fun e => hofp y (by rw [e]; simp [OS.fp, bkO]))) hB hM hO (fun y hy => .inl (hofp y (by
      unfold OS.fp at hy
      rw [cutA_bk] at hy
      simp only [List.mem_singleton] at hy
      rw [hy]; simp [OS.fp, bkO])))
  obtain ⟨ob, eb, nb, opens, glob, ends, nums, dead⟩ := M
  dsimp only at *
  subst hd
  refine Hs.enter Tryz.func10 [p, ob, g] [p, ob, 0] [.b true 55 (wS ⟨ob, eb, nb, opens, glob, ends, nums, false⟩), HB.mp (kI .u32) ob (mapA OS.val opens), HB.oo cOp 36 10 (some ⟨g, off, none⟩) oc (x :: l)] [.c (.p 0 0), .g (mdS m)] (Mem.startN (β := [p, ob, 0]) (hp := [.b true 55 (wS ⟨ob, eb, nb, opens, glob, ends, nums, false⟩), HB.mp (kI .u32) ob (mapA OS.val opens), HB.oo cOp 36 10 (some ⟨g, off, none⟩) oc (x :: l)]) rfl hnd ⟨hb, ⟨hmo, fun a ha => by injection ha with ha; subst ha; exact hmo.lt⟩, ⟨hoo, hoo.lt⟩, trivial⟩) (by kernel_rfl) (by kernel_rfl) ?_
  refine Hs.run1 300 (fun _ => by kernel_rfl) fun b0 => ?_
  refine Hs.condF (by kernel_rfl) ?_
  refine Hs.run0 300 (fun _ => by kernel_rfl) ?_
  refine Hs.condF (by kernel_rfl) ?_
  refine Hs.run0 300 (fun _ => by kernel_rfl) ?_
  refine Hs.any [0, 3] (by kernel_rfl) ?_
  refine Hs.run0 300 (fun _ => by kernel_rfl) ?_
  refine Hs.callQ (X := Nat) (fun r => some ⟨r, 0, none⟩) (fun r => .map (some r)) (fun r w' => MapM (kI .i64) w' r (forL p)) (fun r => MapM.st) (fun w' H => forL_any p w') (by kernel_rfl) (by kernel_rfl) fun r => ?_
  refine Hs.run0 300 (fun _ => by kernel_rfl) ?_
  refine Hs.getM (r := r) (es := forL p) keyH m.kind true (.tuple #[mV 29 p, .bool true]) (by rw [hk]; rfl) (by kernel_rfl) (fun w' H => H.mapM 4 (by kernel_rfl)) ?_
  refine Hs.run0 300 (fun _ => by kernel_rfl) ?_
  refine Hs.condT (by kernel_rfl) ?_
  refine Hs.run0 300 (fun _ => by kernel_rfl) ?_
  refine Hs.inl Tryz.func29 [.c (.p 0 0), .g (mdS m)] (by kernel_rfl) (by kernel_rfl) ?_
  refine Hs.run1 300 (fun _ => by kernel_rfl) fun b1 => ?_
  refine Hs.inl Tryz.func43 [.c (.p 0 0), .c (.v (.int .u32 m.chan))] (by kernel_rfl) (by kernel_rfl) ?_
  refine Hs.run1 300 (fun _ => by kernel_rfl) fun b2 => ?_
  refine Hs.getM (r := ob) (es := mapA OS.val opens) keyOp m.chan false (.slice (some ⟨g, off, none⟩) ln oc) hlook (by kernel_rfl) (fun w' H => H.mapM 1 (by kernel_rfl)) ?_
  refine Hs.run0 300 (fun _ => by kernel_rfl) ?_
  refine Hs.condP ((ln : Int) = 0) (by kernel_rfl) (fun e => by omega) (fun _ => ?_)
  refine Hs.run0 300 (fun _ => by kernel_rfl) ?_
  refine Hs.any [0, 1007] (by kernel_rfl) ?_
  refine Hs.run0 300 (fun _ => by kernel_rfl) ?_
  refine Hs.cutN (g := g) (off := off) (len := ln) (cap := oc) elemMs hl0 (by kernel_rfl) ?_
  refine Hs.run0 300 (fun _ => by kernel_rfl) ?_
  refine Hs.setM 1 keyOp (r := ob) (es := mapA OS.val opens) m.chan (.slice (cutA g off oc 10) (ln - 1) (oc - 1)) (by kernel_rfl) (by kernel_rfl) (by kernel_rfl) ?_
  refine Hs.run0 300 (fun _ => by kernel_rfl) ?_
  refine Hs.idx (b := g) (off := off) (len := ln) (c := oc) (i := 0) elemMs hl0 (by kernel_rfl) ?_
  refine Hs.run0 300 (fun _ => by kernel_rfl) ?_
  refine Hs.ldx (cf := cOp) (size := 10) (E := 36) (b := g) (off := off) (i := 0) (l := x :: l) (x := x) cOp_len (.g ((cOp x).map SC.v)) (by kernel_rfl) (fun w' H => (H.atQ 2 (wr := true) (A := some ⟨g, off, none⟩) (Q := fun w => OwnO cOp 36 10 w (some ⟨g, off, none⟩) oc (x :: l)) (st := OwnO.stq) (by kernel_rfl)).rd cOp_len) rfl (by kernel_rfl) (by kernel_rfl) rfl (by kernel_rfl) ?_
  refine Hs.run0 300 (fun _ => by kernel_rfl) ?_
  refine Hs.retI Tryz.func43 (by kernel_rfl) (by kernel_rfl) (by kernel_rfl) ?_
  refine Hs.run1 300 (fun _ => by kernel_rfl) fun b3 => ?_
  refine Hs.condF (by kernel_rfl) ?_
  refine Hs.run0 300 (fun _ => by kernel_rfl) ?_
  refine Hs.retI Tryz.func29 (by kernel_rfl) (by kernel_rfl) (by kernel_rfl) ?_
  refine Hs.run0 300 (fun _ => by kernel_rfl) ?_
  refine Hs.ret (v := .int .i64 0) Tryz.func10 (by kernel_rfl) fun w' H => ?_
  refine hput w' H.only (H.at 0 (wr := true) (T := 55) (cs := wS ⟨ob, eb, nb, opens, glob, ends, nums, false⟩) (by kernel_rfl)) ?_ ?_
  · have := H.mapM 1 (r := ob) (ke := kI .u32) (es := setE m.chan (.slice (cutA g off oc 10) (ln - 1) (oc - 1)) (mapA OS.val opens)) (by kernel_rfl)
    rw [show OS.val ⟨cutA g off oc 10, oc - 1, l⟩ = .slice (cutA g off oc 10) (ln - 1) (oc - 1) by rw [← hln]; rfl]
    exact this
  · exact OwnO.cutS cOp_len (H.atQ 2 (wr := true) (A := some ⟨g, off, none⟩) (Q := fun w => OwnO cOp 36 10 w (some ⟨g, off, none⟩) oc (x :: l)) (st := OwnO.stq) (by kernel_rfl))
end Go.Proofs.YtkgikodiecmakaaGreatDoor

namespace Go.Proofs.YtkgikodiecmakaaGreatDoor
set_option linter.all false
set_option maxRecDepth 100000
open Go.RowKit Go.MapKept

theorem hears91 {M : WM} {m : MD} {ok : Bool} (hd : M.dead = false) (hk : m.kind = 91) : hearsS M.abs m ok = match firstS M.abs m.chan with
    | none => (M.abs, 8)
    | some (o, l) => if openE M.abs m.chan = true then (M.abs, 9)
      else ({ M.abs with opens := setA m.chan l M.abs.opens, ends := setA m.chan (newE m.chan o) M.abs.ends, nums := setA m.sender m.chan M.abs.nums }, 0) := by
  unfold hearsS
  rw [if_neg (show ¬ M.abs.dead = true by rw [show M.abs.dead = M.dead from rfl, hd]; decide), if_neg (by rw [hk]; decide), if_neg (by rw [hk]; decide), if_pos hk]
  rfl
/-- A channel is new. -/
theorem WAt.putC {w w' : World} {p b' : Nat} {M : WM} {L : List Nat} {s n : Int} {o : OS} {e : EN} (h : WAt w p M) (O : Only L w w') (hL : ∀ y ∈ L, y ∈ [p, M.ob, M.eb, M.nb] ∨ (∃ o', lookA s M.opens = some o' ∧ y ∈ o'.fp) ∨ ∃ x, lookA s M.ends = some x ∧ y = x.1) (hB : Blk w' p 55 M.cells)
    (hM : MapM (kI .u32) w' M.ob (setE s o.val (mapA OS.val M.opens))) (hE : MapM (kI .u32) w' M.eb (setE s (ptrV b') (mapA (fun x => ptrV x.1) M.ends))) (hN : MapM (kI .u32) w' M.nb (setE n (.int .u32 s) (mapA u32V M.nums))) (hO : o.at w') (hnew : ∀ y ∈ o.fp, ∃ o', lookA s M.opens = some o' ∧ y ∈ o'.fp) (hb : Blk w' b' 49 e.cells) (hbn : w.heap.size ≤ b') (v : Value) :
    WtPost M p { M.abs with opens := setA s o.l M.abs.opens, ends := setA s e M.abs.ends, nums := setA n s M.abs.nums } v w (.returned v) w' := by
  have hlt := h.lt
  refine WAt.put (M' := { M with opens := setA s o M.opens, ends := setA s (b', e) M.ends, nums := setA n s M.nums }) h O s s rfl rfl rfl hB (by dsimp only; rw [← setE_A]; exact hM) (by dsimp only; rw [← setE_A]; exact hE) (by dsimp only; rw [← setE_A]; exact hN) h.kn.set (.inr ⟨_, rfl, hO, fun y hy => .inl (hnew y hy)⟩) (.inr (.inr ⟨(b', e), rfl, hb, hbn, fun y hy => ?_⟩)) hL _ _ ?_
  · have hy2 : y ∈ fpA OS.fp M.opens := by
      rcases fpA_set hy with h1 | h1
      · obtain ⟨o', h2, h3⟩ := hnew y h1
        exact fpA_mem h2 h3
      · exact h1
    have := hlt y (by simp only [WM.fp, List.mem_append]; exact .inr (.inl hy2))
    show y ≠ b'
    omega
  · unfold WM.abs
    dsimp only
    rw [← setA_map, ← setA_map]
theorem hears_confirm0 (M : WM) (p : Nat) (m : MD) (w : World) (h : WAt w p M) (hd : M.dead = false) (hk : m.kind = 91) (hn : ((lookA m.chan M.opens).map OS.l).getD [] = []) (ok : Bool) : Calls Tryz.prog 10 #[ptrV p, m.val] w (WtPost M p (hearsS M.abs m ok).1 (.int .i64 (hearsS M.abs m ok).2) w) := by
  have eS : hearsS M.abs m ok = (M.abs, 8) := by rw [hears91 hd hk, first_nil hn]
  rw [eS]
  have hb := h.blk
  have hmo := h.mo
  obtain ⟨o, -, hoo, -, hlook, hol⟩ := h.osel m.chan
  rw [hn] at hol
  obtain ⟨oA, oc, ol⟩ := o
  dsimp only at hol
  subst hol
  obtain ⟨ob, eb, nb, opens, glob, ends, nums, dead⟩ := M
  dsimp only at *
  subst hd
  refine Hs.enter Tryz.func10 [] [p] [.b false 55 (wS ⟨ob, eb, nb, opens, glob, ends, nums, false⟩)] [.c (.p 0 0), .g (mdS m)] (Mem.rdOne w p hb) (by kernel_rfl) (by kernel_rfl) ?_
  refine Hs.run1 300 (fun _ => by kernel_rfl) fun b0 => ?_
  refine Hs.condF (by kernel_rfl) ?_
  refine Hs.run0 300 (fun _ => by kernel_rfl) ?_
  refine Hs.condF (by kernel_rfl) ?_
  refine Hs.run0 300 (fun _ => by kernel_rfl) ?_
  refine Hs.any [0, 1] (by kernel_rfl) ?_
  refine Hs.run0 300 (fun _ => by kernel_rfl) ?_
  refine Hs.callQ (X := Nat) (fun r => some ⟨r, 0, none⟩) (fun r => .map (some r)) (fun r w' => MapM (kI .i64) w' r (forL p)) (fun r => MapM.st) (fun w' H => forL_any p w') (by kernel_rfl) (by kernel_rfl) fun r => ?_
  refine Hs.run0 300 (fun _ => by kernel_rfl) ?_
  refine Hs.getM (r := r) (es := forL p) keyH m.kind true (.tuple #[mV 28 p, .bool true]) (by rw [hk]; rfl) (by kernel_rfl) (fun w' H => H.mapM 2 (by kernel_rfl)) ?_
  refine Hs.run0 300 (fun _ => by kernel_rfl) ?_
  refine Hs.condT (by kernel_rfl) ?_
  refine Hs.run0 300 (fun _ => by kernel_rfl) ?_
  refine Hs.inl Tryz.func28 [.c (.p 0 0), .g (mdS m)] (by kernel_rfl) (by kernel_rfl) ?_
  refine Hs.run1 300 (fun _ => by kernel_rfl) fun b1 => ?_
  refine Hs.any [0, 1, 3] (by kernel_rfl) ?_
  refine Hs.run0 300 (fun _ => by kernel_rfl) ?_
  refine Hs.getM (r := ob) (es := mapA OS.val opens) keyOp m.chan false (.slice oA 0 oc) hlook (by kernel_rfl) (fun w' H => hmo.only H.only (by simp)) ?_
  refine Hs.run0 300 (fun _ => by kernel_rfl) ?_
  refine Hs.condT (by kernel_rfl) ?_
  refine Hs.run0 300 (fun _ => by kernel_rfl) ?_
  refine Hs.retI Tryz.func28 (by kernel_rfl) (by kernel_rfl) (by kernel_rfl) ?_
  refine Hs.run0 300 (fun _ => by kernel_rfl) ?_
  exact Hs.ret (v := .int .i64 8) Tryz.func10 (by kernel_rfl) fun w' H => h.keep H.only _
theorem hears_confirm9 (M : WM) (p : Nat) (m : MD) (w : World) (h : WAt w p M) (hd : M.dead = false) (hk : m.kind = 91) (hn : ((lookA m.chan M.opens).map OS.l).getD [] ≠ []) {b : Nat} {x : EN} (he : lookA m.chan M.ends = some (b, x)) (hc : x.closed = false) (ok : Bool) : Calls Tryz.prog 10 #[ptrV p, m.val] w (WtPost M p (hearsS M.abs m ok).1 (.int .i64 (hearsS M.abs m ok).2) w) := by
  have eS : hearsS M.abs m ok = (M.abs, 9) := by
    rw [hears91 hd hk]
    cases e : ((lookA m.chan M.opens).map OS.l).getD [] with
    | nil => exact absurd e hn
    | cons y l =>
      rw [first_cons e]
      dsimp only
      rw [if_pos]
      unfold openE
      rw [show lookA m.chan M.abs.ends = some x by unfold WM.abs; dsimp only; rw [lookA_map, he]; rfl]
      dsimp only
      rw [hc]
      rfl
  rw [eS]
  have hb := h.blk
  have hmo := h.mo
  have hme := h.me
  have A := apartW h.nd
  have hbm : b ∈ fpA eFp M.ends := fpA_mem he (by simp [eFp])
  have hb4 := A.fe b hbm
  simp only [List.mem_cons, List.not_mem_nil, or_false, not_or] at hb4
  have hE : Blk w b 49 x.cells := h.es _ (lookA_mem he)
  have hlookE : lookM m.chan (mapA (fun x => ptrV x.1) M.ends) = some (ptrV b) := by rw [lookM_A, he]; rfl
  obtain ⟨o, -, hoo, -, hlook, hol⟩ := h.osel m.chan
  obtain ⟨oA, oc, ol⟩ := o
  rw [hol] at hn
  obtain ⟨ln, hln⟩ : ∃ ln, ol.length = ln := ⟨_, rfl⟩
  have hl0 : 0 < ln := by
    rw [← hln]
    cases ol with
    | nil => exact absurd rfl hn
    | cons y l => simp
  rw [show OS.val ⟨oA, oc, ol⟩ = .slice oA ln oc by rw [← hln]; rfl] at hlook
  obtain ⟨ob, eb, nb, opens, glob, ends, nums, dead⟩ := M
  obtain ⟨xc, xg, xs, xp, xe, xd, xt, xw⟩ := x
  dsimp only at *
  subst hd
  subst hc
  refine Hs.enter Tryz.func10 [] [p, b] [.b false 55 (wS ⟨ob, eb, nb, opens, glob, ends, nums, false⟩), .b false 49 (EN.sc ⟨xc, xg, xs, xp, xe, false, xt, xw⟩)] [.c (.p 0 0), .g (mdS m)] (Mem.startW [] (β := [p, b]) (hp := [.b false 55 (wS ⟨ob, eb, nb, opens, glob, ends, nums, false⟩), .b false 49 (EN.sc ⟨xc, xg, xs, xp, xe, false, xt, xw⟩)]) rfl (by
    show [p, b].Nodup
    simp only [List.nodup_cons, List.mem_cons, List.not_mem_nil, or_false, not_or, List.nodup_nil, not_false_eq_true, and_true]
    exact fun e => hb4.1 e.symm) ⟨hb, hE, trivial⟩ (by simp [wrN, HB.wr])) (by kernel_rfl) (by kernel_rfl) ?_
  refine Hs.run1 300 (fun _ => by kernel_rfl) fun b0 => ?_
  refine Hs.condF (by kernel_rfl) ?_
  refine Hs.run0 300 (fun _ => by kernel_rfl) ?_
  refine Hs.condF (by kernel_rfl) ?_
  refine Hs.run0 300 (fun _ => by kernel_rfl) ?_
  refine Hs.any [0, 2] (by kernel_rfl) ?_
  refine Hs.run0 300 (fun _ => by kernel_rfl) ?_
  refine Hs.callQ (X := Nat) (fun r => some ⟨r, 0, none⟩) (fun r => .map (some r)) (fun r w' => MapM (kI .i64) w' r (forL p)) (fun r => MapM.st) (fun w' H => forL_any p w') (by kernel_rfl) (by kernel_rfl) fun r => ?_
  refine Hs.run0 300 (fun _ => by kernel_rfl) ?_
  refine Hs.getM (r := r) (es := forL p) keyH m.kind true (.tuple #[mV 28 p, .bool true]) (by rw [hk]; rfl) (by kernel_rfl) (fun w' H => H.mapM 3 (by kernel_rfl)) ?_
  refine Hs.run0 300 (fun _ => by kernel_rfl) ?_
  refine Hs.condT (by kernel_rfl) ?_
  refine Hs.run0 300 (fun _ => by kernel_rfl) ?_
  refine Hs.inl Tryz.func28 [.c (.p 0 0), .g (mdS m)] (by kernel_rfl) (by kernel_rfl) ?_
  refine Hs.run1 300 (fun _ => by kernel_rfl) fun b1 => ?_
  refine Hs.any [0, 2, 4] (by kernel_rfl) ?_
  refine Hs.run0 300 (fun _ => by kernel_rfl) ?_
  refine Hs.getM (r := ob) (es := mapA OS.val opens) keyOp m.chan false (.slice oA ln oc) hlook (by kernel_rfl) (fun w' H => hmo.only H.only (by simp)) ?_
  refine Hs.run0 300 (fun _ => by kernel_rfl) ?_
  refine Hs.condP ((ln : Int) = 0) (by kernel_rfl) (fun e => by omega) (fun _ => ?_)
  refine Hs.run0 300 (fun _ => by kernel_rfl) ?_
  refine Hs.any [0, 2, 4] (by kernel_rfl) ?_
  refine Hs.run0 300 (fun _ => by kernel_rfl) ?_
  refine Hs.getM (r := eb) (es := mapA (fun x => ptrV x.1) ends) keyEn m.chan true (.tuple #[ptrV b, .bool true]) (by rw [hlookE]; rfl) (by kernel_rfl) (fun w' H => hme.only H.only (by simp)) ?_
  refine Hs.run0 300 (fun _ => by kernel_rfl) ?_
  refine Hs.slot 5 (.c (.p 1 0)) (by kernel_rfl) (by kernel_rfl) ?_
  refine Hs.rung0 [1] 300 (fun _ => by kernel_rfl) ?_
  refine Hs.condT (by kernel_rfl) ?_
  refine Hs.run0 300 (fun _ => by kernel_rfl) ?_
  refine Hs.retI Tryz.func28 (by kernel_rfl) (by kernel_rfl) (by kernel_rfl) ?_
  refine Hs.run0 300 (fun _ => by kernel_rfl) ?_
  exact Hs.ret (v := .int .i64 9) Tryz.func10 (by kernel_rfl) fun w' H => h.keep H.only _
theorem hears_confirmA (M : WM) (p : Nat) (m : MD) (w : World) (h : WAt w p M) (hd : M.dead = false) (hk : m.kind = 91) {x : Int × Int} {l : List (Int × Int)} (hn : ((lookA m.chan M.opens).map OS.l).getD [] = x :: l) (he : lookA m.chan M.ends = none) (hx : U32 x.1) (ok : Bool) : Calls Tryz.prog 10 #[ptrV p, m.val] w (WtPost M p (hearsS M.abs m ok).1 (.int .i64 (hearsS M.abs m ok).2) w) := by
  have eS : hearsS M.abs m ok = ({ M.abs with opens := setA m.chan l M.abs.opens, ends := setA m.chan (newE m.chan x) M.abs.ends, nums := setA m.sender m.chan M.abs.nums }, 0) := by
    rw [hears91 hd hk, first_cons hn]
    dsimp only
    rw [if_neg]
    unfold openE
    rw [show lookA m.chan M.abs.ends = none by unfold WM.abs; dsimp only; rw [lookA_map, he]; rfl]
    simp
  rw [eS]
  clear eS
  have hw : IntKind.u64.wrap x.1 = x.1 := by rw [IntKind.wrap_u64]; unfold U32 at hx; omega
  have hb := h.blk
  have hmo := h.mo
  have hme := h.me
  have hmn := h.mn
  have A := apartW h.nd
  have h4 := A.four
  obtain ⟨o, -, hoo, hofp, hlook, hol⟩ := h.osel m.chan
  rw [hn] at hol
  obtain ⟨oA, oc, ol⟩ := o
  dsimp only at hol
  subst hol
  obtain ⟨ln, hln⟩ : ∃ ln, (x :: l).length = ln := ⟨_, rfl⟩
  have hl0 : 0 < ln := by rw [← hln]; simp
  obtain ⟨g, off, hA, -, -⟩ := OwnO.rd hoo cOp_len (by simp)
  dsimp only at hA
  subst hA
  have hval : OS.val ⟨some ⟨g, off, none⟩, oc, x :: l⟩ = .slice (some ⟨g, off, none⟩) ln oc := by rw [← hln]; rfl
  rw [hval] at hlook
  obtain ⟨og, hg1, hg2⟩ := hofp g (by simp [OS.fp, bkO])
  have hgm : g ∈ fpA OS.fp M.opens := fpA_mem hg1 hg2
  have hg4 := A.fo g hgm
  have hlookE : (if true then Value.tuple #[(lookM m.chan (mapA (fun x => ptrV x.1) M.ends)).getD (.pointer none), .bool (lookM m.chan (mapA (fun x => ptrV x.1) M.ends)).isSome] else (lookM m.chan (mapA (fun x => ptrV x.1) M.ends)).getD (.pointer none)) = .tuple #[.pointer none, .bool false] := by rw [lookM_A, he]; rfl
  have hnd : [p, M.ob, M.eb, M.nb, g].Nodup := by
    simp only [List.nodup_cons, List.mem_cons, List.not_mem_nil, or_false, not_or, List.nodup_nil, not_false_eq_true, and_true] at h4 hg4 ⊢
    exact ⟨⟨h4.1.1, h4.1.2.1, h4.1.2.2, fun e => hg4.1 e.symm⟩, ⟨h4.2.1.1, h4.2.1.2, fun e => hg4.2.1 e.symm⟩, ⟨h4.2.2, fun e => hg4.2.2.1 e.symm⟩, fun e => hg4.2.2.2 e.symm⟩
  have hput := fun (w' : World) (b' : Nat) (O : Only [p, M.ob, M.eb, M.nb, g] w w') hB hM hE hN hO hb hbn => h.putC (b' := b') (o := ⟨cutA g off oc 10, oc - 1, l⟩) (s := m.chan) (n := m.sender) (e := newE m.chan x) (v := .int .i64 0) O (fun y hy => by
    simp only [List.mem_cons, List.not_mem_nil, or_false] at hy
    rcases hy with rfl | rfl | rfl | rfl | rfl
    · exact .inl (by simp)
    · exact .inl (by simp)
    · exact .inl (by simp)
    · exact .inl (by simp)
    · exact .inr (.inl ⟨og, hg1, hg2⟩)) hB hM hE hN hO (fun y hy => by
      unfold OS.fp at hy
      rw [cutA_bk] at hy
      simp only [List.mem_singleton] at hy
      rw [hy]; exact ⟨og, hg1, hg2⟩) hb hbn
  have hrdO : ∀ w', OwnO cOp 36 10 w' (some ⟨g, off, none⟩) oc (x :: l) → RdX cOp w' (some ⟨g, off, none⟩) (x :: l) := fun w' h => h.rd cOp_len
  obtain ⟨ob, eb, nb, opens, glob, ends, nums, dead⟩ := M
  dsimp only at *
  subst hd
  obtain ⟨xw1, xp1⟩ := x
  dsimp only at hw
  refine Hs.enter Tryz.func10 [p, ob, eb, nb, g] [p, ob, eb, nb, 0] [.b true 55 (wS ⟨ob, eb, nb, opens, glob, ends, nums, false⟩), HB.mp (kI .u32) ob (mapA OS.val opens), HB.mp (kI .u32) eb (mapA (fun x : Nat × EN => ptrV x.1) ends), HB.mp (kI .u32) nb (mapA u32V nums), HB.oo cOp 36 10 (some ⟨g, off, none⟩) oc ((xw1, xp1) :: l)] [.c (.p 0 0), .g (mdS m)] (Mem.startN (β := [p, ob, eb, nb, 0]) (hp := [.b true 55 (wS ⟨ob, eb, nb, opens, glob, ends, nums, false⟩), HB.mp (kI .u32) ob (mapA OS.val opens), HB.mp (kI .u32) eb (mapA (fun x : Nat × EN => ptrV x.1) ends), HB.mp (kI .u32) nb (mapA u32V nums), HB.oo cOp 36 10 (some ⟨g, off, none⟩) oc ((xw1, xp1) :: l)]) rfl hnd ⟨hb, ⟨hmo, fun a ha => by injection ha with ha; subst ha; exact hmo.lt⟩, ⟨hme, fun a ha => by injection ha with ha; subst ha; exact hme.lt⟩, ⟨hmn, fun a ha => by injection ha with ha; subst ha; exact hmn.lt⟩, ⟨hoo, hoo.lt⟩, trivial⟩) (by kernel_rfl) (by kernel_rfl) ?_
  refine Hs.run1 300 (fun _ => by kernel_rfl) fun b0 => ?_
  refine Hs.condF (by kernel_rfl) ?_
  refine Hs.run0 300 (fun _ => by kernel_rfl) ?_
  refine Hs.condF (by kernel_rfl) ?_
  refine Hs.run0 300 (fun _ => by kernel_rfl) ?_
  refine Hs.any [0, 5] (by kernel_rfl) ?_
  refine Hs.run0 300 (fun _ => by kernel_rfl) ?_
  refine Hs.callQ (X := Nat) (fun r => some ⟨r, 0, none⟩) (fun r => .map (some r)) (fun r w' => MapM (kI .i64) w' r (forL p)) (fun r => MapM.st) (fun w' H => forL_any p w') (by kernel_rfl) (by kernel_rfl) fun r => ?_
  refine Hs.run0 300 (fun _ => by kernel_rfl) ?_
  refine Hs.getM (r := r) (es := forL p) keyH m.kind true (.tuple #[mV 28 p, .bool true]) (by rw [hk]; rfl) (by kernel_rfl) (fun w' H => H.mapM 6 (by kernel_rfl)) ?_
  refine Hs.run0 300 (fun _ => by kernel_rfl) ?_
  refine Hs.condT (by kernel_rfl) ?_
  refine Hs.run0 300 (fun _ => by kernel_rfl) ?_
  refine Hs.inl Tryz.func28 [.c (.p 0 0), .g (mdS m)] (by kernel_rfl) (by kernel_rfl) ?_
  refine Hs.run1 300 (fun _ => by kernel_rfl) fun b1 => ?_
  refine Hs.any [0, 5, 7] (by kernel_rfl) ?_
  refine Hs.run0 300 (fun _ => by kernel_rfl) ?_
  refine Hs.getM (r := ob) (es := mapA OS.val opens) keyOp m.chan false (.slice (some ⟨g, off, none⟩) ln oc) hlook (by kernel_rfl) (fun w' H => H.mapM 1 (by kernel_rfl)) ?_
  refine Hs.run0 300 (fun _ => by kernel_rfl) ?_
  refine Hs.condP ((ln : Int) = 0) (by kernel_rfl) (fun e => by omega) (fun _ => ?_)
  refine Hs.run0 300 (fun _ => by kernel_rfl) ?_
  refine Hs.any [0, 5, 7] (by kernel_rfl) ?_
  refine Hs.run0 300 (fun _ => by kernel_rfl) ?_
  refine Hs.getM (r := eb) (es := mapA (fun x => ptrV x.1) ends) keyEn m.chan true (.tuple #[.pointer none, .bool false]) hlookE (by kernel_rfl) (fun w' H => H.mapM 2 (by kernel_rfl)) ?_
  refine Hs.run0 300 (fun _ => by kernel_rfl) ?_
  refine Hs.rung0 [1] 300 (fun _ => by kernel_rfl) ?_
  refine Hs.condF (by kernel_rfl) ?_
  refine Hs.run0 300 (fun _ => by kernel_rfl) ?_
  refine Hs.inl Tryz.func43 [.c (.p 0 0), .c (.v (.int .u32 m.chan))] (by kernel_rfl) (by kernel_rfl) ?_
  refine Hs.run1 300 (fun _ => by kernel_rfl) fun b2 => ?_
  refine Hs.getM (r := ob) (es := mapA OS.val opens) keyOp m.chan false (.slice (some ⟨g, off, none⟩) ln oc) hlook (by kernel_rfl) (fun w' H => H.mapM 1 (by kernel_rfl)) ?_
  refine Hs.run0 300 (fun _ => by kernel_rfl) ?_
  refine Hs.condP ((ln : Int) = 0) (by kernel_rfl) (fun e => by omega) (fun _ => ?_)
  refine Hs.run0 300 (fun _ => by kernel_rfl) ?_
  refine Hs.any [0, 1007] (by kernel_rfl) ?_
  refine Hs.run0 300 (fun _ => by kernel_rfl) ?_
  refine Hs.cutN (g := g) (off := off) (len := ln) (cap := oc) elemMs hl0 (by kernel_rfl) ?_
  refine Hs.run0 300 (fun _ => by kernel_rfl) ?_
  refine Hs.setM 1 keyOp (r := ob) (es := mapA OS.val opens) m.chan (.slice (cutA g off oc 10) (ln - 1) (oc - 1)) (by kernel_rfl) (by kernel_rfl) (by kernel_rfl) ?_
  refine Hs.run0 300 (fun _ => by kernel_rfl) ?_
  refine Hs.idx (b := g) (off := off) (len := ln) (c := oc) (i := 0) elemMs hl0 (by kernel_rfl) ?_
  refine Hs.run0 300 (fun _ => by kernel_rfl) ?_
  refine Hs.ldx (cf := cOp) (size := 10) (E := 36) (b := g) (off := off) (i := 0) (l := (xw1, xp1) :: l) (x := (xw1, xp1)) cOp_len (.g ((cOp (xw1, xp1)).map SC.v)) (by kernel_rfl) (fun w' H => hrdO w' (H.atQ 4 (wr := true) (A := some ⟨g, off, none⟩) (Q := fun w => OwnO cOp 36 10 w (some ⟨g, off, none⟩) oc ((xw1, xp1) :: l)) (st := OwnO.stq) (by kernel_rfl))) rfl (by kernel_rfl) (by kernel_rfl) rfl (by kernel_rfl) ?_
  refine Hs.run0 300 (fun _ => by kernel_rfl) ?_
  refine Hs.retI Tryz.func43 (by kernel_rfl) (by kernel_rfl) (by kernel_rfl) ?_
  refine Hs.run1 300 (fun _ => by kernel_rfl) fun b3 => ?_
  refine Hs.any [0, 7, 9, 1015] (by kernel_rfl) ?_
  refine Hs.run1 300 (fun _ => by kernel_rfl) fun b4 => ?_
  refine Hs.setM 2 keyEn (r := eb) (es := mapA (fun x : Nat × EN => ptrV x.1) ends) m.chan (ptrV b4) (by kernel_rfl) (by kernel_rfl) (by kernel_rfl) ?_
  refine Hs.run0 300 (fun _ => by kernel_rfl) ?_
  refine Hs.any [0, 7, 1008] (by kernel_rfl) ?_
  refine Hs.run0 300 (fun _ => by kernel_rfl) ?_
  refine Hs.setM 3 keyNu (r := nb) (es := mapA u32V nums) m.sender (.int .u32 m.chan) (by kernel_rfl) (by kernel_rfl) (by kernel_rfl) ?_
  refine Hs.run0 300 (fun _ => by kernel_rfl) ?_
  refine Hs.retI Tryz.func28 (by kernel_rfl) (by kernel_rfl) (by kernel_rfl) ?_
  refine Hs.run0 300 (fun _ => by kernel_rfl) ?_
  refine Hs.ret (v := .int .i64 0) Tryz.func10 (by kernel_rfl) fun w' H => ?_
  refine hput w' b4 H.only (H.at 0 (wr := true) (T := 55) (cs := wS ⟨ob, eb, nb, opens, glob, ends, nums, false⟩) (by kernel_rfl)) ?_ (H.mapM 2 (r := eb) (ke := kI .u32) (es := setE m.chan (ptrV b4) (mapA (fun x : Nat × EN => ptrV x.1) ends)) (by kernel_rfl)) (H.mapM 3 (r := nb) (ke := kI .u32) (es := setE m.sender (.int .u32 m.chan) (mapA u32V nums)) (by kernel_rfl)) ?_ ?_ ?_
  · have := H.mapM 1 (r := ob) (ke := kI .u32) (es := setE m.chan (.slice (cutA g off oc 10) (ln - 1) (oc - 1)) (mapA OS.val opens)) (by kernel_rfl)
    rw [show OS.val ⟨cutA g off oc 10, oc - 1, l⟩ = .slice (cutA g off oc 10) (ln - 1) (oc - 1) by rw [← hln]; rfl]
    exact this
  · exact OwnO.cutS cOp_len (H.atQ 4 (wr := true) (A := some ⟨g, off, none⟩) (Q := fun w => OwnO cOp 36 10 w (some ⟨g, off, none⟩) oc ((xw1, xp1) :: l)) (st := OwnO.stq) (by kernel_rfl))
  · have := H.at 10 (wr := true) (T := 49) (cs := EN.sc ⟨m.chan, IntKind.u64.wrap xw1, 0, xp1, false, false, false, 0⟩) (by kernel_rfl)
    rw [hw] at this
    exact this
  · have hfr := (H.sub [0, 1, 2, 3, 4, 10] (by decide) (hp' := [.b true 55 (wS ⟨ob, eb, nb, opens, glob, ends, nums, false⟩), HB.mp (kI .u32) ob (setE m.chan (.slice (cutA g off oc 10) (ln - 1) (oc - 1)) (mapA OS.val opens)), HB.mp (kI .u32) eb (setE m.chan (ptrV b4) (mapA (fun x : Nat × EN => ptrV x.1) ends)), HB.mp (kI .u32) nb (setE m.sender (.int .u32 m.chan) (mapA u32V nums)), HB.oo cOp 36 10 (some ⟨g, off, none⟩) oc ((xw1, xp1) :: l), .b true 49 (EN.sc ⟨m.chan, IntKind.u64.wrap xw1, 0, xp1, false, false, false, 0⟩)]) (by kernel_rfl)).bks rfl
    have hnd2 : [p, ob, eb, nb, g, b4].Nodup := hfr.1
    have h1 : b4 ∈ [p, ob, eb, nb, g] ∨ w.heap.size ≤ b4 := (hfr.2 b4 (show b4 ∈ [p, ob, eb, nb, g, b4] by simp)).1
    rcases h1 with h1 | h1
    · exfalso
      rw [show [p, ob, eb, nb, g, b4] = [p, ob, eb, nb, g] ++ [b4] from rfl, List.nodup_append] at hnd2
      exact hnd2.2.2 b4 h1 b4 (by simp) rfl
    · exact h1
theorem hears_confirmB (M : WM) (p : Nat) (m : MD) (w : World) (h : WAt w p M) (hd : M.dead = false) (hk : m.kind = 91) {x : Int × Int} {l : List (Int × Int)} (hn : ((lookA m.chan M.opens).map OS.l).getD [] = x :: l) {b : Nat} {z : EN} (he : lookA m.chan M.ends = some (b, z)) (hc : z.closed = true) (hx : U32 x.1) (ok : Bool) : Calls Tryz.prog 10 #[ptrV p, m.val] w (WtPost M p (hearsS M.abs m ok).1 (.int .i64 (hearsS M.abs m ok).2) w) := by
  have eS : hearsS M.abs m ok = ({ M.abs with opens := setA m.chan l M.abs.opens, ends := setA m.chan (newE m.chan x) M.abs.ends, nums := setA m.sender m.chan M.abs.nums }, 0) := by
    rw [hears91 hd hk, first_cons hn]
    dsimp only
    rw [if_neg]
    unfold openE
    rw [show lookA m.chan M.abs.ends = some z by unfold WM.abs; dsimp only; rw [lookA_map, he]; rfl]
    dsimp only
    rw [hc]
    simp
  rw [eS]
  clear eS
  have hw : IntKind.u64.wrap x.1 = x.1 := by rw [IntKind.wrap_u64]; unfold U32 at hx; omega
  have hb := h.blk
  have hmo := h.mo
  have hme := h.me
  have hmn := h.mn
  have A := apartW h.nd
  have h4 := A.four
  obtain ⟨o, -, hoo, hofp, hlook, hol⟩ := h.osel m.chan
  rw [hn] at hol
  obtain ⟨oA, oc, ol⟩ := o
  dsimp only at hol
  subst hol
  obtain ⟨ln, hln⟩ : ∃ ln, (x :: l).length = ln := ⟨_, rfl⟩
  have hl0 : 0 < ln := by rw [← hln]; simp
  obtain ⟨g, off, hA, -, -⟩ := OwnO.rd hoo cOp_len (by simp)
  dsimp only at hA
  subst hA
  have hval : OS.val ⟨some ⟨g, off, none⟩, oc, x :: l⟩ = .slice (some ⟨g, off, none⟩) ln oc := by rw [← hln]; rfl
  rw [hval] at hlook
  obtain ⟨og, hg1, hg2⟩ := hofp g (by simp [OS.fp, bkO])
  have hgm : g ∈ fpA OS.fp M.opens := fpA_mem hg1 hg2
  have hg4 := A.fo g hgm
  have hbm : b ∈ fpA eFp M.ends := fpA_mem he (by simp [eFp])
  have hb4 := A.fe b hbm
  have hgb : g ≠ b := fun e => A.oe g hgm (by rw [e]; exact hbm)
  have hE : Blk w b 49 z.cells := h.es _ (lookA_mem he)
  have hlookE : (if true then Value.tuple #[(lookM m.chan (mapA (fun x => ptrV x.1) M.ends)).getD (.pointer none), .bool (lookM m.chan (mapA (fun x => ptrV x.1) M.ends)).isSome] else (lookM m.chan (mapA (fun x => ptrV x.1) M.ends)).getD (.pointer none)) = .tuple #[ptrV b, .bool true] := by rw [lookM_A, he]; rfl
  have hnd : [p, M.ob, M.eb, M.nb, g, b].Nodup := by
    simp only [List.nodup_cons, List.mem_cons, List.not_mem_nil, or_false, not_or, List.nodup_nil, not_false_eq_true, and_true] at h4 hg4 hb4 ⊢
    exact ⟨⟨h4.1.1, h4.1.2.1, h4.1.2.2, fun e => hg4.1 e.symm, fun e => hb4.1 e.symm⟩, ⟨h4.2.1.1, h4.2.1.2, fun e => hg4.2.1 e.symm, fun e => hb4.2.1 e.symm⟩, ⟨h4.2.2, fun e => hg4.2.2.1 e.symm, fun e => hb4.2.2.1 e.symm⟩, ⟨fun e => hg4.2.2.2 e.symm, fun e => hb4.2.2.2 e.symm⟩, hgb⟩
  have hput := fun (w' : World) (b' : Nat) (O : Only [p, M.ob, M.eb, M.nb, g, b] w w') hB hM hE hN hO hb hbn => h.putC (b' := b') (o := ⟨cutA g off oc 10, oc - 1, l⟩) (s := m.chan) (n := m.sender) (e := newE m.chan x) (v := .int .i64 0) O (fun y hy => by
    simp only [List.mem_cons, List.not_mem_nil, or_false] at hy
    rcases hy with rfl | rfl | rfl | rfl | rfl | rfl
    · exact .inl (by simp)
    · exact .inl (by simp)
    · exact .inl (by simp)
    · exact .inl (by simp)
    · exact .inr (.inl ⟨og, hg1, hg2⟩)
    · exact .inr (.inr ⟨_, he, rfl⟩)) hB hM hE hN hO (fun y hy => by
      unfold OS.fp at hy
      rw [cutA_bk] at hy
      simp only [List.mem_singleton] at hy
      rw [hy]; exact ⟨og, hg1, hg2⟩) hb hbn
  have hrdO : ∀ w', OwnO cOp 36 10 w' (some ⟨g, off, none⟩) oc (x :: l) → RdX cOp w' (some ⟨g, off, none⟩) (x :: l) := fun w' h => h.rd cOp_len
  obtain ⟨ob, eb, nb, opens, glob, ends, nums, dead⟩ := M
  obtain ⟨xc, xg, xs, xp, xe, xd, xt, xw⟩ := z
  dsimp only at *
  subst hd
  subst hc
  obtain ⟨xw1, xp1⟩ := x
  dsimp only at hw
  refine Hs.enter Tryz.func10 [p, ob, eb, nb, g, b] [p, ob, eb, nb, 0, b] [.b true 55 (wS ⟨ob, eb, nb, opens, glob, ends, nums, false⟩), HB.mp (kI .u32) ob (mapA OS.val opens), HB.mp (kI .u32) eb (mapA (fun x : Nat × EN => ptrV x.1) ends), HB.mp (kI .u32) nb (mapA u32V nums), HB.oo cOp 36 10 (some ⟨g, off, none⟩) oc ((xw1, xp1) :: l), .b true 49 (EN.sc ⟨xc, xg, xs, xp, xe, true, xt, xw⟩)] [.c (.p 0 0), .g (mdS m)] (Mem.startN (β := [p, ob, eb, nb, 0, b]) (hp := [.b true 55 (wS ⟨ob, eb, nb, opens, glob, ends, nums, false⟩), HB.mp (kI .u32) ob (mapA OS.val opens), HB.mp (kI .u32) eb (mapA (fun x : Nat × EN => ptrV x.1) ends), HB.mp (kI .u32) nb (mapA u32V nums), HB.oo cOp 36 10 (some ⟨g, off, none⟩) oc ((xw1, xp1) :: l), .b true 49 (EN.sc ⟨xc, xg, xs, xp, xe, true, xt, xw⟩)]) rfl hnd ⟨hb, ⟨hmo, fun a ha => by injection ha with ha; subst ha; exact hmo.lt⟩, ⟨hme, fun a ha => by injection ha with ha; subst ha; exact hme.lt⟩, ⟨hmn, fun a ha => by injection ha with ha; subst ha; exact hmn.lt⟩, ⟨hoo, hoo.lt⟩, hE, trivial⟩) (by kernel_rfl) (by kernel_rfl) ?_
  refine Hs.run1 300 (fun _ => by kernel_rfl) fun b0 => ?_
  refine Hs.condF (by kernel_rfl) ?_
  refine Hs.run0 300 (fun _ => by kernel_rfl) ?_
  refine Hs.condF (by kernel_rfl) ?_
  refine Hs.run0 300 (fun _ => by kernel_rfl) ?_
  refine Hs.any [0, 6] (by kernel_rfl) ?_
  refine Hs.run0 300 (fun _ => by kernel_rfl) ?_
  refine Hs.callQ (X := Nat) (fun r => some ⟨r, 0, none⟩) (fun r => .map (some r)) (fun r w' => MapM (kI .i64) w' r (forL p)) (fun r => MapM.st) (fun w' H => forL_any p w') (by kernel_rfl) (by kernel_rfl) fun r => ?_
  refine Hs.run0 300 (fun _ => by kernel_rfl) ?_
  refine Hs.getM (r := r) (es := forL p) keyH m.kind true (.tuple #[mV 28 p, .bool true]) (by rw [hk]; rfl) (by kernel_rfl) (fun w' H => H.mapM 7 (by kernel_rfl)) ?_
  refine Hs.run0 300 (fun _ => by kernel_rfl) ?_
  refine Hs.condT (by kernel_rfl) ?_
  refine Hs.run0 300 (fun _ => by kernel_rfl) ?_
  refine Hs.inl Tryz.func28 [.c (.p 0 0), .g (mdS m)] (by kernel_rfl) (by kernel_rfl) ?_
  refine Hs.run1 300 (fun _ => by kernel_rfl) fun b1 => ?_
  refine Hs.any [0, 6, 8] (by kernel_rfl) ?_
  refine Hs.run0 300 (fun _ => by kernel_rfl) ?_
  refine Hs.getM (r := ob) (es := mapA OS.val opens) keyOp m.chan false (.slice (some ⟨g, off, none⟩) ln oc) hlook (by kernel_rfl) (fun w' H => H.mapM 1 (by kernel_rfl)) ?_
  refine Hs.run0 300 (fun _ => by kernel_rfl) ?_
  refine Hs.condP ((ln : Int) = 0) (by kernel_rfl) (fun e => by omega) (fun _ => ?_)
  refine Hs.run0 300 (fun _ => by kernel_rfl) ?_
  refine Hs.any [0, 6, 8] (by kernel_rfl) ?_
  refine Hs.run0 300 (fun _ => by kernel_rfl) ?_
  refine Hs.getM (r := eb) (es := mapA (fun x => ptrV x.1) ends) keyEn m.chan true (.tuple #[ptrV b, .bool true]) hlookE (by kernel_rfl) (fun w' H => H.mapM 2 (by kernel_rfl)) ?_
  refine Hs.run0 300 (fun _ => by kernel_rfl) ?_
  refine Hs.slot 5 (.c (.p 5 0)) (by kernel_rfl) (by kernel_rfl) ?_
  refine Hs.rung0 [1] 300 (fun _ => by kernel_rfl) ?_
  refine Hs.condF (by kernel_rfl) ?_
  refine Hs.run0 300 (fun _ => by kernel_rfl) ?_
  refine Hs.inl Tryz.func43 [.c (.p 0 0), .c (.v (.int .u32 m.chan))] (by kernel_rfl) (by kernel_rfl) ?_
  refine Hs.run1 300 (fun _ => by kernel_rfl) fun b2 => ?_
  refine Hs.getM (r := ob) (es := mapA OS.val opens) keyOp m.chan false (.slice (some ⟨g, off, none⟩) ln oc) hlook (by kernel_rfl) (fun w' H => H.mapM 1 (by kernel_rfl)) ?_
  refine Hs.run0 300 (fun _ => by kernel_rfl) ?_
  refine Hs.condP ((ln : Int) = 0) (by kernel_rfl) (fun e => by omega) (fun _ => ?_)
  refine Hs.run0 300 (fun _ => by kernel_rfl) ?_
  refine Hs.any [0, 1007] (by kernel_rfl) ?_
  refine Hs.run0 300 (fun _ => by kernel_rfl) ?_
  refine Hs.cutN (g := g) (off := off) (len := ln) (cap := oc) elemMs hl0 (by kernel_rfl) ?_
  refine Hs.run0 300 (fun _ => by kernel_rfl) ?_
  refine Hs.setM 1 keyOp (r := ob) (es := mapA OS.val opens) m.chan (.slice (cutA g off oc 10) (ln - 1) (oc - 1)) (by kernel_rfl) (by kernel_rfl) (by kernel_rfl) ?_
  refine Hs.run0 300 (fun _ => by kernel_rfl) ?_
  refine Hs.idx (b := g) (off := off) (len := ln) (c := oc) (i := 0) elemMs hl0 (by kernel_rfl) ?_
  refine Hs.run0 300 (fun _ => by kernel_rfl) ?_
  refine Hs.ldx (cf := cOp) (size := 10) (E := 36) (b := g) (off := off) (i := 0) (l := (xw1, xp1) :: l) (x := (xw1, xp1)) cOp_len (.g ((cOp (xw1, xp1)).map SC.v)) (by kernel_rfl) (fun w' H => hrdO w' (H.atQ 4 (wr := true) (A := some ⟨g, off, none⟩) (Q := fun w => OwnO cOp 36 10 w (some ⟨g, off, none⟩) oc ((xw1, xp1) :: l)) (st := OwnO.stq) (by kernel_rfl))) rfl (by kernel_rfl) (by kernel_rfl) rfl (by kernel_rfl) ?_
  refine Hs.run0 300 (fun _ => by kernel_rfl) ?_
  refine Hs.retI Tryz.func43 (by kernel_rfl) (by kernel_rfl) (by kernel_rfl) ?_
  refine Hs.run1 300 (fun _ => by kernel_rfl) fun b3 => ?_
  refine Hs.any [0, 8, 10, 1015] (by kernel_rfl) ?_
  refine Hs.run1 300 (fun _ => by kernel_rfl) fun b4 => ?_
  refine Hs.setM 2 keyEn (r := eb) (es := mapA (fun x : Nat × EN => ptrV x.1) ends) m.chan (ptrV b4) (by kernel_rfl) (by kernel_rfl) (by kernel_rfl) ?_
  refine Hs.run0 300 (fun _ => by kernel_rfl) ?_
  refine Hs.any [0, 8, 1008] (by kernel_rfl) ?_
  refine Hs.run0 300 (fun _ => by kernel_rfl) ?_
  refine Hs.setM 3 keyNu (r := nb) (es := mapA u32V nums) m.sender (.int .u32 m.chan) (by kernel_rfl) (by kernel_rfl) (by kernel_rfl) ?_
  refine Hs.run0 300 (fun _ => by kernel_rfl) ?_
  refine Hs.retI Tryz.func28 (by kernel_rfl) (by kernel_rfl) (by kernel_rfl) ?_
  refine Hs.run0 300 (fun _ => by kernel_rfl) ?_
  refine Hs.ret (v := .int .i64 0) Tryz.func10 (by kernel_rfl) fun w' H => ?_
  refine hput w' b4 H.only (H.at 0 (wr := true) (T := 55) (cs := wS ⟨ob, eb, nb, opens, glob, ends, nums, false⟩) (by kernel_rfl)) ?_ (H.mapM 2 (r := eb) (ke := kI .u32) (es := setE m.chan (ptrV b4) (mapA (fun x : Nat × EN => ptrV x.1) ends)) (by kernel_rfl)) (H.mapM 3 (r := nb) (ke := kI .u32) (es := setE m.sender (.int .u32 m.chan) (mapA u32V nums)) (by kernel_rfl)) ?_ ?_ ?_
  · have := H.mapM 1 (r := ob) (ke := kI .u32) (es := setE m.chan (.slice (cutA g off oc 10) (ln - 1) (oc - 1)) (mapA OS.val opens)) (by kernel_rfl)
    rw [show OS.val ⟨cutA g off oc 10, oc - 1, l⟩ = .slice (cutA g off oc 10) (ln - 1) (oc - 1) by rw [← hln]; rfl]
    exact this
  · exact OwnO.cutS cOp_len (H.atQ 4 (wr := true) (A := some ⟨g, off, none⟩) (Q := fun w => OwnO cOp 36 10 w (some ⟨g, off, none⟩) oc ((xw1, xp1) :: l)) (st := OwnO.stq) (by kernel_rfl))
  · have := H.at 11 (wr := true) (T := 49) (cs := EN.sc ⟨m.chan, IntKind.u64.wrap xw1, 0, xp1, false, false, false, 0⟩) (by kernel_rfl)
    rw [hw] at this
    exact this
  · have hfr := (H.sub [0, 1, 2, 3, 4, 5, 11] (by decide) (hp' := [.b true 55 (wS ⟨ob, eb, nb, opens, glob, ends, nums, false⟩), HB.mp (kI .u32) ob (setE m.chan (.slice (cutA g off oc 10) (ln - 1) (oc - 1)) (mapA OS.val opens)), HB.mp (kI .u32) eb (setE m.chan (ptrV b4) (mapA (fun x : Nat × EN => ptrV x.1) ends)), HB.mp (kI .u32) nb (setE m.sender (.int .u32 m.chan) (mapA u32V nums)), HB.oo cOp 36 10 (some ⟨g, off, none⟩) oc ((xw1, xp1) :: l), .b true 49 (EN.sc ⟨xc, xg, xs, xp, xe, true, xt, xw⟩), .b true 49 (EN.sc ⟨m.chan, IntKind.u64.wrap xw1, 0, xp1, false, false, false, 0⟩)]) (by kernel_rfl)).bks rfl
    have hnd2 : [p, ob, eb, nb, g, b, b4].Nodup := hfr.1
    have h1 : b4 ∈ [p, ob, eb, nb, g, b] ∨ w.heap.size ≤ b4 := (hfr.2 b4 (show b4 ∈ [p, ob, eb, nb, g, b, b4] by simp)).1
    rcases h1 with h1 | h1
    · exfalso
      rw [show [p, ob, eb, nb, g, b, b4] = [p, ob, eb, nb, g, b] ++ [b4] from rfl, List.nodup_append] at hnd2
      exact hnd2.2.2 b4 h1 b4 (by simp) rfl
    · exact h1
theorem hears_confirm (M : WM) (p : Nat) (m : MD) (w : World) (h : WAt w p M) (hd : M.dead = false) (hk : m.kind = 91) (hw : ∀ x ∈ M.opens, ∀ y ∈ x.2.l, U32 y.1) (ok : Bool) : Calls Tryz.prog 10 #[ptrV p, m.val] w (WtPost M p (hearsS M.abs m ok).1 (.int .i64 (hearsS M.abs m ok).2) w) := by
  cases hn : ((lookA m.chan M.opens).map OS.l).getD [] with
  | nil => exact hears_confirm0 M p m w h hd hk hn ok
  | cons x l =>
    have hx : U32 x.1 := by
      cases e : lookA m.chan M.opens with
      | none => rw [e] at hn; cases hn
      | some o =>
        rw [e] at hn
        have e2 : o.l = x :: l := hn
        exact hw _ (lookA_mem e) x (by rw [e2]; simp)
    cases he : lookA m.chan M.ends with
    | none => exact hears_confirmA M p m w h hd hk hn he hx ok
    | some z =>
      obtain ⟨b, z⟩ := z
      cases hc : z.closed with
      | true => exact hears_confirmB M p m w h hd hk hn he hc hx ok
      | false => exact hears_confirm9 M p m w h hd hk (by rw [hn]; simp) he hc ok
/-- Hears. -/
theorem hears_any (M : WM) (p : Nat) (m : MD) (i0 : Int) (w : World) (h : WAt w p M) (hw : ∀ x ∈ M.opens, ∀ y ∈ x.2.l, U32 y.1) (hp : ∀ x ∈ M.ends, U32 x.2.2.packet) (hm : Keeps w (M.fp p) (MsgIn i0 m)) : Calls Tryz.prog 10 #[ptrV p, m.val] w (WtPost M p (hearsS M.abs m (okEx m)).1 (.int .i64 (hearsS M.abs m (okEx m)).2) w) := by
  cases hd : M.dead with
  | true => exact hears_dead M p m w h hd _
  | false =>
    by_cases h1 : m.kind = 1
    · exact hears_left M p m w h hd h1 _
    by_cases h2 : m.kind = 81 ∨ m.kind = 82
    · exact hears_global M p m w h hd h2 _
    by_cases h3 : m.kind = 91
    · exact hears_confirm M p m w h hd h3 hw _
    by_cases h4 : m.kind = 92
    · cases hn : ((lookA m.chan M.opens).map OS.l).getD [] with
      | nil => exact hears_fail0 M p m w h hd h4 hn _
      | cons x l => exact hears_fail1 M p m w h hd h4 hn _
    have hk : NotAll m.kind := ⟨h1, fun e => h2 (.inl e), fun e => h2 (.inr e), h3, h4⟩
    cases he : lookA m.chan M.ends with
    | none => exact hears_no M p m w h hd hk he _
    | some z =>
      obtain ⟨b, z⟩ := z
      exact hears_end M p m i0 w h hd hk he (hp _ (lookA_mem he)) hm
end Go.Proofs.YtkgikodiecmakaaGreatDoor

namespace Go.Proofs.YtkgikodiecmakaaGreatDoor
set_option linter.all false
set_option maxRecDepth 100000
open Go.RowKit Go.MapKept Go.Maps Go.WideElems Go.WideShapes

def RN (v : Value) : Option (DataW Unit × List MemPlace) := some (.nil, [])
def u32c (x : Int) : List Value := [.int .u32 x]
theorem keyOf_u (k : Int) (h : U32 k) : keyOf Tryz.prog 33 (.int .u32 k) = some (.int .u32 k) := by
  have h1 : Tryz.prog.underlying 33 = some (.int .u32) := by kernel_rfl
  have h2 : (Lit.int .u32 k).wf = true := by
    unfold U32 at h
    simp [Lit.wf, IntKind.min, IntKind.max, IntKind.signed, IntKind.bits]
    omega
  simp [keyOf, h1, mapKey, h2]
theorem own_map {w : World} {r : Nat} {es : List (Int × Value)} (hM : MapM (kI .u32) w r es) (hU : ∀ x ∈ es, U32 x.1) (hl : es.length ≤ 1000000) : ∃ D : DataW Unit, w.ownsMap Tryz.prog 33 RN r es.length D ∧ (u32Keys D).Perm (es.map (·.1)) ∧ Maps.size D = es.length := by
  obtain ⟨a, clock, hb, he, hst⟩ := hM
  have hsz : a.size = es.length := by
    have := congrArg List.length he
    simpa using this
  have hin : ∀ x ∈ a.toList, ∃ p ∈ es, x.key = .int .u32 p.1 := fun x hx => by
    have h1 : (x.key, x.val) ∈ a.toList.map (fun e => (e.key, e.val)) := List.mem_map_of_mem hx
    rw [he] at h1
    obtain ⟨p, hp, e⟩ := List.mem_map.1 h1
    injection e with e1 e2
    exact ⟨p, hp, e1.symm⟩
  have hrd : ∀ x ∈ a.toList, ∃ p ∈ es, x.key = .int .u32 p.1 ∧ rd Tryz.prog 33 RN x = some (.int .u32 p.1, .nil) := fun x hx => by
    obtain ⟨p, hp, e⟩ := hin x hx
    refine ⟨p, hp, e, ?_⟩
    unfold rd
    rw [e, keyOf_u p.1 (hU p hp)]
    rfl
  refine ⟨_, ⟨a, clock, hb, ⟨by rw [hsz]; unfold maxLen; omega, hst, fun x hx => ?_⟩, by omega, rfl⟩, ?_, ?_⟩
  · obtain ⟨p, _, _, h⟩ := hrd x hx
    exact ⟨_, h⟩
  · show (((a.toList.map (rg Tryz.prog 33 RN)).foldr DataW.insert []).map fun p => Go.intOf p.1).Perm _
    refine ((sorted_perm (a.toList.map (rg Tryz.prog 33 RN))).map _).trans ?_
    rw [List.map_map]
    have e1 : a.toList.map ((fun p : Lit × DataW Unit => Go.intOf p.1) ∘ rg Tryz.prog 33 RN) = (a.toList.map fun e => (e.key, e.val)).map fun v => (match v.1 with | .int _ n => n | _ => 0) := by
      rw [List.map_map]
      refine List.map_congr_left fun x hx => ?_
      obtain ⟨p, _, e, h⟩ := hrd x hx
      show Go.intOf (rg Tryz.prog 33 RN x).1 = _
      unfold rg
      rw [h]
      show p.1 = (match x.key with | .int _ n => n | _ => 0)
      rw [e]
    rw [e1, he, List.map_map]
    exact List.Perm.refl _
  · show ((a.toList.map (rg Tryz.prog 33 RN)).foldr DataW.insert []).length = _
    rw [(sorted_perm (a.toList.map (rg Tryz.prog 33 RN))).length_eq, List.length_map]
    simpa using hsz
theorem keys_any (eb : Nat) (w : World) : Calls Tryz.prog 25 #[.map (some eb)] w fun e w' => e = .returned (.func (.func 42) #[] #[.pointer (some ⟨w.heap.size, 0, none⟩)]) ∧ w' = w.alloc (.cells #[.map (some eb)] 52) :=
  (callsIn_wide (n := 1)).1 (Ku.keys_in Fence.wide 1 trivial rfl (some eb) w)
theorem sorts_wide (m : Nat) : Ku.SortsIn Fence.wide m :=
  ⟨fun blk off cap ss W h1 h2 h3 => callsIn_wide.2 (Su.slices_Sort_int blk off cap ss W h1 h2 h3), fun p cap W => callsIn_wide.2 (Su.Sort_int_nil p cap W)⟩
theorem sorted_any (B eb : Nat) (es : List (Int × Value)) (w : World) (hB : w.cell? ⟨B, 0, none⟩ = some (.map (some eb))) (hM : MapM (kI .u32) w eb es) (hU : ∀ x ∈ es, U32 x.1) (hl : es.length ≤ 1000000) :
    Calls Tryz.prog 24 #[.func (.func 42) #[] #[.pointer (some ⟨B, 0, none⟩)]] w fun e w' => ∃ (A : Option Addr) (cap : Nat), e = .returned (.slice A es.length cap) ∧ Only [] w w' ∧ OwnX u32c 33 1 w' w.heap.size (.slice A es.length cap) ((es.map (·.1)).mergeSort Go.leI) := by
  obtain ⟨D, hown, hperm, hsize⟩ := own_map hM hU hl
  have hBl : B < w.heap.size := block_lt_of_cell hB
  have hseq := Ku.keys_gives (H := Unit) Fence.wide 7 trivial rfl (by decide) B eb es.length D w hBl hB hown
  have h := Ku.sorted_in Fence.wide 10 trivial trivial trivial trivial rfl (by decide) (sorts_wide 9) (fun args w => by kernel_rfl) 42 #[.pointer (some ⟨B, 0, none⟩)] trivial (fun args w => by kernel_rfl) (fun ss => ss.Perm (u32Keys D)) (Maps.size D) (by rw [hsize]; unfold maxLen; omega) (by rw [hsize]; omega) w hseq
  refine ((callsIn_wide (n := 10)).1 h).mono ?_
  rintro e w' ⟨v, ss, rfl, hS, hrow, hnil, hb⟩
  have hp2 : ss.Perm (es.map (·.1)) := hS.trans hperm
  have hlen : ss.length = es.length := by have := hp2.length_eq; simpa using this
  have hsort := mergeSort_of_perm_i hp2
  have hrow2 : OwnX u32c 33 1 w' w.heap.size v ((es.map (·.1)).mergeSort Go.leI) := by
    unfold OwnX
    rw [← hsort, List.length_mergeSort]
    have e : (ss.mergeSort Go.leI).flatMap u32c = (ss.mergeSort fun x y => decide (x ≤ y)).map encU := by
      generalize (ss.mergeSort fun x y => decide (x ≤ y)) = l
      induction l with
      | nil => rfl
      | cons a l ih => rw [List.flatMap_cons, ih]; rfl
    rw [e]
    exact hrow
  obtain ⟨A, cap, e, _, _, _, _⟩ := hrow2.form
  rw [List.length_mergeSort, List.length_map] at e
  subst e
  exact ⟨A, cap, rfl, only_of_below hb, hrow2⟩
end Go.Proofs.YtkgikodiecmakaaGreatDoor

namespace Go.Proofs.YtkgikodiecmakaaGreatDoor
set_option linter.all false
set_option maxRecDepth 100000
open Go.RowKit Go.MapKept

theorem EN_len (x : EN) : x.cells.length = 8 := rfl
theorem EN_one (x : EN) : ∀ u ∈ x.cells, u.oneCell' = true := by
  intro u hu
  simp only [EN.cells, List.mem_cons, List.not_mem_nil, or_false] at hu
  rcases hu with h | h | h | h | h | h | h | h <;> subst h <;> rfl
theorem elemTE : ElemT Tryz.prog 43 49 8 (Tryz.prog.bytesOf 49) := elemT_of (z := .agg #[.int .u32 0, .int .u64 0, .int .u64 0, .int .u32 0, .bool false, .bool false, .bool false, .int .i64 0]) (by kernel_rfl) (by kernel_rfl) (by decide) (by decide)
theorem elemU32 : ElemT Tryz.prog 73 33 1 (Tryz.prog.bytesOf 33) := elemT_of (z := .int .u32 0) (by kernel_rfl) (by kernel_rfl) (by decide) (by decide)
theorem u32c_len (x : Int) : (u32c x).length = 1 := rfl
theorem u32c_one (x : Int) : ∀ u ∈ u32c x, u.oneCell' = true := by
  intro u hu
  simp only [u32c, List.mem_singleton] at hu
  subst hu; rfl
theorem by_te {n : Nat} (h : n ≤ 1000000) : (n + 1) * Tryz.prog.bytesOf 49 ≤ 140737488355328 := by
  have e : Tryz.prog.bytesOf 49 = 40 := by kernel_rfl
  rw [e]; omega
/-- A new watch. -/
theorem new29_any (w : World) : Calls Tryz.prog 7 #[] w fun e w' => ∃ (p : Nat) (M : WM), e = .returned (ptrV p) ∧ Only [] w w' ∧ WAt w' p M ∧ M.abs = newW ∧ ∀ y ∈ M.fp p, y < w'.heap.size ∧ w.heap.size ≤ y := by
  refine Hs.enter Tryz.func7 [] [] [] [] (Mem.start0 w) (by kernel_rfl) (by kernel_rfl) ?_
  refine Hs.run0 300 (fun _ => by kernel_rfl) ?_
  refine Hs.mkM (T := 51) (kI .u32) (by kernel_rfl) (by kernel_rfl) fun ob => ?_
  refine Hs.mkM (T := 52) (kI .u32) (by kernel_rfl) (by kernel_rfl) fun eb => ?_
  refine Hs.mkM (T := 53) (kI .u32) (by kernel_rfl) (by kernel_rfl) fun nb => ?_
  refine Hs.run1 300 (fun _ => by kernel_rfl) fun p => ?_
  refine Hs.ret (v := ptrV p) Tryz.func7 (by kernel_rfl) fun w' H => ?_
  have H2 := H.sub [0, 1, 2, 3] (by decide) (hp' := [HB.mp (kI .u32) ob [], HB.mp (kI .u32) eb [], HB.mp (kI .u32) nb [], .b true 55 [.v (.map (some ob)), .v (.int .i64 0), .v (.map (some eb)), .v (.map (some nb)), .v (.bool false)]]) (by kernel_rfl)
  obtain ⟨hnd, hfr⟩ := H2.bks rfl
  have hnd : [ob, eb, nb, p].Nodup := hnd
  refine ⟨p, ⟨ob, eb, nb, [], 0, [], [], false⟩, rfl, H.only, ⟨H2.at 3 (wr := true) (T := 55) (cs := [.v (.map (some ob)), .v (.int .i64 0), .v (.map (some eb)), .v (.map (some nb)), .v (.bool false)]) rfl, H2.mapM 0 (r := ob) (ke := kI .u32) (es := ([] : List (Int × Value))) rfl, H2.mapM 1 (r := eb) (ke := kI .u32) (es := ([] : List (Int × Value))) rfl, H2.mapM 2 (r := nb) (ke := kI .u32) (es := ([] : List (Int × Value))) rfl, by simp, by simp, ?_, by simp [KeysA], by simp [KeysA], by simp [KeysA]⟩, rfl, fun y hy => ?_⟩
  · simp only [WM.fp, fpA, List.flatMap_nil, List.append_nil]
    simp only [List.nodup_cons, List.mem_cons, List.not_mem_nil, or_false, not_or, List.nodup_nil, not_false_eq_true, and_true] at hnd ⊢
    exact ⟨⟨fun e => hnd.1.2.2 e.symm, fun e => hnd.2.1.2 e.symm, fun e => hnd.2.2 e.symm⟩, ⟨hnd.1.1, hnd.1.2.1⟩, hnd.2.1.1⟩
  · simp only [WM.fp, fpA, List.flatMap_nil, List.append_nil] at hy
    have h1 : y ∈ [ob, eb, nb, p] := by
      simp only [List.mem_cons, List.not_mem_nil, or_false] at hy ⊢
      rcases hy with h | h | h | h
      · exact .inr (.inr (.inr h))
      · exact .inl h
      · exact .inr (.inl h)
      · exact .inr (.inr (.inl h))
    have := hfr y h1
    exact ⟨this.2, this.1.resolve_left (by simp)⟩
/-- Whether the server has left. -/
theorem dead29_any (M : WM) (p : Nat) (w : World) (hb : Blk w p 55 M.cells) : Calls Tryz.prog 15 #[ptrV p] w fun e w' => e = .returned (.bool M.dead) ∧ Only [] w w' := by
  refine Hs.enter Tryz.func15 [] [p] [.b false 55 (wS M)] [.c (.p 0 0)] (Mem.rdOne w p hb) (by kernel_rfl) (by kernel_rfl) ?_
  refine Hs.run0 300 (fun _ => by kernel_rfl) ?_
  refine Hs.rung0 [2] 300 (fun _ => by kernel_rfl) ?_
  exact Hs.ret (v := .bool M.dead) Tryz.func15 (by kernel_rfl) fun w' H => ⟨rfl, H.only⟩
theorem cell_box (w : World) (v : Value) (T : TypeId) : (w.alloc (.cells #[v] T)).cell? ⟨w.heap.size, 0, none⟩ = some v := by
  have h : Blk (w.alloc (.cells #[v] T)) w.heap.size T [v] := heap_alloc_new w (.cells #[v] T)
  rw [h.cell]; rfl
/-- The channels there were, by their numbers. -/
def endsK (S : WS) : List Int := (S.ends.map (·.1)).mergeSort Go.leI
def zeroE : EN := ⟨0, 0, 0, 0, false, false, false, 0⟩
def endsL (S : WS) : List EN := (endsK S).map fun k => (lookA k S.ends).getD zeroE
theorem endsL_len (S : WS) : (endsL S).length = S.ends.length := by simp [endsL, endsK]
theorem endsK_look {S : WS} {k : Int} (h : k ∈ endsK S) : ∃ x, lookA k S.ends = some x := by
  have h2 : k ∈ S.ends.map (·.1) := ((List.mergeSort_perm _ _).mem_iff).1 h
  cases e : lookA k S.ends with
  | none => exact absurd h2 (lookA_none e)
  | some x => exact ⟨x, rfl⟩
theorem ends29_anyW (M : WM) (p : Nat) (w : World) (h : WAt w p M) (hU : ∀ x ∈ M.ends, U32 x.1) (hn : M.ends.length ≤ 1000000) : Calls Tryz.prog 12 #[ptrV p] w fun e w' => ∃ A cap, e = .returned (.slice A M.ends.length cap) ∧ Only [] w w' ∧ OwnX EN.cells 49 8 w' w.heap.size (.slice A M.ends.length cap) (endsL M.abs) := by
  have hb := h.blk
  have hme := h.me
  have hes := h.es
  have hlen : (endsL M.abs).length = M.ends.length := by rw [endsL_len]; simp [WM.abs, mapA]
  obtain ⟨N, hN⟩ : ∃ N, M.ends.length = N := ⟨_, rfl⟩
  have hKl : (endsK M.abs).length = N := by simp [endsK, WM.abs, mapA, hN]
  have hsort : ∀ (B : Nat) (w' : World), w'.cell? ⟨B, 0, none⟩ = some (.map (some M.eb)) → Only [] w w' → Calls Tryz.prog 24 #[.func (.func 42) #[] #[.pointer (some ⟨B, 0, none⟩)]] w' fun e w2 => ∃ (A : Option Addr) (cap : Nat), e = .returned (.slice A N cap) ∧ Only [] w' w2 ∧ OwnX u32c 33 1 w2 w'.heap.size (.slice A N cap) (endsK M.abs) := fun B w' hB O => by
    have := sorted_any B M.eb (mapA (fun x => ptrV x.1) M.ends) w' hB (hme.only O (by simp)) (fun x hx => by
      obtain ⟨y, hy, rfl⟩ := List.mem_map.1 hx
      exact hU y hy) (by simp [mapA]; omega)
    have e1 : (mapA (fun x => ptrV x.1) M.ends).length = N := by simp [mapA, hN]
    have e2 : (mapA (fun x => ptrV x.1) M.ends).map (·.1) = M.abs.ends.map (·.1) := by simp [WM.abs, mapA, Function.comp_def]
    rw [e1, e2] at this
    exact this
  have hlook : ∀ k ∈ endsK M.abs, ∃ (b : Nat) (x : EN), lookM k (mapA (fun x => ptrV x.1) M.ends) = some (ptrV b) ∧ lookA k M.abs.ends = some x ∧ Blk w b 49 x.cells := fun k hk => by
    obtain ⟨x, hx⟩ := endsK_look hk
    have hx' := hx
    unfold WM.abs at hx
    dsimp only at hx
    rw [lookA_map] at hx
    cases e : lookA k M.ends with
    | none => rw [e] at hx; cases hx
    | some z =>
      rw [e] at hx
      injection hx with hx
      refine ⟨z.1, x, by rw [lookM_A, e]; rfl, hx', ?_⟩
      rw [← hx]
      exact hes _ (lookA_mem e)
  rw [hN] at hlen hn ⊢
  obtain ⟨K, hK⟩ : ∃ K, endsK M.abs = K := ⟨_, rfl⟩
  obtain ⟨E, hE⟩ : ∃ E, endsL M.abs = E := ⟨_, rfl⟩
  have hEK : ∀ i k, K[i]? = some k → ∃ (b : Nat) (x : EN), lookM k (mapA (fun x => ptrV x.1) M.ends) = some (ptrV b) ∧ E[i]? = some x ∧ Blk w b 49 x.cells := fun i k hk => by
    obtain ⟨b, x, h1, h2, h3⟩ := hlook k (by rw [hK]; exact List.mem_of_getElem? hk)
    refine ⟨b, x, h1, ?_, h3⟩
    rw [← hE]
    unfold endsL
    rw [hK, List.getElem?_map, hk]
    simp [h2]
  rw [hK] at hsort hKl
  rw [hE] at hlen ⊢
  clear hlook hes hK hE h
  obtain ⟨ob, eb, nb, opens, glob, ends, nums, dead⟩ := M
  dsimp only at *
  refine Hs.enter Tryz.func12 [] [p] [.b false 55 (wS ⟨ob, eb, nb, opens, glob, ends, nums, dead⟩)] [.c (.p 0 0)] (Mem.rdOne w p hb) (by kernel_rfl) (by kernel_rfl) ?_
  refine Hs.run0 300 (fun _ => by kernel_rfl) ?_
  refine Hs.condF (by kernel_rfl) ?_
  refine Hs.run0 300 (fun _ => by kernel_rfl) ?_
  refine Hs.callQ (X := Nat) (fun r => some ⟨r, 0, none⟩) (fun r => .func (.func 42) #[] #[.pointer (some ⟨r, 0, none⟩)]) (fun r w' => w'.cell? ⟨r, 0, none⟩ = some (.map (some eb))) (fun r w w' h1 h2 h => (World.cell?_of_block (w := w) (h1 _ rfl)).trans h) (fun w' H => (keys_any eb w').mono fun e w2 ⟨h1, h2⟩ => ⟨w'.heap.size, h1, by rw [h2]; exact (Only.refl _ _).alloc _, by rw [h2]; exact cell_box w' (.map (some eb)) 52, fun a ha => by injection ha with ha; subst ha; rw [h2]; exact ⟨Nat.le_refl _, by simp⟩⟩) (by kernel_rfl) (by kernel_rfl) fun B => ?_
  refine Hs.run0 300 (fun _ => by kernel_rfl) ?_
  refine Hs.callS (cf := u32c) (E := 33) (size := 1) (fun A cap => .slice A N cap) K N hKl (fun w' H => hsort B w' (H.atQ 1 (wr := true) (A := some ⟨B, 0, none⟩) (Q := fun w' => w'.cell? ⟨B, 0, none⟩ = some (.map (some eb))) (st := fun w w' h1 h2 h => (World.cell?_of_block (w := w) (h1 _ rfl)).trans h) (by kernel_rfl)) H.only) (by kernel_rfl) (by kernel_rfl) fun kA kc hk1 hk2 => ?_
  refine Hs.run0 300 (fun _ => by kernel_rfl) ?_
  refine Hs.nilS 49 8 (by kernel_rfl) ?_ (by kernel_rfl)
  have J : ∀ (d i : Nat) (pre rest : List EN), N - i = d → pre ++ rest = E → pre.length = i → ∀ (oA : Option Addr) (oc : Nat) (u : Nat → Value), Hs Tryz.prog 12 (fun e w' => ∃ A cap, e = .returned (.slice A N cap) ∧ Only [] w w' ∧ OwnX EN.cells 49 8 w' w.heap.size (.slice A N cap) E) (Tryz.f12).ntmps w [] [p, 0, 0] ⟨.no, loopAt Tryz.f12 0, pins [(0, .c (.p 0 0)), (3, .c (.v (.slice oA i oc))), (13, .c (.v (.slice kA N kc))), (14, .c (.v (.int .i64 N))), (15, .c (.v (.int .i64 (i : Nat))))] (.vals u), [.b false 55 (wS ⟨ob, eb, nb, opens, glob, ends, nums, dead⟩), .s kA kc N 33 1 (K.flatMap u32c), .s oA oc i 49 8 (pre.flatMap EN.cells)]⟩ := by
    intro d
    induction d with
    | zero =>
      intro i pre rest hd hE hp oA oc u
      have hl : pre.length + rest.length = N := by rw [← hlen, ← hE, List.length_append]
      obtain rfl : i = N := by omega
      have hr : rest = [] := List.eq_nil_of_length_eq_zero (by omega)
      subst hr
      rw [List.append_nil] at hE
      subst hE
      refine Hs.run0 300 (fun _ => by kernel_rfl) ?_
      refine Hs.condP ((i : Int) < (i : Int)) (by kernel_rfl) (fun h => by omega) (fun _ => ?_)
      refine Hs.run0 300 (fun _ => by kernel_rfl) ?_
      exact Hs.ret (v := .slice oA i oc) Tryz.func12 (by kernel_rfl) fun w' H => ⟨oA, oc, rfl, H.only, H.fresh 2 hp (by kernel_rfl)⟩
    | succ d ih =>
      intro i pre rest hd hE hp oA oc u
      have hl : pre.length + rest.length = N := by rw [← hlen, ← hE, List.length_append]
      have hi : i < N := by omega
      cases rest with
      | nil => simp at hl; omega
      | cons x rest =>
        obtain ⟨k, hk⟩ : ∃ k, K[i]? = some k := ⟨_, List.getElem?_eq_getElem (by omega)⟩
        obtain ⟨b, x', hb1, hb2, hb3⟩ := hEK i k hk
        have hx : x' = x := by
          rw [← hE, List.getElem?_append_right (by omega), hp, Nat.sub_self] at hb2
          simpa using hb2.symm
        subst hx
        refine Hs.someS (A := kA) (cap := kc) (nl := N) (E := 33) (size := 1) (vs := K.flatMap u32c) 1 (by kernel_rfl) (by omega) fun g hA => ?_
        have ih' := fun oA oc u => ih (i + 1) (pre ++ [x']) rest (by omega) (by simpa using hE) (by simp [hp]) oA oc u
        clear ih
        subst hA
        refine Hs.run0 300 (fun _ => by kernel_rfl) ?_
        refine Hs.condP ((i : Int) < (N : Int)) (by kernel_rfl) (fun _ => ?_) (fun h => by omega)
        refine Hs.run0 300 (fun _ => by kernel_rfl) ?_
        refine Hs.idx (b := g) (off := 0) (len := N) (c := kc) (i := i) elemU32 hi (by kernel_rfl) ?_
        refine Hs.run0 300 (fun _ => by kernel_rfl) ?_
        refine Hs.ldc (E' := 33) (b := g) (off := 0 + i * 1) (.int .u32 k) (by kernel_rfl) (fun w' H => by
          have := rdX_cell u32c_len (H.rdX (cf := u32c) 1 hKl (A := some ⟨g, 0, none⟩) (cap := kc) (E := 33) (size := 1) (by kernel_rfl)) (i := i) (x := k) hk (j := 0) (v := .int .u32 k) rfl
          simpa using this) (by kernel_rfl) ?_
        refine Hs.run0 300 (fun _ => by kernel_rfl) ?_
        refine Hs.getM (r := eb) (es := mapA (fun x => ptrV x.1) ends) keyEn k false (ptrV b) (by rw [hb1]; rfl) (by kernel_rfl) (fun w' H => hme.only H.only (by simp)) ?_
        refine Hs.run0 300 (fun _ => by kernel_rfl) ?_
        refine Hs.ldx (cf := EN.cells) (size := 8) (E := 49) (b := b) (off := 0) (i := 0) (l := [x']) (x := x') EN_len (.g x'.sc) (by kernel_rfl) (fun w' H _ => by
          have hB : Blk w' b 49 x'.cells := Blk.only (L := []) hb3 H.only (by simp)
          exact ⟨b, 0, rfl, Blk.lt hB, fun j u hj => by rw [hB.cell, Nat.zero_add]; simpa using hj⟩) rfl (by kernel_rfl) (by kernel_rfl) rfl (by kernel_rfl) ?_
        refine Hs.run1 300 (fun _ => by kernel_rfl) fun q => ?_
        refine Hs.app (c := 1) (ty := 43) 2 elemTE pre [x'] i 1 hp rfl EN_one EN_len (A := oA) (B := some ⟨q, 0, none⟩) (cap := oc) (by kernel_rfl) (by kernel_rfl) (by kernel_rfl) (fun w' H => H.rdB (gs := [x']) 3 (wr := true) (T := 49) (cs := x'.sc) (by kernel_rfl) rfl) (by unfold maxLen; omega) (by_te (by omega)) fun eA eC ho => ?_
        refine Hs.run0 300 (fun _ => by kernel_rfl) ?_
        refine Hs.slot 15 (.c (.v (.int .i64 (i + 1 : Nat)))) rfl ((by kernel_rfl : _ = Value.int .i64 (IntKind.i64.wrap ((i : Int) + 1))).trans (congrArg (Value.int .i64) (by rw [IntWalk.i64_in _ (by omega)]; rfl))) ?_
        refine Hs.loop (by kernel_rfl) ?_
        exact Hs.goto (loopAt Tryz.f12 0) [0, 1, 2] [.b false 55 (wS ⟨ob, eb, nb, opens, glob, ends, nums, dead⟩), .s (some ⟨g, 0, none⟩) kc N 33 1 (K.flatMap u32c), .s eA eC (i + 1) 49 8 ((pre ++ [x']).flatMap EN.cells)] [(0, .c (.p 0 0)), (3, .c (.v (.slice eA (i + 1) eC))), (13, .c (.v (.slice (some ⟨g, 0, none⟩) N kc))), (14, .c (.v (.int .i64 N))), (15, .c (.v (.int .i64 (i + 1 : Nat))))] (by kernel_rfl) (by decide) (by kernel_rfl) (by kernel_rfl) (fun _ => (by kernel_rfl)) (fun u => ih' eA eC u)
  refine Hs.loop (by kernel_rfl) ?_
  exact Hs.goto (loopAt Tryz.f12 0) [0, 2, 3] [.b false 55 (wS ⟨ob, eb, nb, opens, glob, ends, nums, dead⟩), .s kA kc N 33 1 (K.flatMap u32c), .s none 0 0 49 8 []] [(0, .c (.p 0 0)), (3, .c (.v (.slice none 0 0))), (13, .c (.v (.slice kA N kc))), (14, .c (.v (.int .i64 N))), (15, .c (.v (.int .i64 (0 : Nat))))] (by kernel_rfl) (by decide) (by kernel_rfl) (by kernel_rfl) (fun _ => (by kernel_rfl)) (fun u => J N 0 [] E (by omega) rfl rfl none 0 u)
end Go.Proofs.YtkgikodiecmakaaGreatDoor

namespace Go.Proofs.YtkgikodiecmakaaGreatDoor
set_option linter.all false
set_option maxRecDepth 100000
open Go.RowKit Go.MapKept

/-- A line: the client's or the server's. -/
structure LN where
  mine : Bool
  m : MD
def LN.row (x : LN) : List Value := .bool x.mine :: x.m.cells
def LN.sc (x : LN) : List SC := .v (.bool x.mine) :: mdS x.m
theorem LN_len (x : LN) : x.row.length = 11 := rfl
theorem elemLn : ElemT Tryz.prog 22 38 11 (Tryz.prog.bytesOf 38) := elemT_of (z := .agg #[.bool false, .int .i64 0, .int .u32 0, .int .u32 0, .int .u32 0, .int .u32 0, .int .u32 0, .string ⟨#[]⟩, .string ⟨#[]⟩, .bool false, .slice none 0 0]) (by kernel_rfl) (by kernel_rfl) (by decide) (by decide)
theorem elemRE : ElemT Tryz.prog 29 61 8 (Tryz.prog.bytesOf 61) := elemT_of (z := .agg #[.int .u32 0, .int .u64 0, .int .u64 0, .int .u32 0, .bool false, .bool false, .bool false, .int .i64 0]) (by kernel_rfl) (by kernel_rfl) (by decide) (by decide)
theorem by_re {n : Nat} (h : n ≤ 1000000) : (n + 1) * Tryz.prog.bytesOf 61 ≤ 140737488355328 := by
  have e : Tryz.prog.bytesOf 61 = 40 := by kernel_rfl
  rw [e]; omega
theorem wrap_next29 {i n : Nat} (hn : n ≤ maxLen) (h : i < n := by assumption) : Value.int .i64 (IntKind.i64.wrap ((i : Int) + 1)) = (SV.c (.v (.int .i64 (i + 1 : Nat)))).den [] := by
  show Value.int .i64 _ = Value.int .i64 _
  rw [IntWalk.i64_in _ (by unfold maxLen at hn; omega)]
  rfl
theorem rGreat03b_any (m : MD) (w : World) : Calls Tryz.prog 16 #[m.val] w fun e w' => ∃ b : Bool, e = .returned (.bool b) ∧ Only [] w w' ∧ (b = false → m.data.length ≤ 100000) := by
  refine Hs.enter Tryz.func16 [] [] [] [.g (mdS m)] (Mem.start0 w) (by kernel_rfl) (by kernel_rfl) ?_
  refine Hs.run1 300 (fun _ => by kernel_rfl) fun b0 => ?_
  refine Hs.bool 7 (decide ((m.data.length : Int) > 100000)) (by kernel_rfl) (fun h => ?_) (fun h => ?_)
  · refine Hs.rung0 [4, 10] 300 (fun _ => (by kernel_rfl)) ?_
    exact Hs.ret (v := .bool true) Tryz.func16 (by kernel_rfl) fun w' H => ⟨true, rfl, H.only, fun h => by cases h⟩
  have h := of_decide_eq_false h
  refine Hs.rung0 [4] 300 (fun _ => (by kernel_rfl)) ?_
  refine Hs.bool 13 (decide ((m.name.size : Int) > 10000)) (by kernel_rfl) (fun h2 => ?_) (fun h2 => ?_)
  · refine Hs.rung0 [10] 300 (fun _ => (by kernel_rfl)) ?_
    exact Hs.ret (v := .bool true) Tryz.func16 (by kernel_rfl) fun w' H => ⟨true, rfl, H.only, fun h => by cases h⟩
  · refine Hs.rung0 [10] 300 (fun _ => (by kernel_rfl)) ?_
    exact Hs.ret (v := .bool (decide ((m.lang.size : Int) > 10000))) Tryz.func16 (by kernel_rfl) fun w' H => ⟨_, rfl, H.only, fun _ => by omega⟩
/-- What is looked at. -/
structure Few29 (l : List LN) : Prop where
  len : l.length ≤ 100
  each : ∀ x ∈ l, x.m.data.length ≤ 100000
set_option maxHeartbeats 1000000 in
theorem great29_any (l : List LN) (A : Option Addr) (c : Nat) (w : World) (hr : RdX LN.row w A l) (hlen : l.length ≤ maxLen) : Calls Tryz.prog 6 #[.slice A l.length c] w fun e w' => ∃ b : Bool, e = .returned (.bool b) ∧ Only [] w w' ∧ (b = false → Few29 l) := by
  refine Hs.enter Tryz.func6 [] [] [] [.c (.v (.slice A l.length c))] (Mem.start0 w) (by kernel_rfl) (by kernel_rfl) ?_
  have J : ∀ (d i : Nat), l.length - i = d → i ≤ l.length → (∀ (j : Nat) (o : LN), j < i → l[j]? = some o → o.m.data.length ≤ 100000) → ∀ (z : Int) (u : Nat → Value), Hs Tryz.prog 6 (fun e w' => ∃ b : Bool, e = .returned (.bool b) ∧ Only [] w w' ∧ (b = false → Few29 l)) (Tryz.f6).ntmps w [] [] ⟨.no, loopAt Tryz.f6 0, pins [(0, .c (.v (.slice A l.length c))), (3, .c (.v (.int .i64 z))), (6, .c (.v (.slice A l.length c))), (7, .c (.v (.int .i64 l.length))), (8, .c (.v (.int .i64 (i : Nat))))] (.vals u), []⟩ := by
    intro d
    induction d with
    | zero =>
      intro i hd hi hall z u
      refine Hs.run0 300 (fun _ => by kernel_rfl) ?_
      refine Hs.condP ((i : Int) < (l.length : Int)) (by kernel_rfl) (fun h => by omega) (fun h => ?_)
      refine Hs.run0 300 (fun _ => by kernel_rfl) ?_
      refine Hs.bool 26 (decide ((l.length : Int) > 100)) (by kernel_rfl) (fun h1 => ?_) (fun h1 => ?_)
      · refine Hs.rung0 [3] 300 (fun _ => (by kernel_rfl)) ?_
        exact Hs.ret (v := .bool true) Tryz.func6 (by kernel_rfl) fun w' H => ⟨true, rfl, H.only, fun h => by cases h⟩
      have h1 := of_decide_eq_false h1
      refine Hs.rung0 [3] 300 (fun _ => (by kernel_rfl)) ?_
      exact Hs.ret (v := .bool (decide (z > 300000))) Tryz.func6 (by kernel_rfl) fun w' H => ⟨_, rfl, H.only, fun _ => ⟨by omega, fun o ho => by
        obtain ⟨j, hj⟩ := List.mem_iff_getElem?.1 ho
        exact hall j o (by have := (List.getElem?_eq_some_iff.1 hj).1; omega) hj⟩⟩
    | succ d ih =>
      intro i hd hi hall z u
      have hil : i < l.length := by omega
      obtain ⟨o, hx⟩ : ∃ o, l[i]? = some o := ⟨_, List.getElem?_eq_getElem hil⟩
      obtain ⟨b, off, hA, _, _⟩ := hr (by omega)
      subst hA
      refine Hs.run0 300 (fun _ => by kernel_rfl) ?_
      refine Hs.condP ((i : Int) < (l.length : Int)) (by kernel_rfl) (fun h => ?_) (fun h => by omega)
      refine Hs.run0 300 (fun _ => by kernel_rfl) ?_
      refine Hs.idx (b := b) (off := off) (c := c) elemLn hil (by kernel_rfl) ?_
      refine Hs.ldx (E := 38) (b := b) (off := off) (i := i) LN_len (.g o.sc) (by kernel_rfl) (fun w' H => hr.only H.only) hx (by kernel_rfl) (by kernel_rfl) (by kernel_rfl) (by kernel_rfl) ?_
      refine Hs.run1 300 (fun _ => by kernel_rfl) fun b1 => ?_
      refine Hs.callX (X := Bool) (fun b => .bool b) (fun b => b = false → o.m.data.length ≤ 100000) (fun w' H => rGreat03b_any o.m w') (by kernel_rfl) fun g hg => ?_
      refine Hs.run0 300 (fun _ => by kernel_rfl) ?_
      refine Hs.cond g (by kernel_rfl) (fun h1 => ?_) (fun h1 => ?_)
      · refine Hs.run0 300 (fun _ => by kernel_rfl) ?_
        exact Hs.ret (v := .bool true) Tryz.func6 (by kernel_rfl) fun w' H => ⟨true, rfl, H.only, fun h => by cases h⟩
      · refine Hs.run0 300 (fun _ => by kernel_rfl) ?_
        refine Hs.slot 8 (.c (.v (.int .i64 (i + 1 : Nat)))) rfl ((by kernel_rfl : _ = Value.int .i64 (IntKind.i64.wrap ((i : Int) + 1))).trans (wrap_next29 hlen)) ?_
        refine Hs.loop (by kernel_rfl) ?_
        exact Hs.goto (loopAt Tryz.f6 0) [] [] [(0, .c (.v (.slice (some ⟨b, off, none⟩) l.length c))), (3, .c (.v (.int .i64 (IntKind.i64.wrap (z + (if (100000 : Int) < (o.m.data.length : Int) then 100000 else (o.m.data.length : Int))))))), (6, .c (.v (.slice (some ⟨b, off, none⟩) l.length c))), (7, .c (.v (.int .i64 l.length))), (8, .c (.v (.int .i64 (i + 1 : Nat))))] (by kernel_rfl) (by decide) (by kernel_rfl) (by kernel_rfl) (fun _ => (by kernel_rfl)) (fun u => ih (i + 1) (by omega) (by omega) (fun j o' hj ho' => by
          rcases Nat.lt_or_ge j i with h2 | h2
          · exact hall j o' h2 ho'
          · obtain rfl : j = i := by omega
            rw [hx] at ho'; injection ho' with ho'; subst ho'; exact hg h1) _ u)
  refine Hs.run0 300 (fun _ => by kernel_rfl) ?_
  refine Hs.loop (by kernel_rfl) ?_
  exact Hs.goto (loopAt Tryz.f6 0) [] [] [(0, .c (.v (.slice A l.length c))), (3, .c (.v (.int .i64 0))), (6, .c (.v (.slice A l.length c))), (7, .c (.v (.int .i64 l.length))), (8, .c (.v (.int .i64 (0 : Nat))))] (by kernel_rfl) (by decide) (by kernel_rfl) (by kernel_rfl) (fun _ => (by kernel_rfl)) (fun u => J _ 0 rfl (by omega) (fun j o hj => by omega) 0 u)
/-- The ends as the document has them. -/
theorem ends29_any (l : List EN) (N : Nat) (hl : l.length = N) (A : Option Addr) (c : Nat) (w : World) (hr : RdX EN.cells w A l) (hlen : N ≤ 1000000) : Calls Tryz.prog 14 #[.slice A N c] w fun e w' => ∃ A' c', e = .returned (.slice A' N c') ∧ Only [] w w' ∧ OwnX EN.cells 61 8 w' w.heap.size (.slice A' N c') l := by
  refine Hs.enter Tryz.func14 [] [] [] [.c (.v (.slice A N c))] (Mem.start0 w) (by kernel_rfl) (by kernel_rfl) ?_
  refine Hs.run0 300 (fun _ => by kernel_rfl) ?_
  refine Hs.nilS 61 8 (by kernel_rfl) ?_ (by kernel_rfl)
  have J : ∀ (d i : Nat) (pre rest : List EN), N - i = d → pre ++ rest = l → pre.length = i → ∀ (oA : Option Addr) (oc : Nat) (u : Nat → Value), Hs Tryz.prog 14 (fun e w' => ∃ A' c', e = .returned (.slice A' N c') ∧ Only [] w w' ∧ OwnX EN.cells 61 8 w' w.heap.size (.slice A' N c') l) (Tryz.f14).ntmps w [] [0] ⟨.no, loopAt Tryz.f14 0, pins [(3, .c (.v (.slice oA i oc))), (6, .c (.v (.slice A N c))), (7, .c (.v (.int .i64 N))), (8, .c (.v (.int .i64 (i : Nat))))] (.vals u), [.s oA oc i 61 8 (pre.flatMap EN.cells)]⟩ := by
    intro d
    induction d with
    | zero =>
      intro i pre rest hd hE hp oA oc u
      have hl2 : pre.length + rest.length = N := by rw [← hl, ← hE, List.length_append]
      obtain rfl : i = N := by omega
      have hr0 : rest = [] := List.eq_nil_of_length_eq_zero (by omega)
      subst hr0
      rw [List.append_nil] at hE
      subst hE
      refine Hs.run0 300 (fun _ => by kernel_rfl) ?_
      refine Hs.condP ((i : Int) < (i : Int)) (by kernel_rfl) (fun h => by omega) (fun _ => ?_)
      refine Hs.run0 300 (fun _ => by kernel_rfl) ?_
      exact Hs.ret (v := .slice oA i oc) Tryz.func14 (by kernel_rfl) fun w' H => ⟨oA, oc, rfl, H.only, H.fresh 0 hp (by kernel_rfl)⟩
    | succ d ih =>
      intro i pre rest hd hE hp oA oc u
      have hl2 : pre.length + rest.length = N := by rw [← hl, ← hE, List.length_append]
      have hi : i < N := by omega
      cases rest with
      | nil => simp at hl2; omega
      | cons x rest =>
        have hx : l[i]? = some x := by rw [← hE, List.getElem?_append_right (by omega), hp, Nat.sub_self]; rfl
        obtain ⟨b, off, hA, _, _⟩ := hr (by omega)
        have ih' := fun oA oc u => ih (i + 1) (pre ++ [x]) rest (by omega) (by simpa using hE) (by simp [hp]) oA oc u
        clear ih
        subst hA
        refine Hs.run0 300 (fun _ => by kernel_rfl) ?_
        refine Hs.condP ((i : Int) < (N : Int)) (by kernel_rfl) (fun _ => ?_) (fun h => by omega)
        refine Hs.run0 300 (fun _ => by kernel_rfl) ?_
        refine Hs.idx (b := b) (off := off) (len := N) (c := c) (i := i) elemTE hi (by kernel_rfl) ?_
        refine Hs.ldx (E := 49) (b := b) (off := off) (i := i) EN_len (.g x.sc) (by kernel_rfl) (fun w' H => hr.only H.only) hx (by kernel_rfl) (by kernel_rfl) (by kernel_rfl) (by kernel_rfl) ?_
        refine Hs.run2 300 (fun _ => by kernel_rfl) fun b1 q => ?_
        refine Hs.app (c := 1) (ty := 29) 0 elemRE pre [x] i 1 hp rfl EN_one EN_len (A := oA) (B := some ⟨q, 0, none⟩) (cap := oc) (by kernel_rfl) (by kernel_rfl) (by kernel_rfl) (fun w' H => H.rdB (gs := [x]) 2 (wr := true) (T := 61) (cs := x.sc) (by kernel_rfl) rfl) (by unfold maxLen; omega) (by_re (by omega)) fun eA eC ho => ?_
        refine Hs.run0 300 (fun _ => by kernel_rfl) ?_
        refine Hs.slot 8 (.c (.v (.int .i64 (i + 1 : Nat)))) rfl ((by kernel_rfl : _ = Value.int .i64 (IntKind.i64.wrap ((i : Int) + 1))).trans (wrap_next29 (n := N) (by unfold maxLen; omega))) ?_
        refine Hs.loop (by kernel_rfl) ?_
        exact Hs.goto (loopAt Tryz.f14 0) [0] [.s eA eC (i + 1) 61 8 ((pre ++ [x]).flatMap EN.cells)] [(3, .c (.v (.slice eA (i + 1) eC))), (6, .c (.v (.slice (some ⟨b, off, none⟩) N c))), (7, .c (.v (.int .i64 N))), (8, .c (.v (.int .i64 (i + 1 : Nat))))] (by kernel_rfl) (by decide) (by kernel_rfl) (by kernel_rfl) (fun _ => (by kernel_rfl)) (fun u => ih' eA eC u)
  refine Hs.loop (by kernel_rfl) ?_
  exact Hs.goto (loopAt Tryz.f14 0) [0] [.s none 0 0 61 8 []] [(3, .c (.v (.slice none 0 0))), (6, .c (.v (.slice A N c))), (7, .c (.v (.int .i64 N))), (8, .c (.v (.int .i64 (0 : Nat))))] (by kernel_rfl) (by decide) (by kernel_rfl) (by kernel_rfl) (fun _ => (by kernel_rfl)) (fun u => J N 0 [] l (by omega) rfl rfl none 0 u)
/-- The same ends are the same. -/
theorem same29_any (l : List EN) (N : Nat) (hl : l.length = N) (A B : Option Addr) (ca cb : Nat) (w : World) (ha : RdX EN.cells w A l) (hb : RdX EN.cells w B l) (hlen : N ≤ maxLen) : Calls Tryz.prog 13 #[.slice A N ca, .slice B N cb] w fun e w' => e = .returned (.bool true) ∧ Only [] w w' := by
  refine Hs.enter Tryz.func13 [] [] [] [.c (.v (.slice A N ca)), .c (.v (.slice B N cb))] (Mem.start0 w) (by kernel_rfl) (by kernel_rfl) ?_
  have J : ∀ (d i : Nat), N - i = d → i ≤ N → ∀ (u : Nat → Value), Hs Tryz.prog 13 (fun e w' => e = .returned (.bool true) ∧ Only [] w w') (Tryz.f13).ntmps w [] [] ⟨.no, loopAt Tryz.f13 0, pins [(0, .c (.v (.slice A N ca))), (1, .c (.v (.slice B N cb))), (12, .c (.v (.int .i64 N))), (13, .c (.v (.int .i64 (i : Nat))))] (.vals u), []⟩ := by
    intro d
    induction d with
    | zero =>
      intro i hd hi u
      refine Hs.run0 300 (fun _ => by kernel_rfl) ?_
      refine Hs.condP ((i : Int) < (N : Int)) (by kernel_rfl) (fun h => by omega) (fun h => ?_)
      refine Hs.run0 300 (fun _ => by kernel_rfl) ?_
      exact Hs.ret (v := .bool true) Tryz.func13 (by kernel_rfl) fun w' H => ⟨rfl, H.only⟩
    | succ d ih =>
      intro i hd hi u
      have hil : i < N := by omega
      obtain ⟨x, hx⟩ : ∃ x, l[i]? = some x := ⟨_, List.getElem?_eq_getElem (by omega)⟩
      obtain ⟨ab, aoff, hA, _, _⟩ := ha (by omega)
      obtain ⟨bb, boff, hB, _, _⟩ := hb (by omega)
      subst hA; subst hB
      obtain ⟨xc, xg, xs, xp, xe, xd, xt, xw⟩ := x
      refine Hs.run0 300 (fun _ => by kernel_rfl) ?_
      refine Hs.condP ((i : Int) < (N : Int)) (by kernel_rfl) (fun h => ?_) (fun h => by omega)
      refine Hs.run0 300 (fun _ => by kernel_rfl) ?_
      refine Hs.any [] (by kernel_rfl) ?_
      refine Hs.run0 300 (fun _ => by kernel_rfl) ?_
      refine Hs.takeIdx (rd := []) 2 elemRE (b := ab) (off := aoff) (c := ca) (len := N) (i := i) hil (by kernel_rfl) ?_
      refine Hs.takeIdx (rd := []) 6 elemRE (b := bb) (off := boff) (c := cb) (len := N) (i := i) hil (by kernel_rfl) ?_
      refine Hs.branch2 3 7 (by kernel_rfl) ?_ ?_
      · refine Hs.ldx (E := 61) (b := ab) (off := aoff) (i := i) (x := ⟨xc, xg, xs, xp, xe, xd, xt, xw⟩) EN_len (.g (EN.sc ⟨xc, xg, xs, xp, xe, xd, xt, xw⟩)) (by kernel_rfl) (fun w' H => ha.only H.only) hx (by kernel_rfl) (by kernel_rfl) (by kernel_rfl) (by kernel_rfl) ?_
        refine Hs.run0 300 (fun _ => by kernel_rfl) ?_
        refine Hs.ldx (E := 61) (b := bb) (off := boff) (i := i) (x := ⟨xc, xg, xs, xp, xe, xd, xt, xw⟩) EN_len (.g (EN.sc ⟨xc, xg, xs, xp, xe, xd, xt, xw⟩)) (by kernel_rfl) (fun w' H => hb.only H.only) hx (by kernel_rfl) (by kernel_rfl) (by kernel_rfl) (by kernel_rfl) ?_
        refine Hs.branch [8] (by kernel_rfl) (by simp) fun k hk => ?_
        obtain rfl := List.mem_singleton.1 hk
        clear hk
        refine Hs.same (op := .neq) (T := 61) #[.int .u32 xc, .int .u64 xg, .int .u64 xs, .int .u32 xp, .bool xe, .bool xd, .bool xt, .int .i64 xw] false (by kernel_rfl) (.inr ⟨rfl, rfl⟩) (by kernel_rfl) ?_
        refine Hs.run0 300 (fun _ => by kernel_rfl) ?_
        refine Hs.condF (by kernel_rfl) ?_
        refine Hs.run0 300 (fun _ => by kernel_rfl) ?_
        refine Hs.slot 13 (.c (.v (.int .i64 (i + 1 : Nat)))) rfl ((by kernel_rfl : _ = Value.int .i64 (IntKind.i64.wrap ((i : Int) + 1))).trans (wrap_next29 hlen)) ?_
        refine Hs.loop (by kernel_rfl) ?_
        exact Hs.goto (loopAt Tryz.f13 0) [] [] [(0, .c (.v (.slice (some ⟨ab, aoff, none⟩) N ca))), (1, .c (.v (.slice (some ⟨bb, boff, none⟩) N cb))), (12, .c (.v (.int .i64 N))), (13, .c (.v (.int .i64 (i + 1 : Nat))))] (by kernel_rfl) (by decide) (by kernel_rfl) (by kernel_rfl) (fun _ => (by kernel_rfl)) (fun u => ih (i + 1) (by omega) (by omega) u)
      · refine Hs.ldx (E := 61) (b := bb) (off := boff) (i := i) (x := ⟨xc, xg, xs, xp, xe, xd, xt, xw⟩) EN_len (.g (EN.sc ⟨xc, xg, xs, xp, xe, xd, xt, xw⟩)) (by kernel_rfl) (fun w' H => hb.only H.only) hx (by kernel_rfl) (by kernel_rfl) (by kernel_rfl) (by kernel_rfl) ?_
        refine Hs.run0 300 (fun _ => by kernel_rfl) ?_
        refine Hs.ldx (E := 61) (b := ab) (off := aoff) (i := i) (x := ⟨xc, xg, xs, xp, xe, xd, xt, xw⟩) EN_len (.g (EN.sc ⟨xc, xg, xs, xp, xe, xd, xt, xw⟩)) (by kernel_rfl) (fun w' H => ha.only H.only) hx (by kernel_rfl) (by kernel_rfl) (by kernel_rfl) (by kernel_rfl) ?_
        refine Hs.branch [8] (by kernel_rfl) (by simp) fun k hk => ?_
        obtain rfl := List.mem_singleton.1 hk
        clear hk
        refine Hs.same (op := .neq) (T := 61) #[.int .u32 xc, .int .u64 xg, .int .u64 xs, .int .u32 xp, .bool xe, .bool xd, .bool xt, .int .i64 xw] false (by kernel_rfl) (.inr ⟨rfl, rfl⟩) (by kernel_rfl) ?_
        refine Hs.run0 300 (fun _ => by kernel_rfl) ?_
        refine Hs.condF (by kernel_rfl) ?_
        refine Hs.run0 300 (fun _ => by kernel_rfl) ?_
        refine Hs.slot 13 (.c (.v (.int .i64 (i + 1 : Nat)))) rfl ((by kernel_rfl : _ = Value.int .i64 (IntKind.i64.wrap ((i : Int) + 1))).trans (wrap_next29 hlen)) ?_
        refine Hs.loop (by kernel_rfl) ?_
        exact Hs.goto (loopAt Tryz.f13 0) [] [] [(0, .c (.v (.slice (some ⟨ab, aoff, none⟩) N ca))), (1, .c (.v (.slice (some ⟨bb, boff, none⟩) N cb))), (12, .c (.v (.int .i64 N))), (13, .c (.v (.int .i64 (i + 1 : Nat))))] (by kernel_rfl) (by decide) (by kernel_rfl) (by kernel_rfl) (fun _ => (by kernel_rfl)) (fun u => ih (i + 1) (by omega) (by omega) u)
  refine Hs.run0 300 (fun _ => by kernel_rfl) ?_
  refine Hs.cond ((N : Int) != (N : Int)) (by kernel_rfl) (fun h => by simp at h) (fun _ => ?_)
  refine Hs.run0 300 (fun _ => by kernel_rfl) ?_
  refine Hs.loop (by kernel_rfl) ?_
  exact Hs.goto (loopAt Tryz.f13 0) [] [] [(0, .c (.v (.slice A N ca))), (1, .c (.v (.slice B N cb))), (12, .c (.v (.int .i64 N))), (13, .c (.v (.int .i64 (0 : Nat))))] (by kernel_rfl) (by decide) (by kernel_rfl) (by kernel_rfl) (fun _ => (by kernel_rfl)) (fun u => J _ 0 rfl (by omega) u)
theorem hears_nil (m : MD) (w : World) : Calls Tryz.prog 10 #[.pointer none, m.val] w fun e w' => e = .returned (.int .i64 1) ∧ Only [] w w' := by
  refine Hs.enter Tryz.func10 [] [] [] [.c (.v (.pointer none)), .g (mdS m)] (Mem.start0 w) (by kernel_rfl) (by kernel_rfl) ?_
  refine Hs.run1 300 (fun _ => by kernel_rfl) fun b0 => ?_
  refine Hs.condT (by kernel_rfl) ?_
  refine Hs.run0 300 (fun _ => by kernel_rfl) ?_
  exact Hs.ret (v := .int .i64 1) Tryz.func10 (by kernel_rfl) fun w' H => ⟨rfl, H.only⟩
end Go.Proofs.YtkgikodiecmakaaGreatDoor

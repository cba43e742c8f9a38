/- Layer 16: plain text, typed, is read line by line as it was typed; for all settings and texts; no condition. -/
import Derived.Test.YtjphcdphlmaopaaGreatLdAL
namespace Go.Proofs.YtjphcdphlmaopaaGreat
set_option linter.all false
set_option maxRecDepth 100000
open Go.RowKit

theorem by_bs : Tryz.prog.bytesOf 27 = 24 := by kernel_rfl
theorem pc_cell {w : World} {b off i : Nat} {l : List (Pc Int)} {x : Pc Int} (hr : RdX Pc.cs w (some ⟨b, off, none⟩) l) (hx : l[i]? = some x) : w.cell? ⟨b, off + i * 1, none⟩ = some (.slice x.A x.l.length x.c) := by
  have := rdX_cell (size := 1) (fun _ => rfl) hr hx (j := 0) (v := .slice x.A x.l.length x.c) rfl
  exact this
theorem marks_t (d : DM) : (marksD d).t = d.t ∧ (marksD d).idle = d.idle := by
  unfold marksD putD
  split <;> exact ⟨rfl, rfl⟩
theorem read_rng {d : DM} {n q : Int} (h : Rng d) : Rng (readD d n q).1 := by
  have h1 : (readD d n q).1.t = d.t ∧ (readD d n q).1.idle = d.idle := by
    unfold readD
    split
    · split
      · exact marks_t _
      · exact ⟨rfl, rfl⟩
    · split
      · exact marks_t _
      · exact ⟨rfl, rfl⟩
  exact ⟨by rw [h1.1]; exact h.mn, by rw [h1.1]; exact h.tm, by rw [h1.2]; exact h.idle⟩
theorem Core.rng {d : DM} {t : TM} {ls : List (List Int × Bool)} {ln : List Int} (h : Core d t ls ln) (h1 : -9223372036854775808 ≤ t.mn ∧ t.mn ≤ 9223372036854775807) (h2 : -9223372036854775808 ≤ t.tm ∧ t.tm ≤ 9223372036854775807) : Rng d := ⟨by rw [h.t]; exact h1, by rw [h.t]; exact h2, by rw [h.idle]; decide⟩
set_option maxHeartbeats 4000000 in
theorem lines_walk (t : TM) (A : Option Addr) (cap : Nat) (text : List Int) (k : Int) (w : World) (hb : RdU w A cap text) (hk : 0 ≤ k ∧ k < 256) (hT : TOk t) : Calls Tryz.prog 4 #[t.val, .slice A text.length cap, .int .u8 k] w (fun e w' => e = .returned (.bool true) ∧ Only [] w w') := by
  obtain ⟨TT, hTT⟩ : ∃ TT, TT = lineT t := ⟨_, rfl⟩
  have hlen : text.length ≤ maxLen := Nat.le_trans hb.2.1 hb.2.2
  obtain ⟨kk, hkk⟩ : ∃ kk : Nat, kk = k.toNat + 1 := ⟨_, rfl⟩
  have ek : IntKind.i64.wrap (1 + IntKind.i64.wrap k) = ((kk : Nat) : Int) := by rw [IntWalk.i64_in k (by omega), IntWalk.i64_in _ (by omega)]; omega
  have hmn : -9223372036854775808 ≤ TT.mn ∧ TT.mn ≤ 9223372036854775807 := by rw [hTT]; exact hT.mn
  have htm : -9223372036854775808 ≤ TT.tm ∧ TT.tm ≤ 9223372036854775807 := by rw [hTT]; exact hT.tm
  obtain ⟨k51, _, _, _, _, _⟩ := lineT_has t
  have FIN : ∀ (cur : List Int) (A1 : Option Addr) (c1 : Nat) (ps : List (Pc Int)) (wA : Option Addr) (c2 : Nat) (g : Nat) (d : DM) (s : DS) (w2 : World) (L2 : List Nat), cur.length ≤ 300 → Nx w w2 L2 (fun w => Data s d w ∧ ∀ p ∈ ps, RdU w p.A p.c p.l) → Few d → Rng d → Core d TT (lnsM []) cur → ∀ (b0 b1 : Nat) (u : Nat → Value), Hs Tryz.prog 4 (fun e w' => e = .returned (.bool true) ∧ Only [] w w') (Tryz.f4).ntmps w2 L2 [b0, b1, 0, g] ⟨.no, atR Tryz.f4 45, pins [(10, .c (.v (.slice A1 cur.length c1))), (14, .c (.p 3 0)), (17, .c (.v (.int .i64 (kk : Nat))))] (.vals u), [.b true 26 (TM.sc TT), .s A1 c1 cur.length 5 1 (cur.flatMap cu8), .s wA c2 ps.length 27 1 (ps.flatMap Pc.cs), .b true 53 (discSC d s)]⟩ := by
    intro cur A1 c1 ps wA c2 g d s w2 L2 hcl N hf hR hd b0 b1 u
    refine Hs.run0 300 (fun _ => by kernel_rfl) ?_
    refine Hs.callNR (s := s) (d := d) (d' := d) (l := []) (v := fun A c => .tuple #[.slice A 0 c, .bool false]) 3 N rfl (by kernel_rfl) (fun w' H hD => by
      have := read_any16 d s g kk 0 w' hD hf hR (by omega) (by omega)
      rw [line_none (k := (kk : Nat)) (by rw [hTT]; exact k51) hd] at this
      exact this) (by kernel_rfl) (by kernel_rfl) (fun _ => (by kernel_rfl)) fun s2 A3 c3 w3 L3 N3 => ?_
    refine Hs.run0 300 (fun _ => by kernel_rfl) ?_
    refine Hs.rung0 [2] 300 (fun _ => by kernel_rfl) ?_
    refine Hs.callV (fun w' H => bytes16_true s2.la A1 s2.lc c1 cur d.line.length cur.length (by rw [hd.line]) rfl w' (by rw [← hd.line]; exact (N3.now H).1.1.line.1) (H.rdX (cf := cu8) (A := A1) (cap := c1) (E := 5) (size := 1) 1 rfl (by kernel_rfl)) (by unfold maxLen; omega)) (by kernel_rfl) ?_
    refine Hs.rung0 [2] 300 (fun _ => by kernel_rfl) ?_
    exact Hs.ret (v := .bool true) Tryz.func4 (by kernel_rfl) fun w' H => ⟨rfl, N3.only H⟩
  have OU : ∀ (cur : List Int) (A1 : Option Addr) (c1 : Nat) (ps : List (Pc Int)) (wA : Option Addr) (c2 : Nat) (g b0 b1 : Nat), cur.length ≤ 300 → ps.length ≤ maxLen → (∀ p ∈ ps, 0 < p.l.length) → ∀ (e j : Nat), ps.length - j = e → j ≤ ps.length → ∀ (d : DM) (s : DS) (w2 : World) (L2 : List Nat), Nx w w2 L2 (fun w => Data s d w ∧ ∀ p ∈ ps, RdU w p.A p.c p.l) → Few d → Rng d → Core d TT (lnsM ((ps.drop j).map Pc.l)) cur → ∀ (u : Nat → Value), Hs Tryz.prog 4 (fun e w' => e = .returned (.bool true) ∧ Only [] w w') (Tryz.f4).ntmps w2 L2 [b0, b1, 0, g] ⟨.no, loopAt Tryz.f4 4, pins [(10, .c (.v (.slice A1 cur.length c1))), (14, .c (.p 3 0)), (17, .c (.v (.int .i64 (kk : Nat)))), (89, .c (.v (.slice wA ps.length c2))), (90, .c (.v (.int .i64 ps.length))), (91, .c (.v (.int .i64 j)))] (.vals u), [.b true 26 (TM.sc TT), .s A1 c1 cur.length 5 1 (cur.flatMap cu8), .s wA c2 ps.length 27 1 (ps.flatMap Pc.cs), .b true 53 (discSC d s)]⟩ := by
    intro cur A1 c1 ps wA c2 g b0 b1 hcl hpl hpos e
    induction e with
    | zero =>
      intro j he hj d s w2 L2 N hf hR hd u
      obtain rfl : j = ps.length := by omega
      rw [List.drop_length] at hd
      refine Hs.run0 300 (fun _ => by kernel_rfl) ?_
      refine Hs.condP ((ps.length : Int) < (ps.length : Int)) (by kernel_rfl) (fun h => by omega) (fun _ => ?_)
      refine Hs.runR0 45 [] 300 (fun _ => by kernel_rfl) ?_
      exact Hs.goto (atR Tryz.f4 45) [0, 1, 2, 3] [.b true 26 (TM.sc TT), .s A1 c1 cur.length 5 1 (cur.flatMap cu8), .s wA c2 ps.length 27 1 (ps.flatMap Pc.cs), .b true 53 (discSC d s)] [(10, .c (.v (.slice A1 cur.length c1))), (14, .c (.p 3 0)), (17, .c (.v (.int .i64 (kk : Nat))))] (by kernel_rfl) (by decide) (by kernel_rfl) (by kernel_rfl) (fun _ => (by kernel_rfl)) (fun u => FIN cur A1 c1 ps wA c2 g d s w2 L2 hcl N hf hR hd b0 b1 u)
    | succ e ihe =>
      intro j he hj d s w2 L2 N hf hR hd u
      have hjl : j < ps.length := by omega
      obtain ⟨p, hp⟩ : ∃ p, ps[j]? = some p := ⟨_, List.getElem?_eq_getElem hjl⟩
      have hdr : ps.drop j = p :: ps.drop (j + 1) := by
        have h1 := List.drop_eq_getElem_cons hjl
        rw [List.getElem?_eq_getElem hjl] at hp
        injection hp with hp
        rw [h1, hp]
      have hpm : p ∈ ps := List.mem_of_getElem? hp
      refine Hs.someS (A := wA) (cap := c2) (nl := ps.length) (E := 27) (size := 1) (vs := ps.flatMap Pc.cs) 2 (by kernel_rfl) (by omega) fun wb hA => ?_
      subst hA
      have OUT := fun d s w2 L2 N hf hR hd u => ihe (j + 1) (by omega) (by omega) d s w2 L2 N hf hR hd u
      have IN : ∀ (n : Nat) (lr : List Int), lr.length ≤ n → ∀ (B : Option Addr) (cB : Nat) (rest : List (List Int)) (d : DM) (s : DS) (w2 : World) (L2 : List Nat), Nx w w2 L2 (fun w => Data s d w ∧ ((∀ p ∈ ps, RdU w p.A p.c p.l) ∧ RdU w B cB lr)) → Few d → Rng d → Core d TT (if 0 < lr.length then lnsM (lr :: rest) else lnsM rest) cur → rest = (ps.drop (j + 1)).map Pc.l → ∀ (u : Nat → Value), Hs Tryz.prog 4 (fun e w' => e = .returned (.bool true) ∧ Only [] w w') (Tryz.f4).ntmps w2 L2 [b0, b1, 0, g] ⟨.no, loopAt Tryz.f4 5, pins [(10, .c (.v (.slice A1 cur.length c1))), (14, .c (.p 3 0)), (17, .c (.v (.int .i64 (kk : Nat)))), (89, .c (.v (.slice (some ⟨wb, 0, none⟩) ps.length c2))), (90, .c (.v (.int .i64 ps.length))), (91, .c (.v (.int .i64 j))), (19, .c (.v (.slice B lr.length cB)))] (.vals u), [.b true 26 (TM.sc TT), .s A1 c1 cur.length 5 1 (cur.flatMap cu8), .s (some ⟨wb, 0, none⟩) c2 ps.length 27 1 (ps.flatMap Pc.cs), .b true 53 (discSC d s)]⟩ := by
        intro n
        induction n with
        | zero =>
          intro lr hl B cB rest d s w2 L2 N hf hR hd hrest u
          have h0 : lr.length = 0 := by omega
          rw [h0] at hd ⊢
          refine Hs.run0 300 (fun _ => by kernel_rfl) ?_
          refine Hs.condF (by kernel_rfl) ?_
          refine Hs.run0 300 (fun _ => by kernel_rfl) ?_
          refine Hs.slot 91 (.c (.v (.int .i64 (j + 1 : Nat)))) rfl ((by kernel_rfl : _ = Value.int .i64 (IntKind.i64.wrap ((j : Int) + 1))).trans (wrap_nextJ hpl)) ?_
          refine Hs.loop (by kernel_rfl) ?_
          exact Hs.goto (loopAt Tryz.f4 4) [0, 1, 2, 3] [.b true 26 (TM.sc TT), .s A1 c1 cur.length 5 1 (cur.flatMap cu8), .s (some ⟨wb, 0, none⟩) c2 ps.length 27 1 (ps.flatMap Pc.cs), .b true 53 (discSC d s)] [(10, .c (.v (.slice A1 cur.length c1))), (14, .c (.p 3 0)), (17, .c (.v (.int .i64 (kk : Nat)))), (89, .c (.v (.slice (some ⟨wb, 0, none⟩) ps.length c2))), (90, .c (.v (.int .i64 ps.length))), (91, .c (.v (.int .i64 (j + 1 : Nat))))] (by kernel_rfl) (by decide) (by kernel_rfl) (by kernel_rfl) (fun _ => (by kernel_rfl)) (fun u => OUT d s w2 L2 (N.imp fun w h => ⟨h.1, h.2.1⟩) hf hR (by rw [← hrest]; exact hd) u)
        | succ n ih =>
          intro lr hl B cB rest d s w2 L2 N hf hR hd hrest u
          by_cases h0 : 0 < lr.length
          · rw [if_pos h0] at hd
            obtain ⟨r1, r2, r3⟩ := line_read (k := kk) (by rw [hTT]; exact k51) hd (by omega)
            obtain ⟨m, hm⟩ : ∃ m, m = min kk lr.length := ⟨_, rfl⟩
            rw [← hm] at r1
            have hml : m ≤ lr.length := by omega
            have hm0 : 0 < m := by omega
            have htl : (lr.take m).length = m := by rw [List.length_take, Nat.min_eq_left hml]
            have hdl : (lr.drop m).length = lr.length - m := List.length_drop
            have hd3 : Core (readD d (kk : Nat) 0).1 TT (if 0 < (lr.drop m).length then lnsM (lr.drop m :: rest) else lnsM rest) cur := by
              by_cases h5 : kk < lr.length
              · rw [if_pos h5] at r3
                rw [if_pos (by rw [hdl]; omega), show m = kk by omega]
                exact r3
              · rw [if_neg h5] at r3
                rw [if_neg (by rw [hdl]; omega)]
                exact r3
            have hf2 := readD_few (n := (kk : Nat)) (q := 0) hf
            have hR2 := read_rng (n := (kk : Nat)) (q := 0) hR
            have hC := fun w' hD => read_any16 d s g kk 0 w' hD hf hR (by omega) (by omega)
            rw [r1, r2] at hC
            clear r3
            generalize (readD d (kk : Nat) 0).1 = d2 at hd3 hf2 hR2 hC
            refine Hs.run0 300 (fun _ => by kernel_rfl) ?_
            refine Hs.condP ((lr.length : Int) > 0) (by kernel_rfl) (fun _ => ?_) (fun h => by omega)
            refine Hs.run0 300 (fun _ => by kernel_rfl) ?_
            refine Hs.callNR (s := s) (d := d) (d' := d2) (l := lr.take m) (v := fun A c => .tuple #[.slice A (lr.take m).length c, .bool true]) 3 N rfl (by kernel_rfl) (fun w' H hD => hC w' hD) (by kernel_rfl) (by kernel_rfl) (fun _ => (by kernel_rfl)) fun s2 A3 c3 w3 L3 N3 => ?_
            replace N3 := N3.imp fun w h => (⟨h.1.1, h.2.1, h.2.2, h.1.2⟩ : Data s2 d2 w ∧ (∀ p ∈ ps, RdU w p.A p.c p.l) ∧ RdU w B cB lr ∧ RdU w A3 c3 (lr.take m))
            have hcB := N3.keeps.at.2.2.1.2.1
            refine Hs.run0 300 (fun _ => by kernel_rfl) ?_
            refine Hs.rung0 [2] 300 (fun _ => by kernel_rfl) ?_
            refine Hs.bool 115 ((((lr.take m).length : Nat) : Int) != (if (lr.length : Int) < ((kk : Nat) : Int) then (lr.length : Int) else ((kk : Nat) : Int))) (by kernel_rfl) (fun h => ?_) (fun h => ?_)
            · rw [htl] at h
              exfalso
              split at h <;> simp at h <;> omega
            refine Hs.rung0 [2] 300 (fun _ => by kernel_rfl) ?_
            refine Hs.rung0 [2, 11] 300 (fun _ => by kernel_rfl) ?_
            refine Hs.hi elemU8 (A := B) (len := lr.length) (cap := cB) (i := (lr.take m).length) (by rw [htl]; omega) (by kernel_rfl) ?_
            refine Hs.rung0 [11] 300 (fun _ => by kernel_rfl) ?_
            refine Hs.callV (fun w' H => bytes16_true A3 (hiA 1 B cB) c3 cB (lr.take m) (lr.take m).length (lr.take m).length rfl rfl w' (N3.now H).2.2.2.1 (rdX_hi cu8_len (N3.now H).2.2.1.1 hml) (by rw [htl]; have := N3.keeps.at.2.2.1.2.2; omega)) (by kernel_rfl) ?_
            refine Hs.rung0 [11] 300 (fun _ => by kernel_rfl) ?_
            refine Hs.condF (by kernel_rfl) ?_
            refine Hs.run0 300 (fun _ => by kernel_rfl) ?_
            refine Hs.lo elemU8 (A := B) (len := lr.length) (cap := cB) (i := (lr.take m).length) (by rw [htl]; exact hml) (by kernel_rfl) ?_
            refine Hs.run0 300 (fun _ => by kernel_rfl) ?_
            refine Hs.slot 19 (.c (.v (.slice (loA 1 B m cB) (lr.drop m).length (cB - m)))) rfl ((by kernel_rfl : _ = Value.slice (loA 1 B (lr.take m).length cB) (lr.length - (lr.take m).length) (cB - (lr.take m).length)).trans (by rw [htl, ← hdl]; rfl)) ?_
            refine Hs.loop (by kernel_rfl) ?_
            exact Hs.goto (loopAt Tryz.f4 5) [0, 1, 2, 3] [.b true 26 (TM.sc TT), .s A1 c1 cur.length 5 1 (cur.flatMap cu8), .s (some ⟨wb, 0, none⟩) c2 ps.length 27 1 (ps.flatMap Pc.cs), .b true 53 (discSC d2 s2)] [(10, .c (.v (.slice A1 cur.length c1))), (14, .c (.p 3 0)), (17, .c (.v (.int .i64 (kk : Nat)))), (89, .c (.v (.slice (some ⟨wb, 0, none⟩) ps.length c2))), (90, .c (.v (.int .i64 ps.length))), (91, .c (.v (.int .i64 j))), (19, .c (.v (.slice (loA 1 B m cB) (lr.drop m).length (cB - m))))] (by kernel_rfl) (by decide) (by kernel_rfl) (by kernel_rfl) (fun _ => (by kernel_rfl)) (fun u => ih (lr.drop m) (by omega) (loA 1 B m cB) (cB - m) rest d2 s2 w3 L3 (N3.imp fun w h => ⟨h.1, h.2.1, ⟨rdX_lo cu8_len h.2.2.1.1 hml h.2.2.1.2.1, by have := h.2.2.1.2.1; omega, by have := h.2.2.1.2.2; omega⟩⟩) hf2 hR2 hd3 hrest u)
          · have h1 : lr.length = 0 := by omega
            rw [h1] at hd ⊢
            refine Hs.run0 300 (fun _ => by kernel_rfl) ?_
            refine Hs.condF (by kernel_rfl) ?_
            refine Hs.run0 300 (fun _ => by kernel_rfl) ?_
            refine Hs.slot 91 (.c (.v (.int .i64 (j + 1 : Nat)))) rfl ((by kernel_rfl : _ = Value.int .i64 (IntKind.i64.wrap ((j : Int) + 1))).trans (wrap_nextJ hpl)) ?_
            refine Hs.loop (by kernel_rfl) ?_
            exact Hs.goto (loopAt Tryz.f4 4) [0, 1, 2, 3] [.b true 26 (TM.sc TT), .s A1 c1 cur.length 5 1 (cur.flatMap cu8), .s (some ⟨wb, 0, none⟩) c2 ps.length 27 1 (ps.flatMap Pc.cs), .b true 53 (discSC d s)] [(10, .c (.v (.slice A1 cur.length c1))), (14, .c (.p 3 0)), (17, .c (.v (.int .i64 (kk : Nat)))), (89, .c (.v (.slice (some ⟨wb, 0, none⟩) ps.length c2))), (90, .c (.v (.int .i64 ps.length))), (91, .c (.v (.int .i64 (j + 1 : Nat))))] (by kernel_rfl) (by decide) (by kernel_rfl) (by kernel_rfl) (fun _ => (by kernel_rfl)) (fun u => OUT d s w2 L2 (N.imp fun w h => ⟨h.1, h.2.1⟩) hf hR (by rw [← hrest]; exact hd) u)
      refine Hs.run0 300 (fun _ => by kernel_rfl) ?_
      refine Hs.condP ((j : Int) < (ps.length : Int)) (by kernel_rfl) (fun _ => ?_) (fun h => by omega)
      refine Hs.run0 300 (fun _ => by kernel_rfl) ?_
      refine Hs.idx (b := wb) (off := 0) (len := ps.length) (c := c2) (i := j) elemBs hjl (by kernel_rfl) ?_
      refine Hs.run0 300 (fun _ => by kernel_rfl) ?_
      refine Hs.ldc (E' := 27) (b := wb) (off := 0 + j * 1) (.slice p.A p.l.length p.c) (by kernel_rfl) (fun w' H => pc_cell (H.rdX (cf := Pc.cs) (A := some ⟨wb, 0, none⟩) (cap := c2) (E := 27) (size := 1) 2 rfl (by kernel_rfl)) hp) (by kernel_rfl) ?_
      refine Hs.run0 300 (fun _ => by kernel_rfl) ?_
      refine Hs.loop (by kernel_rfl) ?_
      exact Hs.goto (loopAt Tryz.f4 5) [0, 1, 2, 3] [.b true 26 (TM.sc TT), .s A1 c1 cur.length 5 1 (cur.flatMap cu8), .s (some ⟨wb, 0, none⟩) c2 ps.length 27 1 (ps.flatMap Pc.cs), .b true 53 (discSC d s)] [(10, .c (.v (.slice A1 cur.length c1))), (14, .c (.p 3 0)), (17, .c (.v (.int .i64 (kk : Nat)))), (89, .c (.v (.slice (some ⟨wb, 0, none⟩) ps.length c2))), (90, .c (.v (.int .i64 ps.length))), (91, .c (.v (.int .i64 j))), (19, .c (.v (.slice p.A p.l.length p.c)))] (by kernel_rfl) (by decide) (by kernel_rfl) (by kernel_rfl) (fun _ => (by kernel_rfl)) (fun u => IN p.l.length p.l (Nat.le_refl _) p.A p.c ((ps.drop (j + 1)).map Pc.l) d s w2 L2 (N.imp fun w h => ⟨h.1, h.2, h.2 p hpm⟩) hf hR (by rw [if_pos (hpos p hpm)]; rw [hdr] at hd; exact hd) rfl u)
  have TY : text.length ≤ 200 → noOp TT 10 18 1 = true → (∀ x ∈ text, x = 10 ∨ plainB TT x = true) → ∀ (A1 : Option Addr) (c1 : Nat) (ps : List (Pc Int)) (wA : Option Addr) (c2 : Nat) (g b0 b1 : Nat), ps.length ≤ maxLen → ps.map Pc.l = (splL text).1 → ∀ (e i : Nat), text.length - i = e → i ≤ text.length → ∀ (d : DM) (s : DS) (w2 : World) (L2 : List Nat), Nx w w2 L2 (fun w => Data s d w ∧ ∀ p ∈ ps, RdU w p.A p.c p.l) → Few d → Core d TT (lnsM (splL (text.take i)).1) (splL (text.take i)).2 → ∀ (u : Nat → Value), Hs Tryz.prog 4 (fun e w' => e = .returned (.bool true) ∧ Only [] w w') (Tryz.f4).ntmps w2 L2 [b0, b1, 0, g] ⟨.no, loopAt Tryz.f4 3, pins [(2, .c (.v (.int .u8 k))), (9, .c (.v (.slice wA ps.length c2))), (10, .c (.v (.slice A1 (splL text).2.length c1))), (14, .c (.p 3 0)), (74, .c (.v (.slice A text.length cap))), (75, .c (.v (.int .i64 text.length))), (76, .c (.v (.int .i64 i)))] (.vals u), [.b true 26 (TM.sc TT), .s A1 c1 (splL text).2.length 5 1 ((splL text).2.flatMap cu8), .s wA c2 ps.length 27 1 (ps.flatMap Pc.cs), .b true 53 (discSC d s)]⟩ := by
    intro h200 h10 hgood A1 c1 ps wA c2 g b0 b1 hpl hps e
    have hsl := splL_len text.length text rfl
    have hpos : ∀ p ∈ ps, 0 < p.l.length := fun p hp => splL_pos text.length text rfl p.l (by rw [← hps]; exact List.mem_map.2 ⟨p, hp, rfl⟩)
    induction e with
    | zero =>
      intro i he hi d s w2 L2 N hf hd u
      obtain rfl : i = text.length := by omega
      rw [List.take_length] at hd
      refine Hs.run0 300 (fun _ => by kernel_rfl) ?_
      refine Hs.condP ((text.length : Int) < (text.length : Int)) (by kernel_rfl) (fun h => by omega) (fun _ => ?_)
      refine Hs.run0 300 (fun _ => by kernel_rfl) ?_
      refine Hs.slot 17 (.c (.v (.int .i64 (kk : Nat)))) rfl ((by kernel_rfl : _ = Value.int .i64 (IntKind.i64.wrap (1 + IntKind.i64.wrap k))).trans (by rw [ek]; rfl)) ?_
      refine Hs.loop (by kernel_rfl) ?_
      exact Hs.goto (loopAt Tryz.f4 4) [0, 1, 2, 3] [.b true 26 (TM.sc TT), .s A1 c1 (splL text).2.length 5 1 ((splL text).2.flatMap cu8), .s wA c2 ps.length 27 1 (ps.flatMap Pc.cs), .b true 53 (discSC d s)] [(10, .c (.v (.slice A1 (splL text).2.length c1))), (14, .c (.p 3 0)), (17, .c (.v (.int .i64 (kk : Nat)))), (89, .c (.v (.slice wA ps.length c2))), (90, .c (.v (.int .i64 ps.length))), (91, .c (.v (.int .i64 (0 : Nat))))] (by kernel_rfl) (by decide) (by kernel_rfl) (by kernel_rfl) (fun _ => (by kernel_rfl)) (fun u => OU (splL text).2 A1 c1 ps wA c2 g b0 b1 (by omega) hpl hpos ps.length 0 rfl (by omega) d s w2 L2 N hf (hd.rng hmn htm) (by rw [List.drop_zero, hps]; exact hd) u)
    | succ e ihe =>
      intro i he hi d s w2 L2 N hf hd u
      have hil : i < text.length := by omega
      obtain ⟨x, hx⟩ : ∃ x, text[i]? = some x := ⟨_, List.getElem?_eq_getElem hil⟩
      have htk : text.take (i + 1) = text.take i ++ [x] := by rw [List.take_add_one, hx]; rfl
      obtain ⟨ab, aoff, hA, _, _⟩ := hb.1 (by omega)
      obtain ⟨r1, r2⟩ := line_step (c := x) (l := text.take i) (by rw [← hTT]; exact hd) (by rw [List.length_take]; omega) (by rw [← hTT]; exact hgood x (List.mem_of_getElem? hx)) (by rw [← hTT]; exact h10)
      rw [← htk, ← hTT] at r2
      have hin := fun w' hD => input_any d s g x w' hD hf
      rw [r1] at hin
      have hf2 : Few (inputD d x).1 := inputD_few hf
      have hih := fun s w2 L2 N u => ihe (i + 1) (by omega) (by omega) (inputD d x).1 s w2 L2 N hf2 r2 u
      generalize (inputD d x).1 = d2 at hin hih
      rw [hA] at hih ⊢
      refine Hs.run0 300 (fun _ => by kernel_rfl) ?_
      refine Hs.condP ((i : Int) < (text.length : Int)) (by kernel_rfl) (fun _ => ?_) (fun h => by omega)
      refine Hs.run0 300 (fun _ => by kernel_rfl) ?_
      refine Hs.idx (b := ab) (off := aoff) (len := text.length) (c := cap) (i := i) elemU8 hil (by kernel_rfl) ?_
      refine Hs.run0 300 (fun _ => by kernel_rfl) ?_
      refine Hs.ldc (E' := 5) (b := ab) (off := aoff + i * 1) (.int .u8 x) (by kernel_rfl) (fun w' H => u8_cell (by rw [← hA]; exact hb.1.only (N.only H)) hx) (by kernel_rfl) ?_
      refine Hs.run0 300 (fun _ => by kernel_rfl) ?_
      refine Hs.callNI (s := s) (d := d) (d' := d2) (l := []) 3 0 rfl N rfl (by kernel_rfl) (fun w' H hD => hin w' hD) (by kernel_rfl) (by kernel_rfl) (fun _ => (by kernel_rfl)) fun s2 A3 w3 L3 N3 => ?_
      refine Hs.run0 300 (fun _ => by kernel_rfl) ?_
      refine Hs.condF (by kernel_rfl) ?_
      refine Hs.run0 300 (fun _ => by kernel_rfl) ?_
      refine Hs.slot 76 (.c (.v (.int .i64 (i + 1 : Nat)))) rfl ((by kernel_rfl : _ = Value.int .i64 (IntKind.i64.wrap ((i : Int) + 1))).trans (wrap_nextJ hlen)) ?_
      refine Hs.loop (by kernel_rfl) ?_
      exact Hs.goto (loopAt Tryz.f4 3) [0, 1, 2, 3] [.b true 26 (TM.sc TT), .s A1 c1 (splL text).2.length 5 1 ((splL text).2.flatMap cu8), .s wA c2 ps.length 27 1 (ps.flatMap Pc.cs), .b true 53 (discSC d2 s2)] [(2, .c (.v (.int .u8 k))), (9, .c (.v (.slice wA ps.length c2))), (10, .c (.v (.slice A1 (splL text).2.length c1))), (14, .c (.p 3 0)), (74, .c (.v (.slice (some ⟨ab, aoff, none⟩) text.length cap))), (75, .c (.v (.int .i64 text.length))), (76, .c (.v (.int .i64 (i + 1 : Nat))))] (by kernel_rfl) (by decide) (by kernel_rfl) (by kernel_rfl) (fun _ => (by kernel_rfl)) (fun u => hih s2 w3 L3 (N3.imp fun w h => ⟨h.1.1, h.2⟩) u)
  have OP : text.length ≤ 200 → (∀ x ∈ text, x = 10 ∨ plainB TT x = true) → ∀ (A1 : Option Addr) (c1 : Nat) (ps : List (Pc Int)) (wA : Option Addr) (c2 : Nat) (b0 b1 : Nat), ps.length ≤ maxLen → ps.map Pc.l = (splL text).1 → ∀ (w2 : World) (L2 : List Nat), Nx w w2 L2 (fun w => ∀ p ∈ ps, RdU w p.A p.c p.l) → ∀ (q i : Nat), 1 ≤ i → i + q = 19 → (noOp TT 10 q i = true → noOp TT 10 18 1 = true) → ∀ (u : Nat → Value), Hs Tryz.prog 4 (fun e w' => e = .returned (.bool true) ∧ Only [] w w') (Tryz.f4).ntmps w2 L2 [b0, b1, 0] ⟨.no, loopAt Tryz.f4 2, pins [(1, .c (.v (.slice A text.length cap))), (2, .c (.v (.int .u8 k))), (3, .c (.p 0 0)), (9, .c (.v (.slice wA ps.length c2))), (10, .c (.v (.slice A1 (splL text).2.length c1))), (13, .c (.v (.int .i64 i)))] (.vals u), [.b true 26 (TM.sc TT), .s A1 c1 (splL text).2.length 5 1 ((splL text).2.flatMap cu8), .s wA c2 ps.length 27 1 (ps.flatMap Pc.cs)]⟩ := by
    intro h200 hgood A1 c1 ps wA c2 b0 b1 hpl hps w2 L2 N q
    induction q with
    | zero =>
      intro i h1 h2 hno u
      obtain rfl : i = 19 := by omega
      have h10 := hno rfl
      refine Hs.run0 300 (fun _ => by kernel_rfl) ?_
      refine Hs.condF (by kernel_rfl) ?_
      refine Hs.run0 300 (fun _ => by kernel_rfl) ?_
      refine Hs.callB 3 (fun _ => discSC (newD TT) nilS) N (fun w' H => new16_any TT w') (fun β x => rfl) (fun x j => disc_wf _ _ _) (by kernel_rfl) (by kernel_rfl) (by kernel_rfl) fun g _ w3 L3 N3 => ?_
      refine Hs.run0 300 (fun _ => by kernel_rfl) ?_
      refine Hs.loop (by kernel_rfl) ?_
      exact Hs.goto (loopAt Tryz.f4 3) [0, 1, 2, 3] [.b true 26 (TM.sc TT), .s A1 c1 (splL text).2.length 5 1 ((splL text).2.flatMap cu8), .s wA c2 ps.length 27 1 (ps.flatMap Pc.cs), .b true 53 (discSC (newD TT) nilS)] [(2, .c (.v (.int .u8 k))), (9, .c (.v (.slice wA ps.length c2))), (10, .c (.v (.slice A1 (splL text).2.length c1))), (14, .c (.p 3 0)), (74, .c (.v (.slice A text.length cap))), (75, .c (.v (.int .i64 text.length))), (76, .c (.v (.int .i64 (0 : Nat))))] (by kernel_rfl) (by decide) (by kernel_rfl) (by kernel_rfl) (fun _ => (by kernel_rfl)) (fun u => TY h200 h10 hgood A1 c1 ps wA c2 g b0 b1 hpl hps text.length 0 rfl (by omega) (newD TT) nilS w3 L3 (N3.imp fun w h => ⟨data_new TT w, h.2⟩) (few_new TT) ⟨rfl, rfl, rfl, rfl, rfl⟩ u)
    | succ q ih =>
      intro i h1 h2 hno u
      refine Hs.run0 300 (fun _ => by kernel_rfl) ?_
      refine Hs.condP ((i : Int) ≤ 18) (by kernel_rfl) (fun _ => ?_) (fun h => by omega)
      refine Hs.run0 300 (fun _ => by kernel_rfl) ?_
      refine Hs.callV (fun w' H => is_any TT i 10 h1 (by omega) w') (by kernel_rfl) ?_
      refine Hs.run0 300 (fun _ => by kernel_rfl) ?_
      refine Hs.cond (TT.is i 10) (by kernel_rfl) (fun h => ?_) (fun h => ?_)
      · refine Hs.run0 300 (fun _ => by kernel_rfl) ?_
        exact Hs.ret (v := .bool true) Tryz.func4 (by kernel_rfl) fun w' H => ⟨rfl, N.only H⟩
      · have hih := fun u => ih (i + 1) (by omega) (by omega) (fun h3 => hno (by unfold noOp; rw [h, h3]; rfl)) u
        refine Hs.run0 300 (fun _ => by kernel_rfl) ?_
        refine Hs.slot 13 (.c (.v (.int .i64 (i + 1 : Nat)))) rfl ((by kernel_rfl : _ = Value.int .i64 (IntKind.i64.wrap ((i : Int) + 1))).trans (by rw [IntWalk.i64_in _ (by omega)]; show Value.int .i64 ((i : Int) + 1) = Value.int .i64 ((i + 1 : Nat) : Int); rfl)) ?_
        refine Hs.loop (by kernel_rfl) ?_
        exact Hs.goto (loopAt Tryz.f4 2) [0, 1, 2] [.b true 26 (TM.sc TT), .s A1 c1 (splL text).2.length 5 1 ((splL text).2.flatMap cu8), .s wA c2 ps.length 27 1 (ps.flatMap Pc.cs)] [(1, .c (.v (.slice A text.length cap))), (2, .c (.v (.int .u8 k))), (3, .c (.p 0 0)), (9, .c (.v (.slice wA ps.length c2))), (10, .c (.v (.slice A1 (splL text).2.length c1))), (13, .c (.v (.int .i64 (i + 1 : Nat))))] (by kernel_rfl) (by decide) (by kernel_rfl) (by kernel_rfl) (fun _ => (by kernel_rfl)) hih
  have SP : text.length ≤ 200 → ∀ (e i : Nat), text.length - i = e → i ≤ text.length → (∀ x ∈ text.take i, x = 10 ∨ plainB TT x = true) → ∀ (cur : List Int) (A1 : Option Addr) (c1 : Nat) (ps : List (Pc Int)) (wA : Option Addr) (c2 : Nat) (b0 b1 : Nat), ps.length ≤ i → ps.map Pc.l = (splL (text.take i)).1 → cur = (splL (text.take i)).2 → cur.length ≤ i → ∀ (w2 : World) (L2 : List Nat), Nx w w2 L2 (fun w => ∀ p ∈ ps, RdU w p.A p.c p.l) → ∀ (u : Nat → Value), Hs Tryz.prog 4 (fun e w' => e = .returned (.bool true) ∧ Only [] w w') (Tryz.f4).ntmps w2 L2 [b0, b1, 0] ⟨.no, loopAt Tryz.f4 1, pins [(1, .c (.v (.slice A text.length cap))), (2, .c (.v (.int .u8 k))), (3, .c (.p 0 0)), (9, .c (.v (.slice wA ps.length c2))), (10, .c (.v (.slice A1 cur.length c1))), (40, .c (.v (.slice A text.length cap))), (41, .c (.v (.int .i64 text.length))), (42, .c (.v (.int .i64 i)))] (.vals u), [.b true 26 (TM.sc TT), .s A1 c1 cur.length 5 1 (cur.flatMap cu8), .s wA c2 ps.length 27 1 (ps.flatMap Pc.cs)]⟩ := by
    intro h200 e
    induction e with
    | zero =>
      intro i he hi hgood cur A1 c1 ps wA c2 b0 b1 hpl hps hcur hcl w2 L2 N u
      obtain rfl : i = text.length := by omega
      rw [List.take_length] at hgood hps hcur
      subst hcur
      refine Hs.run0 300 (fun _ => by kernel_rfl) ?_
      refine Hs.condP ((text.length : Int) < (text.length : Int)) (by kernel_rfl) (fun h => by omega) (fun _ => ?_)
      refine Hs.run0 300 (fun _ => by kernel_rfl) ?_
      refine Hs.loop (by kernel_rfl) ?_
      exact Hs.goto (loopAt Tryz.f4 2) [0, 1, 2] [.b true 26 (TM.sc TT), .s A1 c1 (splL text).2.length 5 1 ((splL text).2.flatMap cu8), .s wA c2 ps.length 27 1 (ps.flatMap Pc.cs)] [(1, .c (.v (.slice A text.length cap))), (2, .c (.v (.int .u8 k))), (3, .c (.p 0 0)), (9, .c (.v (.slice wA ps.length c2))), (10, .c (.v (.slice A1 (splL text).2.length c1))), (13, .c (.v (.int .i64 (1 : Nat))))] (by kernel_rfl) (by decide) (by kernel_rfl) (by kernel_rfl) (fun _ => (by kernel_rfl)) (fun u => OP h200 hgood A1 c1 ps wA c2 b0 b1 (by omega) hps w2 L2 N 18 1 (by decide) rfl (fun h => h) u)
    | succ e ihe =>
      intro i he hi hgood cur A1 c1 ps wA c2 b0 b1 hpl hps hcur hcl w2 L2 N u
      have hil : i < text.length := by omega
      obtain ⟨x, hx⟩ : ∃ x, text[i]? = some x := ⟨_, List.getElem?_eq_getElem hil⟩
      have htk : text.take (i + 1) = text.take i ++ [x] := by rw [List.take_add_one, hx]; rfl
      obtain ⟨ab, aoff, hA, _, _⟩ := hb.1 (by omega)
      have K : (x = 10 ∨ plainB TT x = true) → ∀ (u : Nat → Value), Hs Tryz.prog 4 (fun e w' => e = .returned (.bool true) ∧ Only [] w w') (Tryz.f4).ntmps w2 L2 [b0, b1, 0] ⟨.no, atR Tryz.f4 18, pins [(1, .c (.v (.slice A text.length cap))), (2, .c (.v (.int .u8 k))), (3, .c (.p 0 0)), (9, .c (.v (.slice wA ps.length c2))), (10, .c (.v (.slice A1 cur.length c1))), (40, .c (.v (.slice A text.length cap))), (41, .c (.v (.int .i64 text.length))), (42, .c (.v (.int .i64 i))), (12, .c (.v (.int .u8 x)))] (.vals u), [.b true 26 (TM.sc TT), .s A1 c1 cur.length 5 1 (cur.flatMap cu8), .s wA c2 ps.length 27 1 (ps.flatMap Pc.cs)]⟩ := by
        intro hgx u
        have hgood' : ∀ y ∈ text.take (i + 1), y = 10 ∨ plainB TT y = true := fun y hy => by
          rw [htk] at hy
          rcases List.mem_append.1 hy with h | h
          · exact hgood y h
          · rw [List.mem_singleton.1 h]; exact hgx
        refine Hs.run1 300 (fun _ => by kernel_rfl) fun b2 => ?_
        refine Hs.app (cf := cu8) (c := 1) (ty := 27) 1 elemU8 cur [x] cur.length 1 rfl rfl cu8_one cu8_len (A := A1) (B := some ⟨b2, 0, none⟩) (cap := c1) (by kernel_rfl) (by kernel_rfl) (by kernel_rfl) (fun w' H => H.rdB (cf := cu8) (wr := true) (T := 5) (cs := [.v (.int .u8 x)]) (gs := [x]) 3 (by kernel_rfl) rfl) (by unfold maxLen; omega) (by rw [by_u8]; omega) fun A3 c3 h3 => ?_
        have hl1 : (cur ++ [x]).length = cur.length + 1 := by simp
        refine Hs.run0 300 (fun _ => by kernel_rfl) ?_
        refine Hs.cond (x == 10) (by kernel_rfl) (fun h10 => ?_) (fun h10 => ?_)
        · refine Hs.run1 300 (fun _ => by kernel_rfl) fun b4 => ?_
          refine Hs.app (cf := Pc.cs) (c := 1) (ty := 43) 2 elemBs ps [(⟨A3, c3, cur ++ [x]⟩ : Pc Int)] ps.length 1 rfl rfl (fun p u hu => by simp [Pc.cs] at hu; subst hu; rfl) (fun _ => rfl) (A := wA) (B := some ⟨b4, 0, none⟩) (cap := c2) (by kernel_rfl) (by kernel_rfl) (by kernel_rfl) (fun w' H => H.rdB (cf := Pc.cs) (wr := true) (T := 27) (cs := [.v (.slice A3 (cur.length + 1) c3)]) (gs := [(⟨A3, c3, cur ++ [x]⟩ : Pc Int)]) 4 (by kernel_rfl) (by show _ = [Value.slice A3 (cur ++ [x]).length c3]; rw [hl1]; rfl)) (by unfold maxLen; omega) (by rw [by_bs]; omega) fun A4 c4 h4 => ?_
          refine Hs.run0 300 (fun _ => by kernel_rfl) ?_
          refine Hs.freezeN 1 (cf := cu8) (size := 1) (A := A3) (cap := c3) (nl := cur.length + 1) (E := 5) (l := cur ++ [x]) N hl1 (by kernel_rfl) (by kernel_rfl) fun w3 L3 N3 => ?_
          refine Hs.nilS 5 1 (by kernel_rfl) ?_ (by kernel_rfl)
          refine Hs.slot 42 (.c (.v (.int .i64 (i + 1 : Nat)))) rfl ((by kernel_rfl : _ = Value.int .i64 (IntKind.i64.wrap ((i : Int) + 1))).trans (wrap_nextJ hlen)) ?_
          refine Hs.loop (by kernel_rfl) ?_
          have hih := fun u => ihe (i + 1) (by omega) (by omega) hgood' [] none 0 (ps ++ [(⟨A3, c3, cur ++ [x]⟩ : Pc Int)]) A4 c4 b0 0 (by simp; omega) (by rw [List.map_append, hps, htk, splL_snoc, spl, if_pos h10, ← hcur]; rfl) (by rw [htk, splL_snoc, spl, if_pos h10]) (by simp) w3 L3 (N3.imp fun w h p hp => by
            rcases List.mem_append.1 hp with h1 | h1
            · exact h.2 p h1
            · rw [List.mem_singleton.1 h1]; exact h.1) u
          rw [show (ps ++ [(⟨A3, c3, cur ++ [x]⟩ : Pc Int)]).length = ps.length + 1 by simp] at hih
          exact Hs.goto (loopAt Tryz.f4 1) [0, 5, 2] [.b true 26 (TM.sc TT), .s none 0 0 5 1 (([] : List Int).flatMap cu8), .s A4 c4 (ps.length + 1) 27 1 ((ps ++ [(⟨A3, c3, cur ++ [x]⟩ : Pc Int)]).flatMap Pc.cs)] [(1, .c (.v (.slice A text.length cap))), (2, .c (.v (.int .u8 k))), (3, .c (.p 0 0)), (9, .c (.v (.slice A4 (ps.length + 1) c4))), (10, .c (.v (.slice none 0 0))), (40, .c (.v (.slice A text.length cap))), (41, .c (.v (.int .i64 text.length))), (42, .c (.v (.int .i64 (i + 1 : Nat))))] (by kernel_rfl) (by decide) (by kernel_rfl) (by kernel_rfl) (fun _ => (by kernel_rfl)) hih
        · refine Hs.run0 300 (fun _ => by kernel_rfl) ?_
          refine Hs.slot 42 (.c (.v (.int .i64 (i + 1 : Nat)))) rfl ((by kernel_rfl : _ = Value.int .i64 (IntKind.i64.wrap ((i : Int) + 1))).trans (wrap_nextJ hlen)) ?_
          refine Hs.loop (by kernel_rfl) ?_
          have hih := fun u => ihe (i + 1) (by omega) (by omega) hgood' (cur ++ [x]) A3 c3 ps wA c2 b0 b1 (by omega) (by rw [hps, htk, splL_snoc, spl, if_neg (by rw [h10]; decide)]) (by rw [htk, splL_snoc, spl, if_neg (by rw [h10]; decide), hcur]) (by omega) w2 L2 N u
          rw [hl1] at hih
          exact Hs.goto (loopAt Tryz.f4 1) [0, 1, 2] [.b true 26 (TM.sc TT), .s A3 c3 (cur.length + 1) 5 1 ((cur ++ [x]).flatMap cu8), .s wA c2 ps.length 27 1 (ps.flatMap Pc.cs)] [(1, .c (.v (.slice A text.length cap))), (2, .c (.v (.int .u8 k))), (3, .c (.p 0 0)), (9, .c (.v (.slice wA ps.length c2))), (10, .c (.v (.slice A3 (cur.length + 1) c3))), (40, .c (.v (.slice A text.length cap))), (41, .c (.v (.int .i64 text.length))), (42, .c (.v (.int .i64 (i + 1 : Nat))))] (by kernel_rfl) (by decide) (by kernel_rfl) (by kernel_rfl) (fun _ => (by kernel_rfl)) hih
      rw [hA] at K ⊢
      refine Hs.run0 300 (fun _ => by kernel_rfl) ?_
      refine Hs.condP ((i : Int) < (text.length : Int)) (by kernel_rfl) (fun _ => ?_) (fun h => by omega)
      refine Hs.run0 300 (fun _ => by kernel_rfl) ?_
      refine Hs.idx (b := ab) (off := aoff) (len := text.length) (c := cap) (i := i) elemU8 hil (by kernel_rfl) ?_
      refine Hs.run0 300 (fun _ => by kernel_rfl) ?_
      refine Hs.ldc (E' := 5) (b := ab) (off := aoff + i * 1) (.int .u8 x) (by kernel_rfl) (fun w' H => u8_cell (by rw [← hA]; exact hb.1.only (N.only H)) hx) (by kernel_rfl) ?_
      refine Hs.run0 300 (fun _ => by kernel_rfl) ?_
      refine Hs.bool 48 (x != 10) (by kernel_rfl) (fun h => ?_) (fun h => ?_)
      · refine Hs.rung0 [2] 300 (fun _ => by kernel_rfl) ?_
        refine Hs.callV (fun w' H => plain16_any TT x w') (by kernel_rfl) ?_
        refine Hs.rung0 [2] 300 (fun _ => by kernel_rfl) ?_
        refine Hs.cond (!plainB TT x) (by kernel_rfl) (fun h2 => ?_) (fun h2 => ?_)
        · refine Hs.run0 300 (fun _ => by kernel_rfl) ?_
          exact Hs.ret (v := .bool true) Tryz.func4 (by kernel_rfl) fun w' H => ⟨rfl, N.only H⟩
        · refine Hs.runR0 18 [] 300 (fun _ => by kernel_rfl) ?_
          exact Hs.goto (atR Tryz.f4 18) [0, 1, 2] [.b true 26 (TM.sc TT), .s A1 c1 cur.length 5 1 (cur.flatMap cu8), .s wA c2 ps.length 27 1 (ps.flatMap Pc.cs)] [(1, .c (.v (.slice (some ⟨ab, aoff, none⟩) text.length cap))), (2, .c (.v (.int .u8 k))), (3, .c (.p 0 0)), (9, .c (.v (.slice wA ps.length c2))), (10, .c (.v (.slice A1 cur.length c1))), (40, .c (.v (.slice (some ⟨ab, aoff, none⟩) text.length cap))), (41, .c (.v (.int .i64 text.length))), (42, .c (.v (.int .i64 i))), (12, .c (.v (.int .u8 x)))] (by kernel_rfl) (by decide) (by kernel_rfl) (by kernel_rfl) (fun _ => (by kernel_rfl)) (K (.inr (by simpa using h2)))
      · refine Hs.rung0 [2] 300 (fun _ => by kernel_rfl) ?_
        refine Hs.condF (by kernel_rfl) ?_
        refine Hs.runR0 18 [] 300 (fun _ => by kernel_rfl) ?_
        exact Hs.goto (atR Tryz.f4 18) [0, 1, 2] [.b true 26 (TM.sc TT), .s A1 c1 cur.length 5 1 (cur.flatMap cu8), .s wA c2 ps.length 27 1 (ps.flatMap Pc.cs)] [(1, .c (.v (.slice (some ⟨ab, aoff, none⟩) text.length cap))), (2, .c (.v (.int .u8 k))), (3, .c (.p 0 0)), (9, .c (.v (.slice wA ps.length c2))), (10, .c (.v (.slice A1 cur.length c1))), (40, .c (.v (.slice (some ⟨ab, aoff, none⟩) text.length cap))), (41, .c (.v (.int .i64 text.length))), (42, .c (.v (.int .i64 i))), (12, .c (.v (.int .u8 x)))] (by kernel_rfl) (by decide) (by kernel_rfl) (by kernel_rfl) (fun _ => (by kernel_rfl)) (K (.inl (by simpa using h)))
  refine Hs.enter Tryz.func4 [] [] [] [.g t.sc, .c (.v (.slice A text.length cap)), .c (.v (.int .u8 k))] (Mem.start0 w) (by kernel_rfl) (by kernel_rfl) ?_
  refine Hs.run1 300 (fun _ => by kernel_rfl) fun b0 => ?_
  refine Hs.callV (fun w' H => alive16_any w') (by kernel_rfl) ?_
  refine Hs.run0 300 (fun _ => by kernel_rfl) ?_
  refine Hs.condF (by kernel_rfl) ?_
  refine Hs.run0 300 (fun _ => by kernel_rfl) ?_
  refine Hs.callV (fun w' H => set_any t 51 true w') (by kernel_rfl) ?_
  refine Hs.run0 300 (fun _ => by kernel_rfl) ?_
  refine Hs.loop (by kernel_rfl) ?_
  refine Hs.goto (loopAt Tryz.f4 0) [0] [.b true 26 (TM.sc (t.set 51 true))] [(1, .c (.v (.slice A text.length cap))), (2, .c (.v (.int .u8 k))), (3, .c (.p 0 0)), (28, .c (.v (.agg #[.int .i64 33, .int .i64 37, .int .i64 31, .int .i64 34, .int .i64 39]))), (29, .c (.v (.int .i64 0)))] (by kernel_rfl) (by decide) (by kernel_rfl) (by kernel_rfl) (fun _ => (by kernel_rfl)) (fun u => ?_)
  refine Hs.run0 300 (fun _ => by kernel_rfl) ?_
  refine Hs.condT (by kernel_rfl) ?_
  refine Hs.run0 300 (fun _ => by kernel_rfl) ?_
  refine Hs.callV (fun w' H => set_any (t.set 51 true) 33 false w') (by kernel_rfl) ?_
  refine Hs.run0 300 (fun _ => by kernel_rfl) ?_
  refine Hs.loop (by kernel_rfl) ?_
  refine Hs.goto (loopAt Tryz.f4 0) [0] [.b true 26 (TM.sc ((t.set 51 true).set 33 false))] [(1, .c (.v (.slice A text.length cap))), (2, .c (.v (.int .u8 k))), (3, .c (.p 0 0)), (28, .c (.v (.agg #[.int .i64 33, .int .i64 37, .int .i64 31, .int .i64 34, .int .i64 39]))), (29, .c (.v (.int .i64 1)))] (by kernel_rfl) (by decide) (by kernel_rfl) (by kernel_rfl) (fun _ => (by kernel_rfl)) (fun u => ?_)
  refine Hs.run0 300 (fun _ => by kernel_rfl) ?_
  refine Hs.condT (by kernel_rfl) ?_
  refine Hs.run0 300 (fun _ => by kernel_rfl) ?_
  refine Hs.callV (fun w' H => set_any ((t.set 51 true).set 33 false) 37 false w') (by kernel_rfl) ?_
  refine Hs.run0 300 (fun _ => by kernel_rfl) ?_
  refine Hs.loop (by kernel_rfl) ?_
  refine Hs.goto (loopAt Tryz.f4 0) [0] [.b true 26 (TM.sc (((t.set 51 true).set 33 false).set 37 false))] [(1, .c (.v (.slice A text.length cap))), (2, .c (.v (.int .u8 k))), (3, .c (.p 0 0)), (28, .c (.v (.agg #[.int .i64 33, .int .i64 37, .int .i64 31, .int .i64 34, .int .i64 39]))), (29, .c (.v (.int .i64 2)))] (by kernel_rfl) (by decide) (by kernel_rfl) (by kernel_rfl) (fun _ => (by kernel_rfl)) (fun u => ?_)
  refine Hs.run0 300 (fun _ => by kernel_rfl) ?_
  refine Hs.condT (by kernel_rfl) ?_
  refine Hs.run0 300 (fun _ => by kernel_rfl) ?_
  refine Hs.callV (fun w' H => set_any (((t.set 51 true).set 33 false).set 37 false) 31 false w') (by kernel_rfl) ?_
  refine Hs.run0 300 (fun _ => by kernel_rfl) ?_
  refine Hs.loop (by kernel_rfl) ?_
  refine Hs.goto (loopAt Tryz.f4 0) [0] [.b true 26 (TM.sc ((((t.set 51 true).set 33 false).set 37 false).set 31 false))] [(1, .c (.v (.slice A text.length cap))), (2, .c (.v (.int .u8 k))), (3, .c (.p 0 0)), (28, .c (.v (.agg #[.int .i64 33, .int .i64 37, .int .i64 31, .int .i64 34, .int .i64 39]))), (29, .c (.v (.int .i64 3)))] (by kernel_rfl) (by decide) (by kernel_rfl) (by kernel_rfl) (fun _ => (by kernel_rfl)) (fun u => ?_)
  refine Hs.run0 300 (fun _ => by kernel_rfl) ?_
  refine Hs.condT (by kernel_rfl) ?_
  refine Hs.run0 300 (fun _ => by kernel_rfl) ?_
  refine Hs.callV (fun w' H => set_any ((((t.set 51 true).set 33 false).set 37 false).set 31 false) 34 false w') (by kernel_rfl) ?_
  refine Hs.run0 300 (fun _ => by kernel_rfl) ?_
  refine Hs.loop (by kernel_rfl) ?_
  refine Hs.goto (loopAt Tryz.f4 0) [0] [.b true 26 (TM.sc (((((t.set 51 true).set 33 false).set 37 false).set 31 false).set 34 false))] [(1, .c (.v (.slice A text.length cap))), (2, .c (.v (.int .u8 k))), (3, .c (.p 0 0)), (28, .c (.v (.agg #[.int .i64 33, .int .i64 37, .int .i64 31, .int .i64 34, .int .i64 39]))), (29, .c (.v (.int .i64 4)))] (by kernel_rfl) (by decide) (by kernel_rfl) (by kernel_rfl) (fun _ => (by kernel_rfl)) (fun u => ?_)
  refine Hs.run0 300 (fun _ => by kernel_rfl) ?_
  refine Hs.condT (by kernel_rfl) ?_
  refine Hs.run0 300 (fun _ => by kernel_rfl) ?_
  refine Hs.callV (fun w' H => set_any (((((t.set 51 true).set 33 false).set 37 false).set 31 false).set 34 false) 39 false w') (by kernel_rfl) ?_
  refine Hs.run0 300 (fun _ => by kernel_rfl) ?_
  refine Hs.loop (by kernel_rfl) ?_
  refine Hs.goto (loopAt Tryz.f4 0) [0] [.b true 26 (TM.sc ((((((t.set 51 true).set 33 false).set 37 false).set 31 false).set 34 false).set 39 false))] [(1, .c (.v (.slice A text.length cap))), (2, .c (.v (.int .u8 k))), (3, .c (.p 0 0)), (28, .c (.v (.agg #[.int .i64 33, .int .i64 37, .int .i64 31, .int .i64 34, .int .i64 39]))), (29, .c (.v (.int .i64 5)))] (by kernel_rfl) (by decide) (by kernel_rfl) (by kernel_rfl) (fun _ => (by kernel_rfl)) (fun u => ?_)
  refine Hs.run0 300 (fun _ => by kernel_rfl) ?_
  refine Hs.condF (by kernel_rfl) ?_
  refine Hs.run0 300 (fun _ => by kernel_rfl) ?_
  refine Hs.condP ((text.length : Int) > 200) (by kernel_rfl) (fun h => ?_) (fun h200 => ?_)
  · refine Hs.run0 300 (fun _ => by kernel_rfl) ?_
    exact Hs.ret (v := .bool true) Tryz.func4 (by kernel_rfl) fun w' H => ⟨rfl, H.only⟩
  refine Hs.run1 300 (fun _ => by kernel_rfl) fun b1 => ?_
  refine Hs.emptyS 1 (E := 5) 1 (g := b1) rfl (by kernel_rfl) (by kernel_rfl) ?_
  refine Hs.nilS 27 1 (by kernel_rfl) ?_ (by kernel_rfl)
  refine Hs.loop (by kernel_rfl) ?_
  have hsp := fun u => SP (by omega) text.length 0 rfl (by omega) (fun x hx => by cases hx) [] (some ⟨b1, 0, none⟩) 0 [] none 0 b0 b1 (by simp) rfl rfl (by simp) w [] ((Nx.start w).imp fun w _ p hp => by cases hp) u
  rw [hTT] at hsp
  exact Hs.goto (loopAt Tryz.f4 1) [0, 1, 2] [.b true 26 (TM.sc (lineT t)), .s (some ⟨b1, 0, none⟩) 0 0 5 1 (([] : List Int).flatMap cu8), .s none 0 0 27 1 (([] : List (Pc Int)).flatMap Pc.cs)] [(1, .c (.v (.slice A text.length cap))), (2, .c (.v (.int .u8 k))), (3, .c (.p 0 0)), (9, .c (.v (.slice none 0 0))), (10, .c (.v (.slice (some ⟨b1, 0, none⟩) 0 0))), (40, .c (.v (.slice A text.length cap))), (41, .c (.v (.int .i64 text.length))), (42, .c (.v (.int .i64 (0 : Nat))))] (by kernel_rfl) (by decide) (by kernel_rfl) (by kernel_rfl) (fun _ => (by kernel_rfl)) hsp
end Go.Proofs.YtjphcdphlmaopaaGreat

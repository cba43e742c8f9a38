/- Layer 16: a discipline set anew; for all settings; no condition. -/
import Derived.Test.YtnfcdbjckdhieaaGreatLdAV
import Derived.Test.YtnfcdbjckdhieaaGreatLdRt
namespace Go.Proofs.YtnfcdbjckdhieaaGreat
set_option linter.all false
set_option maxRecDepth 100000
open Go.RowKit

section
variable {P : Program} {f : FuncId} {R : Ending → World → Prop} {n : Nat} {w0 w00 : World} {L : List Nat} {β : List Nat} {m : SM} {D0 D1 F : World → Prop} {g : Nat}
/-- A slice of ours is read from here on. -/
theorem Hs.freezeC {α : Type} {cf : α → List Value} {size : Nat} (i k : Nat) {hi : HB} {A : Option Addr} {cap nl : Nat} {l : List α} {E : Nat} (C : Cx w00 g D0 w0 L D1) (hl : l.length = nl) (ei : m.hp[i]? = some hi) (hg : hi.blk g = some g) (hw : hi.wr = true) (hβ : β[i]? = some g) (ek : m.hp[k]? = some (.s A cap nl E size (l.flatMap cf))) (hne : i ≠ k) (hr : (match m.r with | .no => true | .lst .. => true | .lstN .. => true | _ => false) = true)
    (h : ∀ w1 L1, Cx w00 g D0 w1 L1 (fun w => (RdX cf w A l ∧ l.length ≤ cap ∧ cap ≤ maxLen) ∧ D1 w) → Hs P f R n w1 L1 β ⟨m.r, m.todo, m.sl, m.hp.set k .no⟩) : Hs P f R n w0 L β m := by
  refine ⟨fun w H W => ?_⟩
  have hnm := nm_get hβ
  have hg' : hi.blk (nm β i) = some g := by rw [hnm]; exact hg
  have H' : Mem w0 L β (m.hp.set k .no) w := H.turn (Only.refl [] w) (by simp) (by simp) fun j h' hj => by
    rw [List.getElem?_set] at hj
    split at hj
    · split at hj
      · injection hj with hj; exact .inl hj.symm
      · cases hj
    · exact .inr (.inl ⟨hj, by simp⟩)
  have hmem : g ∈ wrN β (m.hp.set k .no) := wrN_mem.2 ⟨i, hi, g, by rw [List.getElem?_set, if_neg (fun e => hne e.symm)]; exact ei, hβ, hw, hg⟩
  have key : ∀ x ∈ wrN β (m.hp.set k .no), x ∈ L ∨ w0.heap.size ≤ x := Nx.key H'
  have hA : ∀ a, A = some a → ∀ L' : List Nat, (∀ x ∈ L', x < w00.heap.size) → a.block ∉ L' ++ wrN β (m.hp.set k .no) := fun a ha L' hL' hx => by
    rcases List.mem_append.1 hx with hx | hx
    · have h1 := (C.fresh H (x := a.block) ei ek hne hg' rfl (by subst ha; rfl)).1
      have := hL' _ hx
      omega
    · obtain ⟨j, hb, b, h1, h2, h3, h4⟩ := wrN_mem.1 hx
      rw [List.getElem?_set] at h1
      split at h1
      · split at h1
        · injection h1 with h1; subst h1; cases h3
        · cases h1
      · rename_i hjk
        exact hjk (H.inj k j _ _ a.block ek h1 (by subst ha; rfl) (by rw [nm_get h2]; exact h4))
  have hcap := H.capS k hl ek
  have C' : Cx w00 g D0 w (wrN β (m.hp.set k .no)) (fun w => (RdX cf w A l ∧ l.length ≤ cap ∧ cap ≤ maxLen) ∧ D1 w) := by
    refine ⟨fun w3 O3 => C.back w3 (H'.back w3 O3), fun x hx => ?_, hmem, Nat.le_trans C.size H.only.size, C.old, C.k0, fun L' hL' hg2 hk2 => ?_⟩
    · rcases key x hx with h | h
      · exact C.mem x h
      · exact .inr (by have := C.size; omega)
    · refine Keeps.and ?_ ((C.keep L' hL' hg2 hk2).goN H.only (fun x hx => .inl (by simp [hx])) (fun x hx => ?_))
      · refine (rdX_keeps (H.rdX k hl ek) fun a ha => hA a ha L' hL').and fun _ _ => ⟨by rw [hl]; exact hcap.1, hcap.2⟩
      · rcases List.mem_append.1 hx with h | h
        · exact .inl (by simp [h])
        · rcases key x h with h | h
          · exact .inl (by simp [h])
          · exact .inr h
  have g2 := (h w _ C').go w H'.rebase (by
    simp only [SM.wf, Bool.and_eq_true] at W ⊢
    rw [List.length_set]
    refine ⟨W.1, List.all_eq_true.2 fun y hy => ?_⟩
    rcases List.mem_or_eq_of_mem_set hy with hy | rfl
    · exact List.all_eq_true.1 W.2 y hy
    · rfl)
  obtain ⟨r, todo, sl, hp⟩ := m
  cases r with
  | no => exact g2
  | lst => exact g2
  | lstN => exact g2
  | _ => cases hr
end
def setA (d : DM) (t : TM) : DM := { clearD d with t := t, raw := (d.raw ++ flatM d.lines ++ d.line).take 1024, next := false }
def setB (d : DM) (t : TM) : DM := { d with t := t, lines := d.lines ++ [(d.raw, true)], raw := [] }
def set2 (d : DM) (t : TM) : DM := if d.t.has 51 && !t.has 51 then setA d t else if (t.has 51 && !d.t.has 51) && decide ((d.raw.length : Int) > 0) then setB d t else { d with t := t }
def setD (d : DM) (t : TM) : DM := if rightB t then set2 d t else d
def setE (t : TM) : Int := if rightB t then 0 else 4
def discN (d : DM) (s : DS) (n : Nat) : List SC := d.t.sc ++ [.v (.slice s.la d.line.length s.lc), .v (.bool d.next), .v (.slice s.sa n s.sc), .v (.slice s.ra d.raw.length s.rc), .v (.bool d.st), .v (.bool d.held), .v (.slice s.oa d.out.length s.oc), .v (.int .i64 d.col), .v (.int .i64 d.frm), .v (.int .i64 d.idle)]
theorem discN_eq (d : DM) (s : DS) (n : Nat) (h : d.lines.length = n) : discSC d s = discN d s n := by subst h; rfl
theorem totP_three {α : Type} (p q r : Pc α) : totP [p, q, r] = p.l ++ q.l ++ r.l := by simp [totP]
set_option maxHeartbeats 4000000 in
theorem dset_any (d : DM) (s : DS) (g : Nat) (t : TM) (w : World) (h : DAt w g d s) (hf : Few d) : Calls Tryz.prog 105 #[.pointer (some ⟨g, 0, none⟩), t.val] w (DPost w g s d (setD d t) (.int .i64 (setE t))) := by
  have C := Cx.start h.data (Blk.lt h.blk)
  have hmap := h.data.at.map
  have hll := h.data.at.llen
  have hfl := flatM_le d.lines
  have h1 := hf.line
  have h2 := hf.raw
  have h3 := hf.used
  have h4 := hf.lines
  refine Hs.enter Tryz.func105 [g] [g] [.b true 96 (discSC d s)] [.c (.p 0 0), .g t.sc] (Mem.one w g h.blk) (by kernel_rfl) (by kernel_rfl) ?_
  refine Hs.run1 300 (fun _ => by kernel_rfl) fun b1 => ?_
  refine Hs.condF (by kernel_rfl) ?_
  refine Hs.run0 300 (fun _ => by kernel_rfl) ?_
  refine Hs.callV (fun w' H => Calls.mono (right_any t w') fun e w'' h => ⟨h.1, only_of_below h.2⟩) (by kernel_rfl) ?_
  refine Hs.run0 300 (fun _ => by kernel_rfl) ?_
  refine Hs.cond (!rightB t) (by kernel_rfl) (fun hr => ?_) (fun hr => ?_)
  · have hr' : rightB t = false := by simpa using hr
    have e1 : setD d t = d := by unfold setD; rw [if_neg (by rw [hr']; decide)]
    have e2 : setE t = 4 := by unfold setE; rw [if_neg (by rw [hr']; decide)]
    rw [e1, e2]
    refine Hs.run0 300 (fun _ => by kernel_rfl) ?_
    exact Hs.ret (v := .int .i64 4) Tryz.func105 (by kernel_rfl) fun w' H => DPost.of (s := s) (d := d) C H rfl (by kernel_rfl) fun w h => h
  have hr' : rightB t = true := by simpa using hr
  have e1 : setD d t = set2 d t := by unfold setD; rw [if_pos hr']
  have e2 : setE t = 0 := by unfold setE; rw [if_pos hr']
  rw [e1, e2]
  clear e1 e2
  refine Hs.run0 300 (fun _ => by kernel_rfl) ?_
  refine Hs.any [0, 1] (by kernel_rfl) ?_
  refine Hs.run0 300 (fun _ => by kernel_rfl) ?_
  refine Hs.callV (fun w' H => dhas_any 51 d s g w' (H.at (wr := true) (T := 96) (cs := discSC d s) 0 (by kernel_rfl))) (by kernel_rfl) ?_
  refine Hs.run0 300 (fun _ => by kernel_rfl) ?_
  refine Hs.callV (fun w' H => has_any t 51 w') (by kernel_rfl) ?_
  refine Hs.run0 300 (fun _ => by kernel_rfl) ?_
  refine Hs.bool 21 (d.t.has 51) (by kernel_rfl) (fun ha => ?_) (fun ha => ?_)
  · refine Hs.rung0 [1] 300 (fun _ => by kernel_rfl) ?_
    refine Hs.cond (!t.has 51) (by kernel_rfl) (fun hb => ?_) (fun hb => ?_)
    · obtain ⟨rq, hrq⟩ : ∃ rq : List Int, rq = (d.raw ++ flatM d.lines ++ d.line).take 1024 := ⟨_, rfl⟩
      have e : set2 d t = { clearD d with t := t, raw := rq, next := false } := by unfold set2; rw [if_pos (by rw [ha, hb]; rfl), hrq]; rfl
      rw [e]
      refine Hs.run0 300 (fun _ => by kernel_rfl) ?_
      refine Hs.any [0, 1] (by kernel_rfl) ?_
      refine Hs.run0 300 (fun _ => by kernel_rfl) ?_
      refine Hs.callS (cf := cu8) (E := 5) (size := 1) (fun A cap => .slice A (flatM d.lines).length cap) (flatM d.lines) _ rfl (fun w' H => by
        have hd := C.now H
        have := flat_any s.sa s.sc s.xs w' hd.lines (by rw [hmap]; omega)
        rw [hmap, hll] at this
        exact this) (by kernel_rfl) (by kernel_rfl) fun A3 c3 h5 h6 => ?_
      refine Hs.run1 300 (fun _ => by kernel_rfl) fun b4 => ?_
      have hal : (d.raw ++ flatM d.lines ++ d.line).length = d.raw.length + (flatM d.lines).length + d.line.length := by rw [List.length_append, List.length_append]
      refine Hs.callS (cf := cu8) (E := 5) (size := 1) (fun A cap => .slice A (d.raw ++ flatM d.lines ++ d.line).length cap) (d.raw ++ flatM d.lines ++ d.line) _ rfl (fun w' H => by
        have := concatB_any [⟨s.ra, s.rc, d.raw⟩, ⟨A3, c3, flatM d.lines⟩, ⟨s.la, s.lc, d.line⟩] (some ⟨b4, 0, none⟩) 3 w' (H.rdB (cf := Pc.cs) (wr := true) (T := 27) (cs := [.v (.slice s.ra d.raw.length s.rc), .v (.slice A3 (flatM d.lines).length c3), .v (.slice s.la d.line.length s.lc)]) 3 (by kernel_rfl) rfl) ⟨by simp, by unfold maxLen; omega⟩ (fun p hp => by
          simp only [List.mem_cons, List.not_mem_nil, or_false] at hp
          rcases hp with rfl | rfl | rfl
          · exact (C.now H).raw.1
          · exact H.rdX (cf := cu8) (A := A3) (cap := c3) (E := 5) (size := 1) 2 rfl (by kernel_rfl)
          · exact (C.now H).line.1) (by rw [totP_three]; show (d.raw ++ flatM d.lines ++ d.line).length ≤ _; omega)
        rw [totP_three] at this
        exact this) (by kernel_rfl) (by kernel_rfl) fun A5 c5 h7 h8 => ?_
      generalize hall : d.raw ++ flatM d.lines ++ d.line = all at *
      refine Hs.run0 300 (fun _ => by kernel_rfl) ?_
      refine Hs.freezeC (cf := cu8) (size := 1) 0 4 (A := A5) (cap := c5) (nl := all.length) (E := 5) C rfl (by kernel_rfl : _ = some (HB.b true 96 (discSC d s))) rfl rfl rfl (by kernel_rfl) (by decide) (by kernel_rfl) fun w1 L1 C1 => ?_
      refine Hs.callDD (F := fun w => RdX cu8 w A5 all ∧ all.length ≤ c5 ∧ c5 ≤ maxLen) (s := s) (d := d) (d' := clearD d) (v := .tuple #[]) (C1.imp fun w h => ⟨h.2, h.1⟩) rfl (by kernel_rfl) (fun w' H hD => dclear_any d s g w' hD) (by kernel_rfl) (by kernel_rfl) (fun _ => (by kernel_rfl)) fun s1 w2 L2 C2 => ?_
      have hql : rq.length = min 1024 all.length := by rw [hrq, List.length_take]
      have hrq2 : rq = all.take rq.length := by
        rw [hql, hrq]
        by_cases hx : all.length ≤ 1024
        · rw [Nat.min_eq_right hx, List.take_of_length_le hx, List.take_length]
        · rw [Nat.min_eq_left (by omega)]
      refine Hs.run0 300 (fun _ => by kernel_rfl) ?_
      refine Hs.slot 47 (.c (.v (.int .i64 (rq.length : Nat)))) rfl ((by kernel_rfl : _ = Value.int .i64 (if (1024 : Int) < (all.length : Int) then 1024 else (all.length : Int))).trans (by
        rw [show (if (1024 : Int) < (all.length : Int) then 1024 else (all.length : Int)) = (rq.length : Int) by split <;> omega]
        rfl)) ?_
      refine Hs.hi elemU8 (A := A5) (len := all.length) (cap := c5) (i := rq.length) (by omega) (by kernel_rfl) ?_
      refine Hs.run0 300 (fun _ => by kernel_rfl) ?_
      exact Hs.ret (v := .int .i64 0) Tryz.func105 (by kernel_rfl) fun w' H => DPost.of (s := { s1 with ra := hiA 1 A5 c5, rc := c5 }) (d := { clearD d with t := t, raw := rq, next := false }) C2 H rfl (by kernel_rfl) fun w h => ⟨h.1.line, h.1.lines, h.1.map, ⟨by show RdX cu8 w (hiA 1 A5 c5) rq; rw [hrq2]; exact rdX_hi cu8_len h.2.1 (by omega), by show rq.length ≤ c5; have := h.2.2.1; omega, h.2.2.2⟩, h.1.out⟩
    · have hb' : t.has 51 = true := by simpa using hb
      have e : set2 d t = { d with t := t } := by unfold set2; rw [if_neg (by rw [ha, hb']; simp), if_neg (by rw [ha, hb']; simp)]
      rw [e]
      refine Hs.run0 300 (fun _ => by kernel_rfl) ?_
      refine Hs.bool 55 (t.has 51) (by kernel_rfl) (fun _ => ?_) (fun hx => absurd (hb'.symm.trans hx) (by decide))
      refine Hs.rung0 [1] 300 (fun _ => by kernel_rfl) ?_
      refine Hs.bool 59 (!d.t.has 51) (by kernel_rfl) (fun hx => by rw [ha] at hx; cases hx) (fun _ => ?_)
      refine Hs.rung0 [1, 5] 300 (fun _ => by kernel_rfl) ?_
      refine Hs.condF (by kernel_rfl) ?_
      refine Hs.run0 300 (fun _ => by kernel_rfl) ?_
      exact Hs.ret (v := .int .i64 0) Tryz.func105 (by kernel_rfl) fun w' H => DPost.of (s := s) (d := { d with t := t }) C H rfl (by kernel_rfl) fun w h => ⟨h.line, h.lines, h.map, h.raw, h.out⟩
  · refine Hs.rung0 [1] 300 (fun _ => by kernel_rfl) ?_
    refine Hs.condF (by kernel_rfl) ?_
    refine Hs.run0 300 (fun _ => by kernel_rfl) ?_
    refine Hs.bool 55 (t.has 51) (by kernel_rfl) (fun hb => ?_) (fun hb => ?_)
    · refine Hs.rung0 [1] 300 (fun _ => by kernel_rfl) ?_
      refine Hs.bool 59 (!d.t.has 51) (by kernel_rfl) (fun _ => ?_) (fun hx => by rw [ha] at hx; cases hx)
      refine Hs.rung0 [1, 5] 300 (fun _ => by kernel_rfl) ?_
      refine Hs.condP ((d.raw.length : Int) > 0) (by kernel_rfl) (fun hc => ?_) (fun hc => ?_)
      · have e : set2 d t = { d with t := t, lines := d.lines ++ [(d.raw, true)], raw := [] } := by unfold set2; rw [if_neg (by rw [ha]; simp), if_pos (by rw [ha, hb, decide_eq_true hc]; rfl)]; rfl
        rw [e]
        refine Hs.run0 300 (fun _ => by kernel_rfl) ?_
        refine Hs.any [0, 1, 1015] (by kernel_rfl) ?_
        refine Hs.run0 300 (fun _ => by kernel_rfl) ?_
        refine Hs.slot 77 (.g (Ln.sc ⟨s.ra, s.rc, d.raw, true⟩)) rfl (by kernel_rfl) ?_
        refine Hs.branch2 5 11 (by kernel_rfl) ?_ ?_
        · refine Hs.callS (cf := cLn) (E := 128) (size := 2) (fun A cap => .slice A d.lines.length cap) s.xs d.lines.length hll (fun w' H => by
            have := cloneL_any s.xs s.sa s.sc w' (C.now H).lines.rd (by omega)
            rw [hll] at this
            exact this) (by kernel_rfl) (by kernel_rfl) fun A3 c3 h5 h6 => ?_
          refine Hs.run1 300 (fun _ => by kernel_rfl) fun b5 => ?_
          refine Hs.app (cf := cLn) (c := 1) (ty := 93) 2 elemLn s.xs [(⟨s.ra, s.rc, d.raw, true⟩ : Ln)] d.lines.length 1 hll rfl cLn_one cLn_len (A := A3) (B := some ⟨b5, 0, none⟩) (cap := c3) (by kernel_rfl) (by kernel_rfl) (by kernel_rfl) (fun w' H => H.rdB (cf := cLn) (wr := true) (T := 128) (cs := Ln.sc ⟨s.ra, s.rc, d.raw, true⟩) (gs := [(⟨s.ra, s.rc, d.raw, true⟩ : Ln)]) 3 (by kernel_rfl) rfl) (by unfold maxLen; omega) (by rw [by_line]; omega) fun A6 c6 h9 => ?_
          refine Hs.run0 300 (fun _ => by kernel_rfl) ?_
          refine Hs.freezeC (cf := cLn) (size := 2) 0 2 (A := A6) (cap := c6) (nl := d.lines.length + 1) (l := s.xs ++ [(⟨s.ra, s.rc, d.raw, true⟩ : Ln)]) (E := 128) C (by rw [List.length_append, hll]; rfl) (by kernel_rfl : _ = some (HB.b true 96 (discN { d with t := t, lines := d.lines ++ [(d.raw, true)], raw := [] } { s with sa := A6, sc := c6, xs := s.xs ++ [(⟨s.ra, s.rc, d.raw, true⟩ : Ln)], ra := none, rc := 0 } (d.lines.length + 1)))) rfl rfl rfl (by kernel_rfl) (by decide) (by kernel_rfl) fun w1 L1 C1 => ?_
          exact Hs.ret (v := .int .i64 0) Tryz.func105 (by kernel_rfl) fun w' H => DPost.of (s := { s with sa := A6, sc := c6, xs := s.xs ++ [(⟨s.ra, s.rc, d.raw, true⟩ : Ln)], ra := none, rc := 0 }) (d := { d with t := t, lines := d.lines ++ [(d.raw, true)], raw := [] }) C1 H rfl (by rw [discN_eq { d with t := t, lines := d.lines ++ [(d.raw, true)], raw := [] } { s with sa := A6, sc := c6, xs := s.xs ++ [(⟨s.ra, s.rc, d.raw, true⟩ : Ln)], ra := none, rc := 0 } (d.lines.length + 1) (by rw [List.length_append]; rfl)]; kernel_rfl) fun w h => ⟨h.2.line, ⟨h.1.1, h.1.2.1, h.1.2.2, fun y hy => by
            rcases List.mem_append.1 hy with h1 | h1
            · exact h.2.lines.all y h1
            · rw [List.mem_singleton.1 h1]; exact h.2.raw⟩, by show List.map Ln.m (s.xs ++ _) = _; rw [List.map_append, hmap]; rfl, rdU_nil w, h.2.out⟩
        · refine Hs.run1 300 (fun _ => by kernel_rfl) fun b5 => ?_
          refine Hs.callS (cf := cLn) (E := 128) (size := 2) (fun A cap => .slice A d.lines.length cap) s.xs d.lines.length hll (fun w' H => by
            have := cloneL_any s.xs s.sa s.sc w' (C.now H).lines.rd (by omega)
            rw [hll] at this
            exact this) (by kernel_rfl) (by kernel_rfl) fun A3 c3 h5 h6 => ?_
          refine Hs.run0 300 (fun _ => by kernel_rfl) ?_
          refine Hs.app (cf := cLn) (c := 1) (ty := 93) 3 elemLn s.xs [(⟨s.ra, s.rc, d.raw, true⟩ : Ln)] d.lines.length 1 hll rfl cLn_one cLn_len (A := A3) (B := some ⟨b5, 0, none⟩) (cap := c3) (by kernel_rfl) (by kernel_rfl) (by kernel_rfl) (fun w' H => H.rdB (cf := cLn) (wr := true) (T := 128) (cs := Ln.sc ⟨s.ra, s.rc, d.raw, true⟩) (gs := [(⟨s.ra, s.rc, d.raw, true⟩ : Ln)]) 2 (by kernel_rfl) rfl) (by unfold maxLen; omega) (by rw [by_line]; omega) fun A6 c6 h9 => ?_
          refine Hs.run0 300 (fun _ => by kernel_rfl) ?_
          refine Hs.freezeC (cf := cLn) (size := 2) 0 3 (A := A6) (cap := c6) (nl := d.lines.length + 1) (l := s.xs ++ [(⟨s.ra, s.rc, d.raw, true⟩ : Ln)]) (E := 128) C (by rw [List.length_append, hll]; rfl) (by kernel_rfl : _ = some (HB.b true 96 (discN { d with t := t, lines := d.lines ++ [(d.raw, true)], raw := [] } { s with sa := A6, sc := c6, xs := s.xs ++ [(⟨s.ra, s.rc, d.raw, true⟩ : Ln)], ra := none, rc := 0 } (d.lines.length + 1)))) rfl rfl rfl (by kernel_rfl) (by decide) (by kernel_rfl) fun w1 L1 C1 => ?_
          exact Hs.ret (v := .int .i64 0) Tryz.func105 (by kernel_rfl) fun w' H => DPost.of (s := { s with sa := A6, sc := c6, xs := s.xs ++ [(⟨s.ra, s.rc, d.raw, true⟩ : Ln)], ra := none, rc := 0 }) (d := { d with t := t, lines := d.lines ++ [(d.raw, true)], raw := [] }) C1 H rfl (by rw [discN_eq { d with t := t, lines := d.lines ++ [(d.raw, true)], raw := [] } { s with sa := A6, sc := c6, xs := s.xs ++ [(⟨s.ra, s.rc, d.raw, true⟩ : Ln)], ra := none, rc := 0 } (d.lines.length + 1) (by rw [List.length_append]; rfl)]; kernel_rfl) fun w h => ⟨h.2.line, ⟨h.1.1, h.1.2.1, h.1.2.2, fun y hy => by
            rcases List.mem_append.1 hy with h1 | h1
            · exact h.2.lines.all y h1
            · rw [List.mem_singleton.1 h1]; exact h.2.raw⟩, by show List.map Ln.m (s.xs ++ _) = _; rw [List.map_append, hmap]; rfl, rdU_nil w, h.2.out⟩
      · have e : set2 d t = { d with t := t } := by unfold set2; rw [if_neg (by rw [ha]; simp), if_neg (by rw [decide_eq_false hc]; simp)]
        rw [e]
        refine Hs.run0 300 (fun _ => by kernel_rfl) ?_
        exact Hs.ret (v := .int .i64 0) Tryz.func105 (by kernel_rfl) fun w' H => DPost.of (s := s) (d := { d with t := t }) C H rfl (by kernel_rfl) fun w h => ⟨h.line, h.lines, h.map, h.raw, h.out⟩
    · have e : set2 d t = { d with t := t } := by unfold set2; rw [if_neg (by rw [ha]; simp), if_neg (by rw [hb]; simp)]
      rw [e]
      refine Hs.rung0 [1, 5] 300 (fun _ => by kernel_rfl) ?_
      refine Hs.condF (by kernel_rfl) ?_
      refine Hs.run0 300 (fun _ => by kernel_rfl) ?_
      exact Hs.ret (v := .int .i64 0) Tryz.func105 (by kernel_rfl) fun w' H => DPost.of (s := s) (d := { d with t := t }) C H rfl (by kernel_rfl) fun w h => ⟨h.line, h.lines, h.map, h.raw, h.out⟩
end Go.Proofs.YtnfcdbjckdhieaaGreat

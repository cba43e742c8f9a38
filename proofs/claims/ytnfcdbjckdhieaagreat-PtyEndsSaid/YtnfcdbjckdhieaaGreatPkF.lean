/- Layer 16: a discipline, as it lies in memory; what a method of it leaves; what is put out and shown; for all disciplines; no condition but their size · Layer 16: what waits, what is shown and echoed, a beep; for all disciplines; no condition but their size · Layer 16: a byte taken; for all disciplines; no condition but their size · Layer 16: a line ended, the marks; for all disciplines; no condition but their size · Layer 16: what the characters do; for all disciplines; no condition but their size · Layer 16: what is erased, and shown anew; for all disciplines; no condition but their size · Layer 16: which way a byte goes; for all disciplines and bytes; no condition · Layer 16: the way of a byte, the signal that it sends; for all disciplines and bytes; no condition · Layer 16: a byte that is typed; for all disciplines and bytes; no condition but their size. -/
import Derived.Test.YtnfcdbjckdhieaaGreatPkE
import Derived.Test.YtnfcdbjckdhieaaGreatPkC
namespace Go.Proofs.YtnfcdbjckdhieaaGreat
set_option linter.all false
set_option maxRecDepth 100000
open Go.RowKit

/-- A discipline. -/
structure DM where
  t : TM
  line : List Int
  next : Bool
  lines : List (List Int × Bool)
  raw : List Int
  st : Bool
  held : Bool
  out : List Int
  col : Int
  frm : Int
  idle : Int
/-- Where its bytes lie. -/
structure DS where
  la : Option Addr
  lc : Nat
  sa : Option Addr
  sc : Nat
  xs : List Ln
  ra : Option Addr
  rc : Nat
  oa : Option Addr
  oc : Nat
def discSC (d : DM) (s : DS) : List SC := d.t.sc ++ [.v (.slice s.la d.line.length s.lc), .v (.bool d.next), .v (.slice s.sa d.lines.length s.sc), .v (.slice s.ra d.raw.length s.rc), .v (.bool d.st), .v (.bool d.held), .v (.slice s.oa d.out.length s.oc), .v (.int .i64 d.col), .v (.int .i64 d.frm), .v (.int .i64 d.idle)]
def discV (d : DM) (s : DS) : List Value := d.t.cells ++ [.slice s.la d.line.length s.lc, .bool d.next, .slice s.sa d.lines.length s.sc, .slice s.ra d.raw.length s.rc, .bool d.st, .bool d.held, .slice s.oa d.out.length s.oc, .int .i64 d.col, .int .i64 d.frm, .int .i64 d.idle]
theorem discD (β : List Nat) (d : DM) (s : DS) : dens β (discSC d s) = discV d s := rfl
/-- Its bytes are read. -/
structure Data (s : DS) (d : DM) (w : World) : Prop where
  line : RdU w s.la s.lc d.line
  lines : RdL w s.sa s.sc s.xs
  map : s.xs.map Ln.m = d.lines
  raw : RdU w s.ra s.rc d.raw
  out : RdU w s.oa s.oc d.out
theorem Data.llen {s : DS} {d : DM} {w : World} (h : Data s d w) : s.xs.length = d.lines.length := by rw [← h.map, List.length_map]
/-- Lines without a byte. -/
def zeroN (ls : List (List Int × Bool)) : Nat := (ls.filter fun p => sizeM p == 0).length
theorem zeroN_app (a b : List (List Int × Bool)) : zeroN (a ++ b) = zeroN a + zeroN b := by simp [zeroN]
theorem zeroN_len : ∀ ls : List (List Int × Bool), ls.length ≤ zeroN ls + usedM ls
  | [] => by simp
  | p :: l => by
    have ih := zeroN_len l
    have e1 : zeroN (p :: l) = zeroN [p] + zeroN l := zeroN_app [p] l
    have e2 : usedM (p :: l) = sizeM p + usedM l := by simp [usedM]
    have e3 : 1 ≤ zeroN [p] + sizeM p := by
      unfold zeroN
      by_cases h : sizeM p = 0
      · simp [h]
      · simp [h]; omega
    rw [e1, e2, List.length_cons]
    omega
/-- Few bytes. -/
structure Few (d : DM) : Prop where
  line : d.line.length ≤ 30000
  raw : d.raw.length ≤ 30000
  out : d.out.length ≤ 30000
  used : usedM d.lines ≤ 30000
  zero : zeroN d.lines ≤ 20000
theorem Few.lines {d : DM} (hf : Few d) : d.lines.length ≤ 50000 := by
  have := zeroN_len d.lines
  have := hf.used
  have := hf.zero
  omega
/-- A discipline in memory. -/
structure DAt (w : World) (g : Nat) (d : DM) (s : DS) : Prop where
  blk : Blk w g 96 (discV d s)
  data : Keeps w [g] (Data s d)
/-- What a method of it leaves. -/
def DPost (w : World) (g : Nat) (s : DS) (d d' : DM) (v : Value) : Ending → World → Prop := fun e w' => ∃ s', e = .returned v ∧ Only [g] w w' ∧ Blk w' g 96 (discV d' s') ∧ Turns w w' g (Data s d) (Data s' d')
theorem DPost.of {w w1 w' : World} {g : Nat} {s0 s : DS} {d0 d : DM} {L1 β : List Nat} {hp : List HB} {D1 : World → Prop} {v : Value} (C : Cx w g (Data s0 d0) w1 L1 D1) (H : Mem w1 L1 β hp w') (hβ : β[0]? = some g) (hk : hp[0]? = some (.b true 96 (discSC d s))) (f : ∀ w, D1 w → Data s d w) : DPost w g s0 d0 d v (.returned v) w' := by
  refine ⟨s, rfl, C.only H, ?_, (C.turns H).imp f⟩
  have := H.at 0 hk
  rw [nm_get hβ] at this
  exact this
section
variable {P : Program} {f : FuncId} {R : Ending → World → Prop} {n : Nat} {w0 w00 : World} {L : List Nat} {β : List Nat} {m : SM} {D0 D1 F : World → Prop} {g : Nat}
/-- A method of the discipline, called. -/
theorem Hs.callDD {s : DS} {d d' : DM} {v : Value} {Fn : FuncId} {args : Array Value} (C : Cx w00 g D0 w0 L (fun w => Data s d w ∧ F w)) (hβ : β[0]? = some g) (hk : m.hp[0]? = some (.b true 96 (discSC d s)))
    (hC : ∀ w, Mem w0 L β m.hp w → DAt w g d s → Calls P Fn args w (DPost w g s d d' v)) (hc : callOf P n β m = some (Fn, args)) (hrd : rdOf m = []) (hwf : ∀ s1, (discSC d' s1).all (SC.wf m.hp.length) = true)
    (h : ∀ s1 w1 L1, Cx w00 g D0 w1 L1 (fun w => Data s1 d' w ∧ F w) → Hs P f R n w1 L1 β (m.put (dstOf m) (.c (.v v)) (m.hp.set 0 (.b true 96 (discSC d' s1))))) : Hs P f R n w0 L β m :=
  Hs.callD 0 (fun _ : DS => v) (fun s1 => discSC d' s1) (fun s1 => Data s1 d') C hβ hk (fun w H hB hK => hC w H ⟨hB, hK⟩) hc hrd hwf h
/-- A slice of ours is read from here on. -/
theorem Hs.freeze (i k : Nat) {hi : HB} {A : Option Addr} {cap nl : Nat} {l : List Int} {E : Nat} (C : Cx w00 g D0 w0 L D1) (hl : l.length = nl) (ei : m.hp[i]? = some hi) (hg : hi.blk g = some g) (hw : hi.wr = true) (hβ : β[i]? = some g) (ek : m.hp[k]? = some (.s A cap nl E 1 (l.flatMap cu8))) (hne : i ≠ k) (hr : (match m.r with | .no => true | .lst .. => true | .lstN .. => true | _ => false) = true)
    (h : ∀ w1 L1, Cx w00 g D0 w1 L1 (fun w => RdU w A cap l ∧ D1 w) → Hs P f R n w1 L1 β ⟨m.r, m.todo, m.sl, m.hp.set k .no⟩) : Hs P f R n w0 L β m := by
  refine ⟨fun w H W => ?_⟩
  have hnm := nm_get hβ
  have hg' : hi.blk (nm β i) = some g := by rw [hnm]; exact hg
  have H' : Mem w0 L β (m.hp.set k .no) w := H.turn (Only.refl [] w) (by simp) (by simp) fun j h' hj => by
    rw [List.getElem?_set] at hj
    split at hj
    · split at hj
      · injection hj with hj; exact .inl hj.symm
      · cases hj
    · exact .inr (.inl ⟨hj, by simp⟩)
  have hmem : g ∈ wrN β (m.hp.set k .no) := wrN_mem.2 ⟨i, hi, g, by rw [List.getElem?_set, if_neg (fun e => hne e.symm)]; exact ei, hβ, hw, hg⟩
  have key : ∀ x ∈ wrN β (m.hp.set k .no), x ∈ L ∨ w0.heap.size ≤ x := Nx.key H'
  have hA : ∀ a, A = some a → ∀ L' : List Nat, (∀ x ∈ L', x < w00.heap.size) → a.block ∉ L' ++ wrN β (m.hp.set k .no) := fun a ha L' hL' hx => by
    rcases List.mem_append.1 hx with hx | hx
    · have h1 := (C.fresh H (x := a.block) ei ek hne hg' rfl (by subst ha; rfl)).1
      have := hL' _ hx
      omega
    · obtain ⟨j, hb, b, h1, h2, h3, h4⟩ := wrN_mem.1 hx
      rw [List.getElem?_set] at h1
      split at h1
      · split at h1
        · injection h1 with h1; subst h1; cases h3
        · cases h1
      · rename_i hjk
        exact hjk (H.inj k j _ _ a.block ek h1 (by subst ha; rfl) (by rw [nm_get h2]; exact h4))
  have hcap := H.capS k hl ek
  have C' : Cx w00 g D0 w (wrN β (m.hp.set k .no)) (fun w => RdU w A cap l ∧ D1 w) := by
    refine ⟨fun w3 O3 => C.back w3 (H'.back w3 O3), fun x hx => ?_, hmem, Nat.le_trans C.size H.only.size, C.old, C.k0, fun L' hL' hg2 hk2 => ?_⟩
    · rcases key x hx with h | h
      · exact C.mem x h
      · exact .inr (by have := C.size; omega)
    · refine Keeps.and ?_ ((C.keep L' hL' hg2 hk2).goN H.only (fun x hx => .inl (by simp [hx])) (fun x hx => ?_))
      · refine (rdX_keeps (H.rdX k hl ek) fun a ha => hA a ha L' hL').and fun _ _ => ⟨by rw [hl]; exact hcap.1, hcap.2⟩
      · rcases List.mem_append.1 hx with h | h
        · exact .inl (by simp [h])
        · rcases key x h with h | h
          · exact .inl (by simp [h])
          · exact .inr h
  have g2 := (h w _ C').go w H'.rebase (by
    simp only [SM.wf, Bool.and_eq_true] at W ⊢
    rw [List.length_set]
    refine ⟨W.1, List.all_eq_true.2 fun y hy => ?_⟩
    rcases List.mem_or_eq_of_mem_set hy with hy | rfl
    · exact List.all_eq_true.1 W.2 y hy
    · rfl)
  obtain ⟨r, todo, sl, hp⟩ := m
  cases r with
  | no => exact g2
  | lst => exact g2
  | lstN => exact g2
  | _ => cases hr
end
def DM.has (d : DM) (op : Int) : Bool := d.t.has op
theorem dhas_any (op : Int) (d : DM) (s : DS) (g : Nat) (w : World) (h : Blk w g 96 (discV d s)) : Calls Tryz.prog 47 #[.pointer (some ⟨g, 0, none⟩), .int .i64 op] w fun e w' => e = .returned (.bool (d.t.has op)) ∧ Only [] w w' := by
  refine Hs.enter Tryz.func47 [] [g] [.b false 96 (discSC d s)] [.c (.p 0 0), .c (.v (.int .i64 op))] (Mem.rdB1 w g h) (by kernel_rfl) (by kernel_rfl) ?_
  refine Hs.run0 300 (fun _ => by kernel_rfl) ?_
  refine Hs.callV (fun w' H => has_any d.t op w') (by kernel_rfl) ?_
  refine Hs.run0 300 (fun _ => by kernel_rfl) ?_
  exact Hs.ret (v := .bool (d.t.has op)) Tryz.func47 (by kernel_rfl) fun w' H => ⟨rfl, H.only⟩
theorem dis_any (op : Nat) (c : Int) (h1 : 1 ≤ op) (h2 : op ≤ 18) (d : DM) (s : DS) (g : Nat) (w : World) (h : Blk w g 96 (discV d s)) : Calls Tryz.prog 87 #[.pointer (some ⟨g, 0, none⟩), .int .i64 op, .int .u8 c] w fun e w' => e = .returned (.bool (d.t.is op c)) ∧ Only [] w w' := by
  refine Hs.enter Tryz.func87 [] [g] [.b false 96 (discSC d s)] [.c (.p 0 0), .c (.v (.int .i64 op)), .c (.v (.int .u8 c))] (Mem.rdB1 w g h) (by kernel_rfl) (by kernel_rfl) ?_
  refine Hs.run0 300 (fun _ => by kernel_rfl) ?_
  refine Hs.callV (fun w' H => is_any d.t op c h1 h2 w') (by kernel_rfl) ?_
  refine Hs.run0 300 (fun _ => by kernel_rfl) ?_
  exact Hs.ret (v := .bool (d.t.is op c)) Tryz.func87 (by kernel_rfl) fun w' H => ⟨rfl, H.only⟩
def putD (d : DM) (b : List Int) : DM × Bool := if d.out.length + b.length > 4096 then (d, false) else ({ d with out := d.out ++ b }, true)
theorem dput_any (d : DM) (s : DS) (g : Nat) (B : Option Addr) (cB : Nat) (b : List Int) (w : World) (h : DAt w g d s) (hf : Few d) (hb : Keeps w [g] (fun w => RdX cu8 w B b)) (hbl : b.length ≤ 500000) : Calls Tryz.prog 76 #[.pointer (some ⟨g, 0, none⟩), .slice B b.length cB] w (DPost w g s d (putD d b).1 (.bool (putD d b).2)) := by
  have hol := hf.out
  have e1 : IntKind.i64.wrap ((d.out.length : Int) + (b.length : Int)) = ((d.out.length + b.length : Nat) : Int) := by rw [IntWalk.i64_in _ (by omega)]; omega
  have C := Cx.start h.data (Blk.lt h.blk)
  refine Hs.enter Tryz.func76 [g] [g] [.b true 96 (discSC d s)] [.c (.p 0 0), .c (.v (.slice B b.length cB))] (Mem.one w g h.blk) (by kernel_rfl) (by kernel_rfl) ?_
  refine Hs.run0 300 (fun _ => by kernel_rfl) ?_
  refine Hs.condP (IntKind.i64.wrap ((d.out.length : Int) + (b.length : Int)) > 4096) (by kernel_rfl) (fun h1 => ?_) (fun h1 => ?_)
  all_goals rw [e1] at h1
  · have e : putD d b = (d, false) := by unfold putD; rw [if_pos (by omega)]
    rw [e]
    refine Hs.run0 300 (fun _ => by kernel_rfl) ?_
    exact Hs.ret (v := .bool false) Tryz.func76 (by kernel_rfl) fun w' H => DPost.of (s := s) C H rfl (by kernel_rfl) fun w h => h
  · have e : putD d b = ({ d with out := d.out ++ b }, true) := by unfold putD; rw [if_neg (by omega)]
    rw [e]
    refine Hs.run1 300 (fun _ => by kernel_rfl) fun b1 => ?_
    refine Hs.callS (cf := cu8) (E := 5) (size := 1) (fun A cap => .slice A (d.out ++ b).length cap) (d.out ++ b) _ rfl (fun w' H => by
      have := concatB_any [⟨s.oa, s.oc, d.out⟩, ⟨B, cB, b⟩] (some ⟨b1, 0, none⟩) 2 w' (H.rdB (cf := Pc.cs) (wr := true) (T := 27) (cs := [.v (.slice s.oa d.out.length s.oc), .v (.slice B b.length cB)]) 1 (by kernel_rfl) rfl) ⟨by simp, by unfold maxLen; omega⟩ (fun p hp => by
        simp only [List.mem_cons, List.not_mem_nil, or_false] at hp
        rcases hp with rfl | rfl
        · exact (C.now H).out.1
        · exact hb w' H.only) (by rw [totP_two]; show (d.out ++ b).length ≤ _; rw [List.length_append]; omega)
      rw [totP_two] at this
      exact this) (by kernel_rfl) (by kernel_rfl) fun A3 c3 h3 h4 => ?_
    refine Hs.freeze 0 2 (A := A3) (cap := c3) (nl := (d.out ++ b).length) (E := 5) C rfl (by kernel_rfl : _ = some (HB.b true 96 (discSC d s))) rfl rfl rfl (by kernel_rfl) (by decide) (by kernel_rfl) fun w1 L1 C1 => ?_
    refine Hs.run0 300 (fun _ => by kernel_rfl) ?_
    exact Hs.ret (v := .bool true) Tryz.func76 (by kernel_rfl) fun w' H => DPost.of (s := { s with oa := A3, oc := c3 }) (d := { d with out := d.out ++ b }) C1 H rfl (by kernel_rfl) fun w h => ⟨h.2.line, h.2.lines, h.2.map, h.2.raw, h.1⟩
end Go.Proofs.YtnfcdbjckdhieaaGreat

namespace Go.Proofs.YtnfcdbjckdhieaaGreat
set_option linter.all false
set_option maxRecDepth 100000
open Go.RowKit

section
variable {w0 w : World} {L β : List Nat} {hp : List HB} {g : Nat}
theorem Mem.keepU (H : Mem w0 L β hp w) (i k : Nat) {hi : HB} {A : Option Addr} {cap n E : Nat} {l : List Int} (hl : l.length = n) (ei : hp[i]? = some hi) (ek : hp[k]? = some (.s A cap n E 1 (l.flatMap cu8))) (hne : i ≠ k) (hg : hi.blk (nm β i) = some g) : Keeps w [g] (fun w => RdU w A cap l) := by
  have hc := H.capS k hl ek
  exact (H.keepS i k hl ei ek hne hg).and fun _ _ => ⟨by rw [hl]; exact hc.1, hc.2⟩
theorem Mem.keepLit (H : Mem w0 L β hp w) (i k : Nat) {hi : HB} {wr : Bool} {T : TypeId} {l : List Int} (n : Nat) (hn : l.length = n) (h1 : n ≤ 1000) (ei : hp[i]? = some hi) (ek : hp[k]? = some (.b wr T (l.map fun x => .v (.int .u8 x)))) (hne : i ≠ k) (hg : hi.blk (nm β i) = some g) : Keeps w [g] (fun w => RdU w (some ⟨nm β k, 0, none⟩) n l) :=
  (H.keepB i k ei ek hne hg (dens_u8 β l)).and fun _ _ => ⟨Nat.le_of_eq hn, by unfold maxLen; omega⟩
end
def usedD (d : DM) : Nat := usedM d.lines + d.line.length + d.raw.length
theorem dused_any (d : DM) (s : DS) (g : Nat) (w : World) (h : DAt w g d s) (hf : Few d) : Calls Tryz.prog 33 #[.pointer (some ⟨g, 0, none⟩)] w fun e w' => e = .returned (.int .i64 (usedD d)) ∧ Only [] w w' := by
  have h1 := hf.used
  have h2 := hf.line
  have h3 := hf.raw
  have e1 : IntKind.i64.wrap ((usedM d.lines : Int) + (d.line.length : Int)) = ((usedM d.lines + d.line.length : Nat) : Int) := by rw [IntWalk.i64_in _ (by omega)]; omega
  have e2 : IntKind.i64.wrap (((usedM d.lines + d.line.length : Nat) : Int) + (d.raw.length : Int)) = ((usedD d : Nat) : Int) := by unfold usedD; rw [IntWalk.i64_in _ (by omega)]; omega
  refine Hs.enter Tryz.func33 [] [g] [.b false 96 (discSC d s)] [.c (.p 0 0)] (Mem.rdB1 w g h.blk) (by kernel_rfl) (by kernel_rfl) ?_
  refine Hs.run0 300 (fun _ => by kernel_rfl) ?_
  refine Hs.condF (by kernel_rfl) ?_
  refine Hs.run0 300 (fun _ => by kernel_rfl) ?_
  refine Hs.any [0] (by kernel_rfl) ?_
  refine Hs.run0 300 (fun _ => by kernel_rfl) ?_
  refine Hs.callV (v := .int .i64 (usedM d.lines)) (fun w' H => by
    have hd := h.data w' (H.only.mono (by simp))
    have := used_any s.sa s.sc s.xs w' hd.lines (by rw [hd.map]; omega)
    rw [hd.map, hd.llen] at this
    exact this) (by kernel_rfl) ?_
  refine Hs.run0 300 (fun _ => by kernel_rfl) ?_
  exact Hs.ret (v := .int .i64 (IntKind.i64.wrap (IntKind.i64.wrap ((usedM d.lines : Int) + (d.line.length : Int)) + (d.raw.length : Int)))) Tryz.func33 (by kernel_rfl) fun w' H => ⟨by rw [e1, e2], H.only⟩
theorem putD_few {d : DM} {b : List Int} (hf : Few d) : Few (putD d b).1 := by
  unfold putD
  split
  · exact hf
  · exact ⟨hf.line, hf.raw, by show (d.out ++ b).length ≤ _; rw [List.length_append]; omega, hf.used, hf.zero⟩
def showD (d : DM) (b : List Int) : DM := if (putD d (postC d.t (withinC d.col) b).2).2 then { (putD d (postC d.t (withinC d.col) b).2).1 with col := (postC d.t (withinC d.col) b).1 } else (putD d (postC d.t (withinC d.col) b).2).1
theorem showD_few {d : DM} {b : List Int} (hf : Few d) : Few (showD d b) := by
  have h := putD_few (b := (postC d.t (withinC d.col) b).2) hf
  unfold showD
  split
  · exact ⟨h.line, h.raw, h.out, h.used, h.zero⟩
  · exact h
theorem dshow_any (d : DM) (s : DS) (g : Nat) (B : Option Addr) (cB : Nat) (b : List Int) (w : World) (h : DAt w g d s) (hf : Few d) (hb : Keeps w [g] (fun w => RdU w B cB b)) (hbl : b.length ≤ 250000) : Calls Tryz.prog 131 #[.pointer (some ⟨g, 0, none⟩), .slice B b.length cB] w (DPost w g s d (showD d b) (.tuple #[])) := by
  have C := Cx.start h.data (Blk.lt h.blk)
  have hr := post_rng (t := d.t) (b := b) (within_rng d.col)
  unfold showD
  generalize hq : postC d.t (withinC d.col) b = q at hr
  refine Hs.enter Tryz.func131 [g] [g] [.b true 96 (discSC d s)] [.c (.p 0 0), .c (.v (.slice B b.length cB))] (Mem.one w g h.blk) (by kernel_rfl) (by kernel_rfl) ?_
  refine Hs.run0 300 (fun _ => by kernel_rfl) ?_
  refine Hs.any [0] (by kernel_rfl) ?_
  refine Hs.run0 300 (fun _ => by kernel_rfl) ?_
  refine Hs.callS (cf := cu8) (E := 5) (size := 1) (fun A cap => .tuple #[.slice A q.2.length cap, .int .i64 q.1]) q.2 _ rfl (fun w' H => by
    have h1 := hb w' H.only
    have := post_Bytes_any d.t d.col B cB b w' h1.1 h1.2.1 h1.2.2 (by omega)
    rw [hq] at this
    exact this) (by kernel_rfl) (by kernel_rfl) fun A1 c1 h1 h2 => ?_
  refine Hs.run0 300 (fun _ => by kernel_rfl) ?_
  refine Hs.callDD (F := fun _ => True) (s := s) (d := d) (d' := (putD d q.2).1) (v := .bool (putD d q.2).2) (C.imp fun w h => ⟨h, trivial⟩) rfl (by kernel_rfl) (fun w' H hD => dput_any d s g A1 c1 q.2 w' hD hf (H.keepS (A := A1) (cap := c1) (E := 5) (size := 1) 0 1 rfl (by kernel_rfl : _ = some (HB.b true 96 (discSC d s))) (by kernel_rfl) (by decide) rfl) (by omega)) (by kernel_rfl) (by kernel_rfl) (fun _ => (by kernel_rfl)) fun s1 w1 L1 C1 => ?_
  refine Hs.run0 300 (fun _ => by kernel_rfl) ?_
  refine Hs.cond (putD d q.2).2 (by kernel_rfl) (fun hc => ?_) (fun hc => ?_)
  · refine Hs.run0 300 (fun _ => by kernel_rfl) ?_
    rw [if_pos hc]
    exact Hs.ret (v := .tuple #[]) Tryz.func131 (by kernel_rfl) fun w' H => DPost.of (s := s1) (d := { (putD d q.2).1 with col := q.1 }) C1 H rfl (by kernel_rfl) fun w h => ⟨h.1.line, h.1.lines, h.1.map, h.1.raw, h.1.out⟩
  · refine Hs.run0 300 (fun _ => by kernel_rfl) ?_
    rw [if_neg (by rw [hc]; decide)]
    exact Hs.ret (v := .tuple #[]) Tryz.func131 (by kernel_rfl) fun w' H => DPost.of (s := s1) (d := (putD d q.2).1) C1 H rfl (by kernel_rfl) fun w h => h.1
def echoD (d : DM) (b : List Int) : DM := if d.t.has 53 then showD d b else d
theorem echoD_few {d : DM} {b : List Int} (hf : Few d) : Few (echoD d b) := by
  unfold echoD
  split
  · exact showD_few hf
  · exact hf
theorem decho_any (d : DM) (s : DS) (g : Nat) (B : Option Addr) (cB : Nat) (b : List Int) (w : World) (h : DAt w g d s) (hf : Few d) (hb : Keeps w [g] (fun w => RdU w B cB b)) (hbl : b.length ≤ 250000) : Calls Tryz.prog 119 #[.pointer (some ⟨g, 0, none⟩), .slice B b.length cB] w (DPost w g s d (echoD d b) (.tuple #[])) := by
  have C := Cx.start h.data (Blk.lt h.blk)
  refine Hs.enter Tryz.func119 [g] [g] [.b true 96 (discSC d s)] [.c (.p 0 0), .c (.v (.slice B b.length cB))] (Mem.one w g h.blk) (by kernel_rfl) (by kernel_rfl) ?_
  refine Hs.run0 300 (fun _ => by kernel_rfl) ?_
  refine Hs.callV (fun w' H => dhas_any 53 d s g w' (H.at (wr := true) (T := 96) (cs := discSC d s) 0 (by kernel_rfl))) (by kernel_rfl) ?_
  refine Hs.run0 300 (fun _ => by kernel_rfl) ?_
  refine Hs.cond (d.t.has 53) (by kernel_rfl) (fun hc => ?_) (fun hc => ?_)
  · have e : echoD d b = showD d b := by unfold echoD; rw [if_pos hc]
    rw [e]
    refine Hs.run0 300 (fun _ => by kernel_rfl) ?_
    refine Hs.callDD (F := fun _ => True) (s := s) (d := d) (d' := showD d b) (v := .tuple #[]) (C.imp fun w h => ⟨h, trivial⟩) rfl (by kernel_rfl) (fun w' H hD => dshow_any d s g B cB b w' hD hf (hb.go H.only) hbl) (by kernel_rfl) (by kernel_rfl) (fun _ => (by kernel_rfl)) fun s1 w1 L1 C1 => ?_
    refine Hs.run0 300 (fun _ => by kernel_rfl) ?_
    exact Hs.ret (v := .tuple #[]) Tryz.func119 (by kernel_rfl) fun w' H => DPost.of (s := s1) (d := showD d b) C1 H rfl (by kernel_rfl) fun w h => h.1
  · have e : echoD d b = d := by unfold echoD; rw [if_neg (by rw [hc]; decide)]
    rw [e]
    refine Hs.run0 300 (fun _ => by kernel_rfl) ?_
    exact Hs.ret (v := .tuple #[]) Tryz.func119 (by kernel_rfl) fun w' H => DPost.of (s := s) (d := d) C H rfl (by kernel_rfl) fun w h => h
def echoOfD (d : DM) (c : Int) : DM := echoD d (showC d.t c)
theorem dechoOf_any (d : DM) (s : DS) (g : Nat) (c : Int) (w : World) (h : DAt w g d s) (hf : Few d) : Calls Tryz.prog 79 #[.pointer (some ⟨g, 0, none⟩), .int .u8 c] w (DPost w g s d (echoOfD d c) (.tuple #[])) := by
  have C := Cx.start h.data (Blk.lt h.blk)
  have hs := show_le d.t c
  refine Hs.enter Tryz.func79 [g] [g] [.b true 96 (discSC d s)] [.c (.p 0 0), .c (.v (.int .u8 c))] (Mem.one w g h.blk) (by kernel_rfl) (by kernel_rfl) ?_
  refine Hs.run0 300 (fun _ => by kernel_rfl) ?_
  refine Hs.callS (cf := cu8) (E := 5) (size := 1) (fun A cap => .slice A (showC d.t c).length cap) (showC d.t c) _ rfl (fun w' H => show_any d.t c w') (by kernel_rfl) (by kernel_rfl) fun A1 c1 h1 h2 => ?_
  refine Hs.run0 300 (fun _ => by kernel_rfl) ?_
  refine Hs.callDD (F := fun _ => True) (s := s) (d := d) (d' := echoD d (showC d.t c)) (v := .tuple #[]) (C.imp fun w h => ⟨h, trivial⟩) rfl (by kernel_rfl) (fun w' H hD => decho_any d s g A1 c1 (showC d.t c) w' hD hf (H.keepU (A := A1) (cap := c1) (E := 5) 0 1 rfl (by kernel_rfl : _ = some (HB.b true 96 (discSC d s))) (by kernel_rfl) (by decide) rfl) (by omega)) (by kernel_rfl) (by kernel_rfl) (fun _ => (by kernel_rfl)) fun s1 w1 L1 C1 => ?_
  refine Hs.run0 300 (fun _ => by kernel_rfl) ?_
  exact Hs.ret (v := .tuple #[]) Tryz.func79 (by kernel_rfl) fun w' H => DPost.of (s := s1) (d := echoD d (showC d.t c)) C1 H rfl (by kernel_rfl) fun w h => h.1
def beepD (d : DM) : DM := if d.t.has 41 then (putD d [7]).1 else d
theorem beepD_few {d : DM} (hf : Few d) : Few (beepD d) := by
  unfold beepD
  split
  · exact putD_few hf
  · exact hf
theorem dbeep_any (d : DM) (s : DS) (g : Nat) (w : World) (h : DAt w g d s) (hf : Few d) : Calls Tryz.prog 78 #[.pointer (some ⟨g, 0, none⟩)] w (DPost w g s d (beepD d) (.tuple #[])) := by
  have C := Cx.start h.data (Blk.lt h.blk)
  refine Hs.enter Tryz.func78 [g] [g] [.b true 96 (discSC d s)] [.c (.p 0 0)] (Mem.one w g h.blk) (by kernel_rfl) (by kernel_rfl) ?_
  refine Hs.run0 300 (fun _ => by kernel_rfl) ?_
  refine Hs.callV (fun w' H => dhas_any 41 d s g w' (H.at (wr := true) (T := 96) (cs := discSC d s) 0 (by kernel_rfl))) (by kernel_rfl) ?_
  refine Hs.run0 300 (fun _ => by kernel_rfl) ?_
  refine Hs.cond (d.t.has 41) (by kernel_rfl) (fun hc => ?_) (fun hc => ?_)
  · have e : beepD d = (putD d [7]).1 := by unfold beepD; rw [if_pos hc]
    rw [e]
    refine Hs.run1 300 (fun _ => by kernel_rfl) fun b1 => ?_
    refine Hs.callDD (F := fun _ => True) (s := s) (d := d) (d' := (putD d [7]).1) (v := .bool (putD d [7]).2) (C.imp fun w h => ⟨h, trivial⟩) rfl (by kernel_rfl) (fun w' H hD => dput_any d s g (some ⟨b1, 0, none⟩) 1 [7] w' hD hf ((H.keepLit (wr := true) (T := 5) (l := [7]) 0 1 1 rfl (by decide) (by kernel_rfl : _ = some (HB.b true 96 (discSC d s))) (by kernel_rfl) (by decide) rfl).imp fun w h => h.1) (by decide)) (by kernel_rfl) (by kernel_rfl) (fun _ => (by kernel_rfl)) fun s1 w1 L1 C1 => ?_
    refine Hs.run0 300 (fun _ => by kernel_rfl) ?_
    exact Hs.ret (v := .tuple #[]) Tryz.func78 (by kernel_rfl) fun w' H => DPost.of (s := s1) (d := (putD d [7]).1) C1 H rfl (by kernel_rfl) fun w h => h.1
  · have e : beepD d = d := by unfold beepD; rw [if_neg (by rw [hc]; decide)]
    rw [e]
    refine Hs.run0 300 (fun _ => by kernel_rfl) ?_
    exact Hs.ret (v := .tuple #[]) Tryz.func78 (by kernel_rfl) fun w' H => DPost.of (s := s) (d := d) C H rfl (by kernel_rfl) fun w h => h
end Go.Proofs.YtnfcdbjckdhieaaGreat

namespace Go.Proofs.YtnfcdbjckdhieaaGreat
set_option linter.all false
set_option maxRecDepth 100000
open Go.RowKit

theorem echoOfD_few {d : DM} {c : Int} (hf : Few d) : Few (echoOfD d c) := echoD_few hf
def takeL (d : DM) (c : Int) (b : List Int) : DM := if d.line.length + b.length > 254 then beepD d else echoOfD { d with line := d.line ++ b, frm := if d.line.length = 0 then d.col else d.frm } c
def takeR (d : DM) (c : Int) (b : List Int) : DM := if d.raw.length + b.length > 1024 then beepD d else echoOfD { d with raw := d.raw ++ b } c
def takeD (d : DM) (c : Int) (b : List Int) : DM := if d.t.has 51 then takeL d c b else takeR d c b
theorem takeD_few {d : DM} {c : Int} {b : List Int} (hf : Few d) : Few (takeD d c b) := by
  unfold takeD takeL takeR
  split
  · split
    · exact beepD_few hf
    · exact echoOfD_few ⟨by show (d.line ++ b).length ≤ _; rw [List.length_append]; omega, hf.raw, hf.out, hf.used, hf.zero⟩
  · split
    · exact beepD_few hf
    · exact echoOfD_few ⟨hf.line, by show (d.raw ++ b).length ≤ _; rw [List.length_append]; omega, hf.out, hf.used, hf.zero⟩
theorem dtake_any (d : DM) (s : DS) (g : Nat) (c : Int) (B : Option Addr) (cB : Nat) (b : List Int) (w : World) (h : DAt w g d s) (hf : Few d) (hb : Keeps w [g] (fun w => RdU w B cB b)) (hbl : b.length ≤ 1000) : Calls Tryz.prog 41 #[.pointer (some ⟨g, 0, none⟩), .int .u8 c, .slice B b.length cB] w (DPost w g s d (takeD d c b) (.tuple #[])) := by
  have C := Cx.start h.data (Blk.lt h.blk)
  have h1 := hf.line
  have h2 := hf.raw
  have e1 : IntKind.i64.wrap ((d.line.length : Int) + (b.length : Int)) = ((d.line.length + b.length : Nat) : Int) := by rw [IntWalk.i64_in _ (by omega)]; omega
  have e2 : IntKind.i64.wrap ((d.raw.length : Int) + (b.length : Int)) = ((d.raw.length + b.length : Nat) : Int) := by rw [IntWalk.i64_in _ (by omega)]; omega
  refine Hs.enter Tryz.func41 [g] [g] [.b true 96 (discSC d s)] [.c (.p 0 0), .c (.v (.int .u8 c)), .c (.v (.slice B b.length cB))] (Mem.one w g h.blk) (by kernel_rfl) (by kernel_rfl) ?_
  refine Hs.run0 300 (fun _ => by kernel_rfl) ?_
  refine Hs.callV (fun w' H => dhas_any 51 d s g w' (H.at (wr := true) (T := 96) (cs := discSC d s) 0 (by kernel_rfl))) (by kernel_rfl) ?_
  refine Hs.run0 300 (fun _ => by kernel_rfl) ?_
  refine Hs.cond (d.t.has 51) (by kernel_rfl) (fun hc => ?_) (fun hc => ?_)
  · have e : takeD d c b = takeL d c b := by unfold takeD; rw [if_pos hc]
    rw [e]
    refine Hs.run0 300 (fun _ => by kernel_rfl) ?_
    refine Hs.condP (IntKind.i64.wrap ((d.line.length : Int) + (b.length : Int)) > 254) (by kernel_rfl) (fun h3 => ?_) (fun h3 => ?_)
    all_goals rw [e1] at h3
    · have e : takeL d c b = beepD d := by unfold takeL; rw [if_pos (by omega)]
      rw [e]
      refine Hs.run0 300 (fun _ => by kernel_rfl) ?_
      refine Hs.callDD (F := fun _ => True) (s := s) (d := d) (d' := beepD d) (v := .tuple #[]) (C.imp fun w h => ⟨h, trivial⟩) rfl (by kernel_rfl) (fun w' H hD => dbeep_any d s g w' hD hf) (by kernel_rfl) (by kernel_rfl) (fun _ => (by kernel_rfl)) fun s1 w1 L1 C1 => ?_
      refine Hs.run0 300 (fun _ => by kernel_rfl) ?_
      exact Hs.ret (v := .tuple #[]) Tryz.func41 (by kernel_rfl) fun w' H => DPost.of (s := s1) (d := beepD d) C1 H rfl (by kernel_rfl) fun w h => h.1
    · have e : takeL d c b = echoOfD { d with line := d.line ++ b, frm := if d.line.length = 0 then d.col else d.frm } c := by unfold takeL; rw [if_neg (by omega)]
      rw [e]
      refine Hs.runR0 5 [] 300 (fun _ => by kernel_rfl) ?_
      refine Hs.rung0 [] 5 (fun _ => (by kernel_rfl)) ?_

      refine Hs.binP (p := some ⟨g, 24, none⟩) (q := some ⟨g, 24, none⟩) (op := .eql) (T := 155) (.bool true) (by kernel_rfl) (fun w => by rw [run_eqp (E := 27) (k := 1) (by kernel_rfl) (by kernel_rfl) (by decide), addr_eq]) ?_
      refine Hs.rung0 [5] 300 (fun _ => by kernel_rfl) ?_
      refine Hs.cond ((d.line.length : Int) == 0) (by kernel_rfl) (fun h4 => ?_) (fun h4 => ?_)
      · have h5 : d.line.length = 0 := by simpa using h4
        rw [if_pos h5]
        refine Hs.run1 300 (fun _ => by kernel_rfl) fun b1 => ?_
        refine Hs.callS (cf := cu8) (E := 5) (size := 1) (fun A cap => .slice A (d.line ++ b).length cap) (d.line ++ b) _ rfl (fun w' H => by
          have := concatB_any [⟨s.la, s.lc, d.line⟩, ⟨B, cB, b⟩] (some ⟨b1, 0, none⟩) 2 w' (H.rdB (cf := Pc.cs) (wr := true) (T := 27) (cs := [.v (.slice s.la d.line.length s.lc), .v (.slice B b.length cB)]) 1 (by kernel_rfl) rfl) ⟨by simp, by unfold maxLen; omega⟩ (fun p hp => by
            simp only [List.mem_cons, List.not_mem_nil, or_false] at hp
            rcases hp with rfl | rfl
            · exact (C.now H).line.1
            · exact (hb w' H.only).1) (by rw [totP_two]; show (d.line ++ b).length ≤ _; rw [List.length_append]; omega)
          rw [totP_two] at this
          exact this) (by kernel_rfl) (by kernel_rfl) fun A3 c3 h6 h7 => ?_
        refine Hs.freeze 0 2 (hi := .b true 96 (discSC { d with frm := d.col } s)) (A := A3) (cap := c3) (nl := (d.line ++ b).length) (E := 5) C rfl (by kernel_rfl) rfl rfl rfl (by kernel_rfl) (by decide) (by kernel_rfl) fun w1 L1 C1 => ?_
        refine Hs.run0 300 (fun _ => by kernel_rfl) ?_
        refine Hs.callDD (F := fun _ => True) (s := { s with la := A3, lc := c3 }) (d := { d with line := d.line ++ b, frm := d.col }) (d' := echoOfD { d with line := d.line ++ b, frm := d.col } c) (v := .tuple #[]) (C1.imp fun w h => ⟨⟨h.1, h.2.lines, h.2.map, h.2.raw, h.2.out⟩, trivial⟩) rfl (by kernel_rfl) (fun w' H hD => dechoOf_any { d with line := d.line ++ b, frm := d.col } { s with la := A3, lc := c3 } g c w' hD ⟨by show (d.line ++ b).length ≤ _; rw [List.length_append]; omega, hf.raw, hf.out, hf.used, hf.zero⟩) (by kernel_rfl) (by kernel_rfl) (fun _ => (by kernel_rfl)) fun s2 w2 L2 C2 => ?_
        refine Hs.run0 300 (fun _ => by kernel_rfl) ?_
        exact Hs.ret (v := .tuple #[]) Tryz.func41 (by kernel_rfl) fun w' H => DPost.of (s := s2) (d := echoOfD { d with line := d.line ++ b, frm := d.col } c) C2 H rfl (by kernel_rfl) fun w h => h.1
      · have h5 : ¬ d.line.length = 0 := by simpa using h4
        rw [if_neg h5]
        refine Hs.run1 300 (fun _ => by kernel_rfl) fun b1 => ?_
        refine Hs.callS (cf := cu8) (E := 5) (size := 1) (fun A cap => .slice A (d.line ++ b).length cap) (d.line ++ b) _ rfl (fun w' H => by
          have := concatB_any [⟨s.la, s.lc, d.line⟩, ⟨B, cB, b⟩] (some ⟨b1, 0, none⟩) 2 w' (H.rdB (cf := Pc.cs) (wr := true) (T := 27) (cs := [.v (.slice s.la d.line.length s.lc), .v (.slice B b.length cB)]) 1 (by kernel_rfl) rfl) ⟨by simp, by unfold maxLen; omega⟩ (fun p hp => by
            simp only [List.mem_cons, List.not_mem_nil, or_false] at hp
            rcases hp with rfl | rfl
            · exact (C.now H).line.1
            · exact (hb w' H.only).1) (by rw [totP_two]; show (d.line ++ b).length ≤ _; rw [List.length_append]; omega)
          rw [totP_two] at this
          exact this) (by kernel_rfl) (by kernel_rfl) fun A3 c3 h6 h7 => ?_
        refine Hs.freeze 0 2 (hi := .b true 96 (discSC { d with frm := d.frm } s)) (A := A3) (cap := c3) (nl := (d.line ++ b).length) (E := 5) C rfl (by kernel_rfl) rfl rfl rfl (by kernel_rfl) (by decide) (by kernel_rfl) fun w1 L1 C1 => ?_
        refine Hs.run0 300 (fun _ => by kernel_rfl) ?_
        refine Hs.callDD (F := fun _ => True) (s := { s with la := A3, lc := c3 }) (d := { d with line := d.line ++ b, frm := d.frm }) (d' := echoOfD { d with line := d.line ++ b, frm := d.frm } c) (v := .tuple #[]) (C1.imp fun w h => ⟨⟨h.1, h.2.lines, h.2.map, h.2.raw, h.2.out⟩, trivial⟩) rfl (by kernel_rfl) (fun w' H hD => dechoOf_any { d with line := d.line ++ b, frm := d.frm } { s with la := A3, lc := c3 } g c w' hD ⟨by show (d.line ++ b).length ≤ _; rw [List.length_append]; omega, hf.raw, hf.out, hf.used, hf.zero⟩) (by kernel_rfl) (by kernel_rfl) (fun _ => (by kernel_rfl)) fun s2 w2 L2 C2 => ?_
        refine Hs.run0 300 (fun _ => by kernel_rfl) ?_
        exact Hs.ret (v := .tuple #[]) Tryz.func41 (by kernel_rfl) fun w' H => DPost.of (s := s2) (d := echoOfD { d with line := d.line ++ b, frm := d.frm } c) C2 H rfl (by kernel_rfl) fun w h => h.1
  · have e : takeD d c b = takeR d c b := by unfold takeD; rw [if_neg (by rw [hc]; decide)]
    rw [e]
    refine Hs.run0 300 (fun _ => by kernel_rfl) ?_
    refine Hs.condP (IntKind.i64.wrap ((d.raw.length : Int) + (b.length : Int)) > 1024) (by kernel_rfl) (fun h3 => ?_) (fun h3 => ?_)
    all_goals rw [e2] at h3
    · have e : takeR d c b = beepD d := by unfold takeR; rw [if_pos (by omega)]
      rw [e]
      refine Hs.run0 300 (fun _ => by kernel_rfl) ?_
      refine Hs.callDD (F := fun _ => True) (s := s) (d := d) (d' := beepD d) (v := .tuple #[]) (C.imp fun w h => ⟨h, trivial⟩) rfl (by kernel_rfl) (fun w' H hD => dbeep_any d s g w' hD hf) (by kernel_rfl) (by kernel_rfl) (fun _ => (by kernel_rfl)) fun s1 w1 L1 C1 => ?_
      refine Hs.run0 300 (fun _ => by kernel_rfl) ?_
      exact Hs.ret (v := .tuple #[]) Tryz.func41 (by kernel_rfl) fun w' H => DPost.of (s := s1) (d := beepD d) C1 H rfl (by kernel_rfl) fun w h => h.1
    · have e : takeR d c b = echoOfD { d with raw := d.raw ++ b } c := by unfold takeR; rw [if_neg (by omega)]
      rw [e]
      refine Hs.runR0 5 [] 300 (fun _ => by kernel_rfl) ?_
      refine Hs.rung0 [] 5 (fun _ => (by kernel_rfl)) ?_
      refine Hs.binP (p := some ⟨g, 27, none⟩) (q := some ⟨g, 24, none⟩) (op := .eql) (T := 155) (.bool false) (by kernel_rfl) (fun w => by rw [run_eqp (E := 27) (k := 1) (by kernel_rfl) (by kernel_rfl) (by decide), addr_ne g (by decide)]) ?_
      refine Hs.rung0 [5] 300 (fun _ => by kernel_rfl) ?_
      refine Hs.condF (by kernel_rfl) ?_
      refine Hs.run1 300 (fun _ => by kernel_rfl) fun b1 => ?_
      refine Hs.callS (cf := cu8) (E := 5) (size := 1) (fun A cap => .slice A (d.raw ++ b).length cap) (d.raw ++ b) _ rfl (fun w' H => by
        have := concatB_any [⟨s.ra, s.rc, d.raw⟩, ⟨B, cB, b⟩] (some ⟨b1, 0, none⟩) 2 w' (H.rdB (cf := Pc.cs) (wr := true) (T := 27) (cs := [.v (.slice s.ra d.raw.length s.rc), .v (.slice B b.length cB)]) 1 (by kernel_rfl) rfl) ⟨by simp, by unfold maxLen; omega⟩ (fun p hp => by
          simp only [List.mem_cons, List.not_mem_nil, or_false] at hp
          rcases hp with rfl | rfl
          · exact (C.now H).raw.1
          · exact (hb w' H.only).1) (by rw [totP_two]; show (d.raw ++ b).length ≤ _; rw [List.length_append]; omega)
        rw [totP_two] at this
        exact this) (by kernel_rfl) (by kernel_rfl) fun A3 c3 h6 h7 => ?_
      refine Hs.freeze 0 2 (hi := .b true 96 (discSC { d with frm := d.frm } s)) (A := A3) (cap := c3) (nl := (d.raw ++ b).length) (E := 5) C rfl (by kernel_rfl) rfl rfl rfl (by kernel_rfl) (by decide) (by kernel_rfl) fun w1 L1 C1 => ?_
      refine Hs.run0 300 (fun _ => by kernel_rfl) ?_
      refine Hs.callDD (F := fun _ => True) (s := { s with ra := A3, rc := c3 }) (d := { d with raw := d.raw ++ b }) (d' := echoOfD { d with raw := d.raw ++ b } c) (v := .tuple #[]) (C1.imp fun w h => ⟨⟨h.2.line, h.2.lines, h.2.map, h.1, h.2.out⟩, trivial⟩) rfl (by kernel_rfl) (fun w' H hD => dechoOf_any { d with raw := d.raw ++ b } { s with ra := A3, rc := c3 } g c w' hD ⟨hf.line, by show (d.raw ++ b).length ≤ _; rw [List.length_append]; omega, hf.out, hf.used, hf.zero⟩) (by kernel_rfl) (by kernel_rfl) (fun _ => (by kernel_rfl)) fun s2 w2 L2 C2 => ?_
      refine Hs.run0 300 (fun _ => by kernel_rfl) ?_
      exact Hs.ret (v := .tuple #[]) Tryz.func41 (by kernel_rfl) fun w' H => DPost.of (s := s2) (d := echoOfD { d with raw := d.raw ++ b } c) C2 H rfl (by kernel_rfl) fun w h => h.1
end Go.Proofs.YtnfcdbjckdhieaaGreat

namespace Go.Proofs.YtnfcdbjckdhieaaGreat
set_option linter.all false
set_option maxRecDepth 100000
open Go.RowKit

def endD (d : DM) (bt : List Int) (eof : Bool) : DM × Bool := if (putL d.lines (d.line ++ bt, eof)).2 then ({ d with lines := (putL d.lines (d.line ++ bt, eof)).1, line := [] }, true) else (beepD d, false)
theorem putL_few {ls : List (List Int × Bool)} {x : List Int × Bool} (h1 : usedM ls ≤ 30000) (hx : 1 ≤ sizeM x) : usedM (putL ls x).1 ≤ 30000 ∧ zeroN (putL ls x).1 = zeroN ls := by
  unfold putL
  split
  · exact ⟨h1, rfl⟩
  · have e : usedM (ls ++ [x]) = usedM ls + sizeM x := by rw [usedM_app]; simp [usedM]
    have e2 : zeroN [x] = 0 := by
      unfold zeroN
      have : ¬ sizeM x = 0 := by omega
      simp [this]
    exact ⟨by show usedM (ls ++ [x]) ≤ _; omega, by show zeroN (ls ++ [x]) = _; rw [zeroN_app, e2]; rfl⟩
theorem endD_few {d : DM} {bt : List Int} {eof : Bool} (hf : Few d) (hx : 1 ≤ bt.length + eofN eof) : Few (endD d bt eof).1 := by
  have hx2 : 1 ≤ sizeM (d.line ++ bt, eof) := by
    show 1 ≤ (d.line ++ bt).length + eofN eof
    rw [List.length_append]; omega
  have h1 := putL_few hf.used hx2
  unfold endD
  split
  · exact ⟨by show ([] : List Int).length ≤ _; simp, hf.raw, hf.out, h1.1, by rw [show zeroN _ = zeroN d.lines from h1.2]; exact hf.zero⟩
  · exact beepD_few hf
theorem dend_any (d : DM) (s : DS) (g : Nat) (B : Option Addr) (cB : Nat) (bt : List Int) (eof : Bool) (w : World) (h : DAt w g d s) (hf : Few d) (hb : Keeps w [g] (fun w => RdU w B cB bt)) (hbl : bt.length ≤ 1000) : Calls Tryz.prog 130 #[.pointer (some ⟨g, 0, none⟩), .agg #[.slice B bt.length cB, .bool eof]] w (DPost w g s d (endD d bt eof).1 (.bool (endD d bt eof).2)) := by
  have C := Cx.start h.data (Blk.lt h.blk)
  have h1 := hf.line
  have hmap := h.data.at.map
  have hll := h.data.at.llen
  refine Hs.enter Tryz.func130 [g] [g] [.b true 96 (discSC d s)] [.c (.p 0 0), .g [.v (.slice B bt.length cB), .v (.bool eof)]] (Mem.one w g h.blk) (by kernel_rfl) (by kernel_rfl) ?_
  refine Hs.run1 300 (fun _ => by kernel_rfl) fun b1 => ?_
  refine Hs.any [0, 1, 1009] (by kernel_rfl) ?_
  refine Hs.run1 300 (fun _ => by kernel_rfl) fun b2 => ?_
  refine Hs.callS (cf := cu8) (E := 5) (size := 1) (fun A cap => .slice A (d.line ++ bt).length cap) (d.line ++ bt) _ rfl (fun w' H => by
    have := concatB_any [⟨s.la, s.lc, d.line⟩, ⟨B, cB, bt⟩] (some ⟨b2, 0, none⟩) 2 w' (H.rdB (cf := Pc.cs) (wr := true) (T := 27) (cs := [.v (.slice s.la d.line.length s.lc), .v (.slice B bt.length cB)]) 2 (by kernel_rfl) rfl) ⟨by simp, by unfold maxLen; omega⟩ (fun p hp => by
      simp only [List.mem_cons, List.not_mem_nil, or_false] at hp
      rcases hp with rfl | rfl
      · exact (C.now H).line.1
      · exact (hb w' H.only).1) (by rw [totP_two]; show (d.line ++ bt).length ≤ _; rw [List.length_append]; omega)
    rw [totP_two] at this
    exact this) (by kernel_rfl) (by kernel_rfl) fun A3 c3 h6 h7 => ?_
  refine Hs.run0 300 (fun _ => by kernel_rfl) ?_
  refine Hs.any [0, 1, 1005] (by kernel_rfl) ?_
  refine Hs.run0 300 (fun _ => by kernel_rfl) ?_
  generalize hx : (⟨A3, c3, d.line ++ bt, eof⟩ : Ln) = x
  have hxm : x.m = (d.line ++ bt, eof) := by rw [← hx]; rfl
  refine Hs.callN (g := g) (putV (putL d.lines (d.line ++ bt, eof)).1.length (putL d.lines (d.line ++ bt, eof)).2) (fun (z : LX) w => RdL w z.1 z.2.1 z.2.2 ∧ z.2.2.map Ln.m = (putL d.lines (d.line ++ bt, eof)).1) 0 C rfl (by kernel_rfl : _ = some (HB.b true 96 (discSC d s))) (fun w' H => by
    have hd := C.now H
    have := put_new s.sa s.sc s.xs x w' hd.lines (by rw [← hx]; exact ⟨H.rdX (cf := cu8) (A := A3) (cap := c3) (E := 5) (size := 1) 3 rfl (by kernel_rfl), h6, h7⟩) (by rw [hmap]; have := hf.used; omega) (by rw [hll]; have := hf.lines; omega) (by rw [← hx]; show (d.line ++ bt).length ≤ _; rw [List.length_append]; omega)
    rw [hmap, hll, hxm] at this
    rw [← hx] at this
    exact this) (by kernel_rfl) (by kernel_rfl) fun z w1 L1 C1 => ?_
  refine Hs.run0 300 (fun _ => by kernel_rfl) ?_
  refine Hs.cond (!(putL d.lines (d.line ++ bt, eof)).2) (by kernel_rfl) (fun h4 => ?_) (fun h4 => ?_)
  · have h5 : (putL d.lines (d.line ++ bt, eof)).2 = false := by simpa using h4
    have e : endD d bt eof = (beepD d, false) := by unfold endD; rw [h5]; rfl
    rw [e]
    refine Hs.run0 300 (fun _ => by kernel_rfl) ?_
    refine Hs.callDD (F := fun _ => True) (s := s) (d := d) (d' := beepD d) (v := .tuple #[]) (C1.imp fun w h => ⟨h.2, trivial⟩) rfl (by kernel_rfl) (fun w' H hD => dbeep_any d s g w' hD hf) (by kernel_rfl) (by kernel_rfl) (fun _ => (by kernel_rfl)) fun s1 w2 L2 C2 => ?_
    refine Hs.run0 300 (fun _ => by kernel_rfl) ?_
    exact Hs.ret (v := .bool false) Tryz.func130 (by kernel_rfl) fun w' H => DPost.of (s := s1) (d := beepD d) C2 H rfl (by kernel_rfl) fun w h => h.1
  · have h5 : (putL d.lines (d.line ++ bt, eof)).2 = true := by simpa using h4
    have e : endD d bt eof = ({ d with lines := (putL d.lines (d.line ++ bt, eof)).1, line := [] }, true) := by unfold endD; rw [h5]; rfl
    rw [e]
    refine Hs.run0 300 (fun _ => by kernel_rfl) ?_
    exact Hs.ret (v := .bool true) Tryz.func130 (by kernel_rfl) fun w' H => DPost.of (s := { s with sa := z.1, sc := z.2.1, xs := z.2.2, la := none, lc := 0 }) (d := { d with lines := (putL d.lines (d.line ++ bt, eof)).1, line := [] }) C1 H rfl (by kernel_rfl) fun w h => ⟨rdU_nil w, h.1.1, h.1.2, h.2.raw, h.2.out⟩
def marksD (d : DM) : DM := (putD { d with held := markH d.t d.held (usedD d) 256 768 } (markO d.t d.held (usedD d) 256 768)).1
theorem markO_le (t : TM) (held : Bool) (u l h : Int) : (markO t held u l h).length ≤ 1 := by
  unfold markO tellC
  split
  · split <;> simp
  · split
    · split
      · split <;> simp
      · simp
    · simp
theorem marksD_few {d : DM} (hf : Few d) : Few (marksD d) := putD_few ⟨hf.line, hf.raw, hf.out, hf.used, hf.zero⟩
theorem dmarks_hs (d : DM) (s : DS) (g : Nat) (w : World) (h : DAt w g d s) (hf : Few d) : Hs Tryz.prog 39 (DPost w g s d (marksD d) (.tuple #[])) (Tryz.f39).ntmps w [g] [g] (startM Tryz.f39 [.c (.p 0 0)] [.b true 96 (discSC d s)]) := by
  have C := Cx.start h.data (Blk.lt h.blk)
  have hm := markO_le d.t d.held (usedD d) 256 768
  unfold marksD
  generalize ho : markO d.t d.held (usedD d) 256 768 = o at hm
  generalize hh : markH d.t d.held (usedD d) 256 768 = hd
  have K : ∀ (A1 : Option Addr) (c1 : Nat), o.length ≤ c1 → c1 ≤ maxLen → ∀ (b1 : Nat) (u : Nat → Value), Hs Tryz.prog 39 (DPost w g s d (putD { d with held := hd } o).1 (.tuple #[])) (Tryz.f39).ntmps w [g] [g, b1, 0] ⟨.no, atR Tryz.f39 1, pins [(0, .c (.p 0 0)), (2, .c (.p 1 0)), (3, .c (.v (.slice A1 o.length c1)))] (.vals u), [.b true 96 (discSC d s), .b true 94 [.v (.bool d.st), .v (.bool hd)], .s A1 c1 o.length 5 1 (o.flatMap cu8)]⟩ := by
    intro A1 c1 h1 h2 b1 u
    refine Hs.run0 300 (fun _ => by kernel_rfl) ?_
    refine Hs.callDD (F := fun _ => True) (s := s) (d := { d with held := hd }) (d' := (putD { d with held := hd } o).1) (v := .bool (putD { d with held := hd } o).2) (C.imp fun w h => ⟨⟨h.line, h.lines, h.map, h.raw, h.out⟩, trivial⟩) rfl (by kernel_rfl) (fun w' H hD => dput_any { d with held := hd } s g A1 c1 o w' hD ⟨hf.line, hf.raw, hf.out, hf.used, hf.zero⟩ (H.keepS (A := A1) (cap := c1) (E := 5) (size := 1) 0 2 rfl (by kernel_rfl : _ = some (HB.b true 96 (discSC { d with held := hd } s))) (by kernel_rfl) (by decide) rfl) (by omega)) (by kernel_rfl) (by kernel_rfl) (fun _ => (by kernel_rfl)) fun s1 w1 L1 C1 => ?_
    refine Hs.run0 300 (fun _ => by kernel_rfl) ?_
    exact Hs.ret (v := .tuple #[]) Tryz.func39 (by kernel_rfl) fun w' H => DPost.of (s := s1) (d := (putD { d with held := hd } o).1) C1 H rfl (by kernel_rfl) fun w h => h.1
  refine Hs.run0 300 (fun _ => by kernel_rfl) ?_
  refine Hs.any [0] (by kernel_rfl) ?_
  refine Hs.run0 300 (fun _ => by kernel_rfl) ?_
  refine Hs.branch2 9 14 (by kernel_rfl) ?_ ?_
  · refine Hs.callV (fun w' H => dused_any d s g w' ⟨H.at (wr := true) (T := 96) (cs := discSC d s) 0 (by kernel_rfl), C.keepsAt H⟩ hf) (by kernel_rfl) ?_
    refine Hs.run0 300 (fun _ => by kernel_rfl) ?_
    refine Hs.branch2 10 14 (by kernel_rfl) ?_ ?_
    · refine Hs.callS (cf := cu8) (E := 5) (size := 1) (fun A cap => .tuple #[.agg #[.bool d.st, .bool hd], .slice A o.length cap]) o _ rfl (fun w' H => by
        have := mark_any d.t d.st d.held (usedD d) 256 768 w'
        rw [ho, hh] at this
        exact this) (by kernel_rfl) (by kernel_rfl) fun A1 c1 h1 h2 => ?_
      refine Hs.runR1 1 [] 300 (fun _ => by kernel_rfl) fun b1 => ?_
      exact Hs.goto (atR Tryz.f39 1) [0, 2, 1] [.b true 96 (discSC d s), .b true 94 [.v (.bool d.st), .v (.bool hd)], .s A1 c1 o.length 5 1 (o.flatMap cu8)] [(0, .c (.p 0 0)), (2, .c (.p 1 0)), (3, .c (.v (.slice A1 o.length c1)))] (by kernel_rfl) (by decide) (by kernel_rfl) (by kernel_rfl) (fun _ => (by kernel_rfl)) (fun u => K A1 c1 h1 h2 b1 u)
    · refine Hs.run1 300 (fun _ => by kernel_rfl) fun b1 => ?_
      refine Hs.callS (cf := cu8) (E := 5) (size := 1) (fun A cap => .tuple #[.agg #[.bool d.st, .bool hd], .slice A o.length cap]) o _ rfl (fun w' H => by
        have := mark_any d.t d.st d.held (usedD d) 256 768 w'
        rw [ho, hh] at this
        exact this) (by kernel_rfl) (by kernel_rfl) fun A1 c1 h1 h2 => ?_
      refine Hs.runR0 1 [] 300 (fun _ => by kernel_rfl) ?_
      exact Hs.goto (atR Tryz.f39 1) [0, 1, 2] [.b true 96 (discSC d s), .b true 94 [.v (.bool d.st), .v (.bool hd)], .s A1 c1 o.length 5 1 (o.flatMap cu8)] [(0, .c (.p 0 0)), (2, .c (.p 1 0)), (3, .c (.v (.slice A1 o.length c1)))] (by kernel_rfl) (by decide) (by kernel_rfl) (by kernel_rfl) (fun _ => (by kernel_rfl)) (fun u => K A1 c1 h1 h2 b1 u)
  · refine Hs.run1 300 (fun _ => by kernel_rfl) fun b1 => ?_
    refine Hs.callV (fun w' H => dused_any d s g w' ⟨H.at (wr := true) (T := 96) (cs := discSC d s) 0 (by kernel_rfl), C.keepsAt H⟩ hf) (by kernel_rfl) ?_
    refine Hs.run0 300 (fun _ => by kernel_rfl) ?_
    refine Hs.callS (cf := cu8) (E := 5) (size := 1) (fun A cap => .tuple #[.agg #[.bool d.st, .bool hd], .slice A o.length cap]) o _ rfl (fun w' H => by
      have := mark_any d.t d.st d.held (usedD d) 256 768 w'
      rw [ho, hh] at this
      exact this) (by kernel_rfl) (by kernel_rfl) fun A1 c1 h1 h2 => ?_
    refine Hs.runR0 1 [] 300 (fun _ => by kernel_rfl) ?_
    exact Hs.goto (atR Tryz.f39 1) [0, 1, 2] [.b true 96 (discSC d s), .b true 94 [.v (.bool d.st), .v (.bool hd)], .s A1 c1 o.length 5 1 (o.flatMap cu8)] [(0, .c (.p 0 0)), (2, .c (.p 1 0)), (3, .c (.v (.slice A1 o.length c1)))] (by kernel_rfl) (by decide) (by kernel_rfl) (by kernel_rfl) (fun _ => (by kernel_rfl)) (fun u => K A1 c1 h1 h2 b1 u)
theorem dmarks_any (d : DM) (s : DS) (g : Nat) (w : World) (h : DAt w g d s) (hf : Few d) : Calls Tryz.prog 39 #[.pointer (some ⟨g, 0, none⟩)] w (DPost w g s d (marksD d) (.tuple #[])) :=
  Hs.enter Tryz.func39 [g] [g] [.b true 96 (discSC d s)] [.c (.p 0 0)] (Mem.one w g h.blk) (by kernel_rfl) (by kernel_rfl) (dmarks_hs d s g w h hf)
theorem dmarks_def (d : DM) (s : DS) (g : Nat) (u : FrameMode) (w : World) (h : DAt w g d s) (hf : Few d) : CallsD Tryz.prog 39 #[.pointer (some ⟨g, 0, none⟩)] u w fun e u' w' => u' = u ∧ DPost w g s d (marksD d) (.tuple #[]) e w' :=
  Hs.enterD Tryz.func39 [g] [g] [.b true 96 (discSC d s)] [.c (.p 0 0)] (Mem.one w g h.blk) (by kernel_rfl) (by kernel_rfl) (dmarks_hs d s g w h hf)
end Go.Proofs.YtnfcdbjckdhieaaGreat

namespace Go.Proofs.YtnfcdbjckdhieaaGreat
set_option linter.all false
set_option maxRecDepth 100000
open Go.RowKit

def plainD (d : DM) (c : Int) : DM := takeD d c (mkC d.t c)
theorem plainD_few {d : DM} {c : Int} (hf : Few d) : Few (plainD d c) := takeD_few hf
theorem dplain_any (d : DM) (s : DS) (g : Nat) (c : Int) (w : World) (h : DAt w g d s) (hf : Few d) : Calls Tryz.prog 46 #[.pointer (some ⟨g, 0, none⟩), .int .u8 c] w (DPost w g s d (plainD d c) (.tuple #[])) := by
  have C := Cx.start h.data (Blk.lt h.blk)
  have hs := mk_le d.t c
  unfold plainD
  refine Hs.enter Tryz.func46 [g] [g] [.b true 96 (discSC d s)] [.c (.p 0 0), .c (.v (.int .u8 c))] (Mem.one w g h.blk) (by kernel_rfl) (by kernel_rfl) ?_
  refine Hs.run0 300 (fun _ => by kernel_rfl) ?_
  refine Hs.callS (cf := cu8) (E := 5) (size := 1) (fun A cap => .slice A (mkC d.t c).length cap) (mkC d.t c) _ rfl (fun w' H => miMark_any d.t c w') (by kernel_rfl) (by kernel_rfl) fun A1 c1 h1 h2 => ?_
  refine Hs.run0 300 (fun _ => by kernel_rfl) ?_
  refine Hs.callDD (F := fun w => True) (s := s) (d := d) (d' := takeD d c (mkC d.t c)) (v := .tuple #[]) (C.imp fun w h => ⟨h, trivial⟩) rfl (by kernel_rfl) (fun w' H hD => dtake_any d s g c A1 c1 (mkC d.t c) w' hD hf (H.keepU (A := A1) (cap := c1) (E := 5) 0 1 rfl (by kernel_rfl : _ = some (HB.b true 96 (discSC d s))) (by kernel_rfl) (by decide) rfl) (by omega)) (by kernel_rfl) (by kernel_rfl) (fun _ => (by kernel_rfl)) fun s1 w1 L1 C1 => ?_
  refine Hs.run0 300 (fun _ => by kernel_rfl) ?_
  exact Hs.ret (v := .tuple #[]) Tryz.func46 (by kernel_rfl) fun w' H => DPost.of (s := s1) (d := takeD d c (mkC d.t c)) C1 H rfl (by kernel_rfl) fun w h => h.1
def eofD (d : DM) : DM := (endD d [] true).1
theorem eofD_few {d : DM} (hf : Few d) : Few (eofD d) := endD_few hf (by decide)
theorem deof_any (d : DM) (s : DS) (g : Nat) (c : Int) (w : World) (h : DAt w g d s) (hf : Few d) : Calls Tryz.prog 129 #[.pointer (some ⟨g, 0, none⟩), .int .u8 c] w (DPost w g s d (eofD d) (.tuple #[])) := by
  have C := Cx.start h.data (Blk.lt h.blk)
  unfold eofD
  refine Hs.enter Tryz.func129 [g] [g] [.b true 96 (discSC d s)] [.c (.p 0 0), .c (.v (.int .u8 c))] (Mem.one w g h.blk) (by kernel_rfl) (by kernel_rfl) ?_
  refine Hs.run0 300 (fun _ => by kernel_rfl) ?_
  refine Hs.callDD (F := fun w => True) (s := s) (d := d) (d' := (endD d [] true).1) (v := .bool (endD d [] true).2) (C.imp fun w h => ⟨h, trivial⟩) rfl (by kernel_rfl) (fun w' H hD => dend_any d s g none 0 [] true w' hD hf (fun w _ => rdU_nil w) (by decide)) (by kernel_rfl) (by kernel_rfl) (fun _ => (by kernel_rfl)) fun s1 w1 L1 C1 => ?_
  refine Hs.run0 300 (fun _ => by kernel_rfl) ?_
  exact Hs.ret (v := .tuple #[]) Tryz.func129 (by kernel_rfl) fun w' H => DPost.of (s := s1) (d := (endD d [] true).1) C1 H rfl (by kernel_rfl) fun w h => h.1
theorem endD_t (d : DM) (bt : List Int) (eof : Bool) : (endD d bt eof).1.t = d.t := by
  unfold endD
  split
  · rfl
  · show (beepD d).t = _
    unfold beepD putD
    split
    · split <;> rfl
    · rfl
def endOfD (d : DM) (c : Int) : DM := if (endD d [c] false).2 then echoOfD (endD d [c] false).1 c else (endD d [c] false).1
theorem endOfD_few {d : DM} {c : Int} (hf : Few d) : Few (endOfD d c) := by
  have := endD_few (d := d) (bt := [c]) (eof := false) hf (by simp)
  unfold endOfD
  split
  · exact echoOfD_few this
  · exact this
theorem dendOf_any (d : DM) (s : DS) (g : Nat) (c : Int) (w : World) (h : DAt w g d s) (hf : Few d) : Calls Tryz.prog 96 #[.pointer (some ⟨g, 0, none⟩), .int .u8 c] w (DPost w g s d (endOfD d c) (.tuple #[])) := by
  have C := Cx.start h.data (Blk.lt h.blk)
  obtain ⟨d1, hd1⟩ : ∃ d1, d1 = (endD d [c] false).1 := ⟨_, rfl⟩
  obtain ⟨ok, hok⟩ : ∃ ok, ok = (endD d [c] false).2 := ⟨_, rfl⟩
  have hf1 : Few d1 := hd1 ▸ endD_few hf (by simp)
  have ht1 : d1.t = d.t := hd1 ▸ endD_t d [c] false
  rw [endOfD, ← hd1, ← hok]
  refine Hs.enter Tryz.func96 [g] [g] [.b true 96 (discSC d s)] [.c (.p 0 0), .c (.v (.int .u8 c))] (Mem.one w g h.blk) (by kernel_rfl) (by kernel_rfl) ?_
  refine Hs.run1 300 (fun _ => by kernel_rfl) fun b1 => ?_
  refine Hs.callDD (F := fun w => True) (s := s) (d := d) (d' := d1) (v := .bool ok) (C.imp fun w h => ⟨h, trivial⟩) rfl (by kernel_rfl) (fun w' H hD => by rw [hd1, hok]; exact dend_any d s g (some ⟨b1, 0, none⟩) 1 [c] false w' hD hf (H.keepLit (wr := true) (T := 5) (l := [c]) 0 1 1 rfl (by decide) (by kernel_rfl : _ = some (HB.b true 96 (discSC d s))) (by kernel_rfl) (by decide) rfl) (by simp)) (by kernel_rfl) (by kernel_rfl) (fun _ => (by kernel_rfl)) fun s1 w1 L1 C1 => ?_
  refine Hs.run0 300 (fun _ => by kernel_rfl) ?_
  refine Hs.cond ok (by kernel_rfl) (fun hc => ?_) (fun hc => ?_)
  · rw [if_pos hc]
    refine Hs.run0 300 (fun _ => by kernel_rfl) ?_
    refine Hs.callDD (F := fun w => True) (s := s1) (d := d1) (d' := echoOfD d1 c) (v := .tuple #[]) (C1.imp fun w h => ⟨h.1, trivial⟩) rfl (by kernel_rfl) (fun w' H hD => dechoOf_any d1 s1 g c w' hD hf1) (by kernel_rfl) (by kernel_rfl) (fun _ => (by kernel_rfl)) fun s2 w2 L2 C2 => ?_
    refine Hs.run0 300 (fun _ => by kernel_rfl) ?_
    exact Hs.ret (v := .tuple #[]) Tryz.func96 (by kernel_rfl) fun w' H => DPost.of (s := s2) (d := echoOfD d1 c) C2 H rfl (by kernel_rfl) fun w h => h.1
  · rw [if_neg (by rw [hc]; decide)]
    refine Hs.run0 300 (fun _ => by kernel_rfl) ?_
    exact Hs.ret (v := .tuple #[]) Tryz.func96 (by kernel_rfl) fun w' H => DPost.of (s := s1) (d := d1) C1 H rfl (by kernel_rfl) fun w h => h.1
def newlineD (d : DM) (c : Int) : DM := if (endD d [c] false).2 && (d.t.has 53 || d.t.has 56) then showD (endD d [c] false).1 [c] else (endD d [c] false).1
theorem newlineD_few {d : DM} {c : Int} (hf : Few d) : Few (newlineD d c) := by
  have := endD_few (d := d) (bt := [c]) (eof := false) hf (by simp)
  unfold newlineD
  split
  · exact showD_few this
  · exact this
theorem dnewline_any (d : DM) (s : DS) (g : Nat) (c : Int) (w : World) (h : DAt w g d s) (hf : Few d) : Calls Tryz.prog 94 #[.pointer (some ⟨g, 0, none⟩), .int .u8 c] w (DPost w g s d (newlineD d c) (.tuple #[])) := by
  have C := Cx.start h.data (Blk.lt h.blk)
  obtain ⟨d1, hd1⟩ : ∃ d1, d1 = (endD d [c] false).1 := ⟨_, rfl⟩
  obtain ⟨ok, hok⟩ : ∃ ok, ok = (endD d [c] false).2 := ⟨_, rfl⟩
  have hf1 : Few d1 := hd1 ▸ endD_few hf (by simp)
  have ht1 : d1.t = d.t := hd1 ▸ endD_t d [c] false
  rw [newlineD, ← hd1, ← hok]
  refine Hs.enter Tryz.func94 [g] [g] [.b true 96 (discSC d s)] [.c (.p 0 0), .c (.v (.int .u8 c))] (Mem.one w g h.blk) (by kernel_rfl) (by kernel_rfl) ?_
  refine Hs.run1 300 (fun _ => by kernel_rfl) fun b1 => ?_
  refine Hs.callDD (F := fun w => True) (s := s) (d := d) (d' := d1) (v := .bool ok) (C.imp fun w h => ⟨h, trivial⟩) rfl (by kernel_rfl) (fun w' H hD => by rw [hd1, hok]; exact dend_any d s g (some ⟨b1, 0, none⟩) 1 [c] false w' hD hf (H.keepLit (wr := true) (T := 5) (l := [c]) 0 1 1 rfl (by decide) (by kernel_rfl : _ = some (HB.b true 96 (discSC d s))) (by kernel_rfl) (by decide) rfl) (by simp)) (by kernel_rfl) (by kernel_rfl) (fun _ => (by kernel_rfl)) fun s1 w1 L1 C1 => ?_
  refine Hs.run0 300 (fun _ => by kernel_rfl) ?_
  refine Hs.bool 9 ok (by kernel_rfl) (fun hc => ?_) (fun hc => ?_)
  · refine Hs.rung0 [5] 300 (fun _ => by kernel_rfl) ?_
    refine Hs.callV (v := .bool (d.t.has 53)) (fun w' H => by have := dhas_any 53 d1 s1 g w' (H.at (wr := true) (T := 96) (cs := discSC d1 s1) 0 (by kernel_rfl)); rw [ht1] at this; exact this) (by kernel_rfl) ?_
    refine Hs.rung0 [5] 300 (fun _ => by kernel_rfl) ?_
    refine Hs.bool 12 (d.t.has 53) (by kernel_rfl) (fun h2 => ?_) (fun h2 => ?_)
    · rw [if_pos (by rw [hc, h2]; rfl)]
      refine Hs.rung0 [5, 8] 300 (fun _ => by kernel_rfl) ?_
      refine Hs.condT (by kernel_rfl) ?_
      refine Hs.run1 300 (fun _ => by kernel_rfl) fun b2 => ?_
      refine Hs.callDD (F := fun w => True) (s := s1) (d := d1) (d' := showD d1 [c]) (v := .tuple #[]) (C1.imp fun w h => ⟨h.1, trivial⟩) rfl (by kernel_rfl) (fun w' H hD => dshow_any d1 s1 g (some ⟨b2, 0, none⟩) 1 [c] w' hD hf1 (H.keepLit (wr := true) (T := 5) (l := [c]) 0 2 1 rfl (by decide) (by kernel_rfl : _ = some (HB.b true 96 (discSC d1 s1))) (by kernel_rfl) (by decide) rfl) (by simp)) (by kernel_rfl) (by kernel_rfl) (fun _ => (by kernel_rfl)) fun s2 w2 L2 C2 => ?_
      refine Hs.run0 300 (fun _ => by kernel_rfl) ?_
      exact Hs.ret (v := .tuple #[]) Tryz.func94 (by kernel_rfl) fun w' H => DPost.of (s := s2) (d := showD d1 [c]) C2 H rfl (by kernel_rfl) fun w h => h.1
    · refine Hs.rung0 [5, 8] 300 (fun _ => by kernel_rfl) ?_
      refine Hs.callV (v := .bool (d.t.has 56)) (fun w' H => by have := dhas_any 56 d1 s1 g w' (H.at (wr := true) (T := 96) (cs := discSC d1 s1) 0 (by kernel_rfl)); rw [ht1] at this; exact this) (by kernel_rfl) ?_
      refine Hs.rung0 [5, 8] 300 (fun _ => by kernel_rfl) ?_
      refine Hs.cond (d.t.has 56) (by kernel_rfl) (fun h3 => ?_) (fun h3 => ?_)
      · rw [if_pos (by rw [hc, h2, h3]; rfl)]
        refine Hs.run1 300 (fun _ => by kernel_rfl) fun b2 => ?_
        refine Hs.callDD (F := fun w => True) (s := s1) (d := d1) (d' := showD d1 [c]) (v := .tuple #[]) (C1.imp fun w h => ⟨h.1, trivial⟩) rfl (by kernel_rfl) (fun w' H hD => dshow_any d1 s1 g (some ⟨b2, 0, none⟩) 1 [c] w' hD hf1 (H.keepLit (wr := true) (T := 5) (l := [c]) 0 2 1 rfl (by decide) (by kernel_rfl : _ = some (HB.b true 96 (discSC d1 s1))) (by kernel_rfl) (by decide) rfl) (by simp)) (by kernel_rfl) (by kernel_rfl) (fun _ => (by kernel_rfl)) fun s2 w2 L2 C2 => ?_
        refine Hs.run0 300 (fun _ => by kernel_rfl) ?_
        exact Hs.ret (v := .tuple #[]) Tryz.func94 (by kernel_rfl) fun w' H => DPost.of (s := s2) (d := showD d1 [c]) C2 H rfl (by kernel_rfl) fun w h => h.1
      · rw [if_neg (by rw [hc, h2, h3]; decide)]
        refine Hs.run0 300 (fun _ => by kernel_rfl) ?_
        exact Hs.ret (v := .tuple #[]) Tryz.func94 (by kernel_rfl) fun w' H => DPost.of (s := s1) (d := d1) C1 H rfl (by kernel_rfl) fun w h => h.1
  · rw [if_neg (by rw [hc]; simp)]
    refine Hs.rung0 [5, 8] 300 (fun _ => by kernel_rfl) ?_
    refine Hs.condF (by kernel_rfl) ?_
    refine Hs.run0 300 (fun _ => by kernel_rfl) ?_
    exact Hs.ret (v := .tuple #[]) Tryz.func94 (by kernel_rfl) fun w' H => DPost.of (s := s1) (d := d1) C1 H rfl (by kernel_rfl) fun w h => h.1
def literalD (d : DM) : DM := if d.t.has 60 then echoD { d with next := true } [94, 8] else { d with next := true }
theorem literalD_few {d : DM} (hf : Few d) : Few (literalD d) := by
  have : Few { d with next := true } := ⟨hf.line, hf.raw, hf.out, hf.used, hf.zero⟩
  unfold literalD
  split
  · exact echoD_few this
  · exact this
theorem dliteral_any (d : DM) (s : DS) (g : Nat) (c : Int) (w : World) (h : DAt w g d s) (hf : Few d) : Calls Tryz.prog 124 #[.pointer (some ⟨g, 0, none⟩), .int .u8 c] w (DPost w g s d (literalD d) (.tuple #[])) := by
  have C := Cx.start h.data (Blk.lt h.blk)
  unfold literalD
  refine Hs.enter Tryz.func124 [g] [g] [.b true 96 (discSC d s)] [.c (.p 0 0), .c (.v (.int .u8 c))] (Mem.one w g h.blk) (by kernel_rfl) (by kernel_rfl) ?_
  refine Hs.run0 300 (fun _ => by kernel_rfl) ?_
  refine Hs.callV (fun w' H => dhas_any 60 { d with next := true } s g w' (H.at (wr := true) (T := 96) (cs := discSC { d with next := true } s) 0 (by kernel_rfl))) (by kernel_rfl) ?_
  refine Hs.run0 300 (fun _ => by kernel_rfl) ?_
  refine Hs.cond (d.t.has 60) (by kernel_rfl) (fun hc => ?_) (fun hc => ?_)
  · rw [if_pos hc]
    refine Hs.run1 300 (fun _ => by kernel_rfl) fun b1 => ?_
    refine Hs.callDD (F := fun w => True) (s := s) (d := { d with next := true }) (d' := echoD { d with next := true } [94, 8]) (v := .tuple #[]) (C.imp fun w h => ⟨⟨h.line, h.lines, h.map, h.raw, h.out⟩, trivial⟩) rfl (by kernel_rfl) (fun w' H hD => decho_any { d with next := true } s g (some ⟨b1, 0, none⟩) 2 [94, 8] w' hD ⟨hf.line, hf.raw, hf.out, hf.used, hf.zero⟩ (H.keepLit (wr := true) (T := 5) (l := [94, 8]) 0 1 2 rfl (by decide) (by kernel_rfl : _ = some (HB.b true 96 (discSC { d with next := true } s))) (by kernel_rfl) (by decide) rfl) (by decide)) (by kernel_rfl) (by kernel_rfl) (fun _ => (by kernel_rfl)) fun s1 w1 L1 C1 => ?_
    refine Hs.run0 300 (fun _ => by kernel_rfl) ?_
    exact Hs.ret (v := .tuple #[]) Tryz.func124 (by kernel_rfl) fun w' H => DPost.of (s := s1) (d := echoD { d with next := true } [94, 8]) C1 H rfl (by kernel_rfl) fun w h => h.1
  · rw [if_neg (by rw [hc]; decide)]
    refine Hs.run0 300 (fun _ => by kernel_rfl) ?_
    exact Hs.ret (v := .tuple #[]) Tryz.func124 (by kernel_rfl) fun w' H => DPost.of (s := s) (d := { d with next := true }) C H rfl (by kernel_rfl) fun w h => ⟨h.line, h.lines, h.map, h.raw, h.out⟩
end Go.Proofs.YtnfcdbjckdhieaaGreat

namespace Go.Proofs.YtnfcdbjckdhieaaGreat
set_option linter.all false
set_option maxRecDepth 100000
open Go.RowKit

def cutD (d : DM) (c : Int) (k : Nat) : DM := if (d.line.drop k).length = 0 then d else if d.t.has 54 then echoD { d with line := d.line.take k } (rubC d.t d.frm (d.line.take k) (d.line.drop k)) else echoOfD { d with line := d.line.take k } c
theorem cutD_few {d : DM} {c : Int} {k : Nat} (hf : Few d) : Few (cutD d c k) := by
  have hf1 : Few { d with line := d.line.take k } := ⟨by show (d.line.take k).length ≤ _; rw [List.length_take]; have := hf.line; omega, hf.raw, hf.out, hf.used, hf.zero⟩
  unfold cutD
  split
  · exact hf
  · split
    · exact echoD_few hf1
    · exact echoOfD_few hf1
theorem dcut_erase (d : DM) (s : DS) (g : Nat) (c : Int) (w : World) (h : DAt w g d s) (hf : Few d) : Calls Tryz.prog 161 #[.pointer (some ⟨g, 0, none⟩), .int .u8 c, .func (.func 162) #[] #[]] w (DPost w g s d (cutD d c (startC d.t d.line)) (.tuple #[])) := by
  have C := Cx.start h.data (Blk.lt h.blk)
  have h1 := hf.line
  have hk : startC d.t d.line ≤ d.line.length := startC_le d.t d.line
  unfold cutD
  generalize hq : startC d.t d.line = k at hk
  have hf1 : Few { d with line := d.line.take k } := ⟨by show (d.line.take k).length ≤ _; rw [List.length_take]; omega, hf.raw, hf.out, hf.used, hf.zero⟩
  have hrl := rub_le d.t d.frm (d.line.take k) (d.line.drop k)
  refine Hs.enter Tryz.func161 [g] [g] [.b true 96 (discSC d s)] [.c (.p 0 0), .c (.v (.int .u8 c)), .c (.v (.func (.func 162) #[] #[]))] (Mem.one w g h.blk) (by kernel_rfl) (by kernel_rfl) ?_
  refine Hs.run0 300 (fun _ => by kernel_rfl) ?_
  refine Hs.any [0, 1009] (by kernel_rfl) ?_
  refine Hs.run0 300 (fun _ => by kernel_rfl) ?_
  refine Hs.callN (g := g) (two (d.line.take k) (d.line.drop k)) (Two (d.line.take k) (d.line.drop k)) 0 C rfl (by kernel_rfl : _ = some (HB.b true 96 (discSC d s))) (fun w' H => by
    have hd := C.now H
    have := erase_any d.t s.la s.lc d.line w' hd.line.1 (by omega) hd.line.2.1
    rw [hq] at this
    exact this) (by kernel_rfl) (by kernel_rfl) fun x w1 L1 C1 => ?_
  refine Hs.run0 300 (fun _ => by kernel_rfl) ?_
  refine Hs.cond (((d.line.drop k).length : Int) == 0) (by kernel_rfl) (fun h2 => ?_) (fun h2 => ?_)
  · have h3 : (d.line.drop k).length = 0 := by simpa using h2
    rw [if_pos h3]
    refine Hs.run0 300 (fun _ => by kernel_rfl) ?_
    exact Hs.ret (v := .tuple #[]) Tryz.func161 (by kernel_rfl) fun w' H => DPost.of (s := s) (d := d) C1 H rfl (by kernel_rfl) fun w h => h.2
  have h3 : ¬ (d.line.drop k).length = 0 := by simpa using h2
  rw [if_neg h3]
  refine Hs.run0 300 (fun _ => by kernel_rfl) ?_
  refine Hs.callV (fun w' H => dhas_any 54 { d with line := d.line.take k } { s with la := x.1.1, lc := x.1.2 } g w' (H.at (wr := true) (T := 96) (cs := discSC { d with line := d.line.take k } { s with la := x.1.1, lc := x.1.2 }) 0 (by kernel_rfl))) (by kernel_rfl) ?_
  refine Hs.run0 300 (fun _ => by kernel_rfl) ?_
  refine Hs.cond (d.t.has 54) (by kernel_rfl) (fun hc => ?_) (fun hc => ?_)
  · rw [if_pos hc]
    refine Hs.run0 300 (fun _ => by kernel_rfl) ?_
    refine Hs.any [0, 1012] (by kernel_rfl) ?_
    refine Hs.run0 300 (fun _ => by kernel_rfl) ?_
    refine Hs.callN0 (g := g) (fun y : Option Addr × Nat => .slice y.1 (rubC d.t d.frm (d.line.take k) (d.line.drop k)).length y.2) (fun y w => RdU w y.1 y.2 (rubC d.t d.frm (d.line.take k) (d.line.drop k))) 0 C1 rfl (by kernel_rfl : _ = some (HB.b true 96 (discSC { d with line := d.line.take k } { s with la := x.1.1, lc := x.1.2 }))) (fun w' H => by
      have hd := C1.now H
      exact rub_any d.t d.frm x.1.1 x.2.1 x.1.2 x.2.2 (d.line.take k) (d.line.drop k) w' hd.1.1.1 hd.1.2.1 (Nat.le_trans hd.1.1.2.1 hd.1.1.2.2) (Nat.le_trans hd.1.2.2.1 hd.1.2.2.2)) (by kernel_rfl) fun y w2 L2 C2 => ?_
    refine Hs.run0 300 (fun _ => by kernel_rfl) ?_
    refine Hs.callDD (F := fun w => True) (s := { s with la := x.1.1, lc := x.1.2 }) (d := { d with line := d.line.take k }) (d' := echoD { d with line := d.line.take k } (rubC d.t d.frm (d.line.take k) (d.line.drop k))) (v := .tuple #[]) (C2.imp fun w h => ⟨⟨h.2.1.1, h.2.2.lines, h.2.2.map, h.2.2.raw, h.2.2.out⟩, trivial⟩) rfl (by kernel_rfl) (fun w' H hD => decho_any { d with line := d.line.take k } { s with la := x.1.1, lc := x.1.2 } g y.1 y.2 (rubC d.t d.frm (d.line.take k) (d.line.drop k)) w' hD hf1 ((C2.keepsAt H).imp fun w h => h.1) (by omega)) (by kernel_rfl) (by kernel_rfl) (fun _ => (by kernel_rfl)) fun s2 w3 L3 C3 => ?_
    refine Hs.run0 300 (fun _ => by kernel_rfl) ?_
    exact Hs.ret (v := .tuple #[]) Tryz.func161 (by kernel_rfl) fun w' H => DPost.of (s := s2) (d := echoD { d with line := d.line.take k } (rubC d.t d.frm (d.line.take k) (d.line.drop k))) C3 H rfl (by kernel_rfl) fun w h => h.1
  · rw [if_neg (by rw [hc]; decide)]
    refine Hs.run0 300 (fun _ => by kernel_rfl) ?_
    refine Hs.callDD (F := fun w => True) (s := { s with la := x.1.1, lc := x.1.2 }) (d := { d with line := d.line.take k }) (d' := echoOfD { d with line := d.line.take k } c) (v := .tuple #[]) (C1.imp fun w h => ⟨⟨h.1.1, h.2.lines, h.2.map, h.2.raw, h.2.out⟩, trivial⟩) rfl (by kernel_rfl) (fun w' H hD => dechoOf_any { d with line := d.line.take k } { s with la := x.1.1, lc := x.1.2 } g c w' hD hf1) (by kernel_rfl) (by kernel_rfl) (fun _ => (by kernel_rfl)) fun s2 w2 L2 C2 => ?_
    refine Hs.run0 300 (fun _ => by kernel_rfl) ?_
    exact Hs.ret (v := .tuple #[]) Tryz.func161 (by kernel_rfl) fun w' H => DPost.of (s := s2) (d := echoOfD { d with line := d.line.take k } c) C2 H rfl (by kernel_rfl) fun w h => h.1
def eraseD (d : DM) (c : Int) : DM := cutD d c (startC d.t d.line)
theorem eraseD_few {d : DM} {c : Int} (hf : Few d) : Few (eraseD d c) := cutD_few hf
theorem derase_any (d : DM) (s : DS) (g : Nat) (c : Int) (w : World) (h : DAt w g d s) (hf : Few d) : Calls Tryz.prog 125 #[.pointer (some ⟨g, 0, none⟩), .int .u8 c] w (DPost w g s d (eraseD d c) (.tuple #[])) := by
  have C := Cx.start h.data (Blk.lt h.blk)
  unfold eraseD
  refine Hs.enter Tryz.func125 [g] [g] [.b true 96 (discSC d s)] [.c (.p 0 0), .c (.v (.int .u8 c))] (Mem.one w g h.blk) (by kernel_rfl) (by kernel_rfl) ?_
  refine Hs.run0 300 (fun _ => by kernel_rfl) ?_
  refine Hs.callDD (F := fun w => True) (s := s) (d := d) (d' := cutD d c (startC d.t d.line)) (v := .tuple #[]) (C.imp fun w h => ⟨h, trivial⟩) rfl (by kernel_rfl) (fun w' H hD => dcut_erase d s g c w' hD hf) (by kernel_rfl) (by kernel_rfl) (fun _ => (by kernel_rfl)) fun s1 w1 L1 C1 => ?_
  refine Hs.run0 300 (fun _ => by kernel_rfl) ?_
  exact Hs.ret (v := .tuple #[]) Tryz.func125 (by kernel_rfl) fun w' H => DPost.of (s := s1) (d := cutD d c (startC d.t d.line)) C1 H rfl (by kernel_rfl) fun w h => h.1
theorem dcut_word (d : DM) (s : DS) (g : Nat) (c : Int) (w : World) (h : DAt w g d s) (hf : Few d) : Calls Tryz.prog 161 #[.pointer (some ⟨g, 0, none⟩), .int .u8 c, .func (.func 163) #[] #[]] w (DPost w g s d (cutD d c (wordC d.t d.line)) (.tuple #[])) := by
  have C := Cx.start h.data (Blk.lt h.blk)
  have h1 := hf.line
  have hk : wordC d.t d.line ≤ d.line.length := wordGo_le d.t d.line d.line.length d.line.length false (Nat.le_refl _)
  unfold cutD
  generalize hq : wordC d.t d.line = k at hk
  have hf1 : Few { d with line := d.line.take k } := ⟨by show (d.line.take k).length ≤ _; rw [List.length_take]; omega, hf.raw, hf.out, hf.used, hf.zero⟩
  have hrl := rub_le d.t d.frm (d.line.take k) (d.line.drop k)
  refine Hs.enter Tryz.func161 [g] [g] [.b true 96 (discSC d s)] [.c (.p 0 0), .c (.v (.int .u8 c)), .c (.v (.func (.func 163) #[] #[]))] (Mem.one w g h.blk) (by kernel_rfl) (by kernel_rfl) ?_
  refine Hs.run0 300 (fun _ => by kernel_rfl) ?_
  refine Hs.any [0, 1009] (by kernel_rfl) ?_
  refine Hs.run0 300 (fun _ => by kernel_rfl) ?_
  refine Hs.callN (g := g) (two (d.line.take k) (d.line.drop k)) (Two (d.line.take k) (d.line.drop k)) 0 C rfl (by kernel_rfl : _ = some (HB.b true 96 (discSC d s))) (fun w' H => by
    have hd := C.now H
    have := word_any d.t s.la s.lc d.line w' hd.line.1 (by omega) hd.line.2.1
    rw [hq] at this
    exact this) (by kernel_rfl) (by kernel_rfl) fun x w1 L1 C1 => ?_
  refine Hs.run0 300 (fun _ => by kernel_rfl) ?_
  refine Hs.cond (((d.line.drop k).length : Int) == 0) (by kernel_rfl) (fun h2 => ?_) (fun h2 => ?_)
  · have h3 : (d.line.drop k).length = 0 := by simpa using h2
    rw [if_pos h3]
    refine Hs.run0 300 (fun _ => by kernel_rfl) ?_
    exact Hs.ret (v := .tuple #[]) Tryz.func161 (by kernel_rfl) fun w' H => DPost.of (s := s) (d := d) C1 H rfl (by kernel_rfl) fun w h => h.2
  have h3 : ¬ (d.line.drop k).length = 0 := by simpa using h2
  rw [if_neg h3]
  refine Hs.run0 300 (fun _ => by kernel_rfl) ?_
  refine Hs.callV (fun w' H => dhas_any 54 { d with line := d.line.take k } { s with la := x.1.1, lc := x.1.2 } g w' (H.at (wr := true) (T := 96) (cs := discSC { d with line := d.line.take k } { s with la := x.1.1, lc := x.1.2 }) 0 (by kernel_rfl))) (by kernel_rfl) ?_
  refine Hs.run0 300 (fun _ => by kernel_rfl) ?_
  refine Hs.cond (d.t.has 54) (by kernel_rfl) (fun hc => ?_) (fun hc => ?_)
  · rw [if_pos hc]
    refine Hs.run0 300 (fun _ => by kernel_rfl) ?_
    refine Hs.any [0, 1012] (by kernel_rfl) ?_
    refine Hs.run0 300 (fun _ => by kernel_rfl) ?_
    refine Hs.callN0 (g := g) (fun y : Option Addr × Nat => .slice y.1 (rubC d.t d.frm (d.line.take k) (d.line.drop k)).length y.2) (fun y w => RdU w y.1 y.2 (rubC d.t d.frm (d.line.take k) (d.line.drop k))) 0 C1 rfl (by kernel_rfl : _ = some (HB.b true 96 (discSC { d with line := d.line.take k } { s with la := x.1.1, lc := x.1.2 }))) (fun w' H => by
      have hd := C1.now H
      exact rub_any d.t d.frm x.1.1 x.2.1 x.1.2 x.2.2 (d.line.take k) (d.line.drop k) w' hd.1.1.1 hd.1.2.1 (Nat.le_trans hd.1.1.2.1 hd.1.1.2.2) (Nat.le_trans hd.1.2.2.1 hd.1.2.2.2)) (by kernel_rfl) fun y w2 L2 C2 => ?_
    refine Hs.run0 300 (fun _ => by kernel_rfl) ?_
    refine Hs.callDD (F := fun w => True) (s := { s with la := x.1.1, lc := x.1.2 }) (d := { d with line := d.line.take k }) (d' := echoD { d with line := d.line.take k } (rubC d.t d.frm (d.line.take k) (d.line.drop k))) (v := .tuple #[]) (C2.imp fun w h => ⟨⟨h.2.1.1, h.2.2.lines, h.2.2.map, h.2.2.raw, h.2.2.out⟩, trivial⟩) rfl (by kernel_rfl) (fun w' H hD => decho_any { d with line := d.line.take k } { s with la := x.1.1, lc := x.1.2 } g y.1 y.2 (rubC d.t d.frm (d.line.take k) (d.line.drop k)) w' hD hf1 ((C2.keepsAt H).imp fun w h => h.1) (by omega)) (by kernel_rfl) (by kernel_rfl) (fun _ => (by kernel_rfl)) fun s2 w3 L3 C3 => ?_
    refine Hs.run0 300 (fun _ => by kernel_rfl) ?_
    exact Hs.ret (v := .tuple #[]) Tryz.func161 (by kernel_rfl) fun w' H => DPost.of (s := s2) (d := echoD { d with line := d.line.take k } (rubC d.t d.frm (d.line.take k) (d.line.drop k))) C3 H rfl (by kernel_rfl) fun w h => h.1
  · rw [if_neg (by rw [hc]; decide)]
    refine Hs.run0 300 (fun _ => by kernel_rfl) ?_
    refine Hs.callDD (F := fun w => True) (s := { s with la := x.1.1, lc := x.1.2 }) (d := { d with line := d.line.take k }) (d' := echoOfD { d with line := d.line.take k } c) (v := .tuple #[]) (C1.imp fun w h => ⟨⟨h.1.1, h.2.lines, h.2.map, h.2.raw, h.2.out⟩, trivial⟩) rfl (by kernel_rfl) (fun w' H hD => dechoOf_any { d with line := d.line.take k } { s with la := x.1.1, lc := x.1.2 } g c w' hD hf1) (by kernel_rfl) (by kernel_rfl) (fun _ => (by kernel_rfl)) fun s2 w2 L2 C2 => ?_
    refine Hs.run0 300 (fun _ => by kernel_rfl) ?_
    exact Hs.ret (v := .tuple #[]) Tryz.func161 (by kernel_rfl) fun w' H => DPost.of (s := s2) (d := echoOfD { d with line := d.line.take k } c) C2 H rfl (by kernel_rfl) fun w h => h.1
def wordD (d : DM) (c : Int) : DM := cutD d c (wordC d.t d.line)
theorem wordD_few {d : DM} {c : Int} (hf : Few d) : Few (wordD d c) := cutD_few hf
theorem dword_any (d : DM) (s : DS) (g : Nat) (c : Int) (w : World) (h : DAt w g d s) (hf : Few d) : Calls Tryz.prog 126 #[.pointer (some ⟨g, 0, none⟩), .int .u8 c] w (DPost w g s d (wordD d c) (.tuple #[])) := by
  have C := Cx.start h.data (Blk.lt h.blk)
  unfold wordD
  refine Hs.enter Tryz.func126 [g] [g] [.b true 96 (discSC d s)] [.c (.p 0 0), .c (.v (.int .u8 c))] (Mem.one w g h.blk) (by kernel_rfl) (by kernel_rfl) ?_
  refine Hs.run0 300 (fun _ => by kernel_rfl) ?_
  refine Hs.callDD (F := fun w => True) (s := s) (d := d) (d' := cutD d c (wordC d.t d.line)) (v := .tuple #[]) (C.imp fun w h => ⟨h, trivial⟩) rfl (by kernel_rfl) (fun w' H hD => dcut_word d s g c w' hD hf) (by kernel_rfl) (by kernel_rfl) (fun _ => (by kernel_rfl)) fun s1 w1 L1 C1 => ?_
  refine Hs.run0 300 (fun _ => by kernel_rfl) ?_
  exact Hs.ret (v := .tuple #[]) Tryz.func126 (by kernel_rfl) fun w' H => DPost.of (s := s1) (d := cutD d c (wordC d.t d.line)) C1 H rfl (by kernel_rfl) fun w h => h.1
def killD (d : DM) (c : Int) : DM := if d.t.has 54 && d.t.has 61 then echoD { d with line := [] } (rubC d.t d.frm [] d.line) else echoD { d with line := [] } (showC d.t c ++ (if d.t.has 55 then [10] else []))
theorem killD_few {d : DM} {c : Int} (hf : Few d) : Few (killD d c) := by
  have hf1 : Few { d with line := [] } := ⟨by show ([] : List Int).length ≤ _; simp, hf.raw, hf.out, hf.used, hf.zero⟩
  unfold killD
  split
  · exact echoD_few hf1
  · exact echoD_few hf1
theorem dkill_any (d : DM) (s : DS) (g : Nat) (c : Int) (w : World) (h : DAt w g d s) (hf : Few d) : Calls Tryz.prog 127 #[.pointer (some ⟨g, 0, none⟩), .int .u8 c] w (DPost w g s d (killD d c) (.tuple #[])) := by
  have C := Cx.start h.data (Blk.lt h.blk)
  have hs := show_le d.t c
  have hf1 : Few { d with line := [] } := ⟨by show ([] : List Int).length ≤ _; simp, hf.raw, hf.out, hf.used, hf.zero⟩
  have hrl := rub_le d.t d.frm [] d.line
  have h1 := hf.line
  unfold killD
  refine Hs.enter Tryz.func127 [g] [g] [.b true 96 (discSC d s)] [.c (.p 0 0), .c (.v (.int .u8 c))] (Mem.one w g h.blk) (by kernel_rfl) (by kernel_rfl) ?_
  refine Hs.run0 300 (fun _ => by kernel_rfl) ?_
  refine Hs.callV (fun w' H => dhas_any 54 { d with line := [] } { s with la := none, lc := 0 } g w' (H.at (wr := true) (T := 96) (cs := discSC { d with line := [] } { s with la := none, lc := 0 }) 0 (by kernel_rfl))) (by kernel_rfl) ?_
  refine Hs.run0 300 (fun _ => by kernel_rfl) ?_
  refine Hs.bool 15 (d.t.has 54) (by kernel_rfl) (fun h1 => ?_) (fun h1 => ?_)
  · refine Hs.rung0 [2] 300 (fun _ => by kernel_rfl) ?_
    refine Hs.callV (fun w' H => dhas_any 61 { d with line := [] } { s with la := none, lc := 0 } g w' (H.at (wr := true) (T := 96) (cs := discSC { d with line := [] } { s with la := none, lc := 0 }) 0 (by kernel_rfl))) (by kernel_rfl) ?_
    refine Hs.rung0 [2] 300 (fun _ => by kernel_rfl) ?_
    refine Hs.cond (d.t.has 61) (by kernel_rfl) (fun h2 => ?_) (fun h2 => ?_)
    · rw [if_pos (by rw [h1, h2]; rfl)]
      refine Hs.run0 300 (fun _ => by kernel_rfl) ?_
      refine Hs.any [0, 1011] (by kernel_rfl) ?_
      refine Hs.run0 300 (fun _ => by kernel_rfl) ?_
      refine Hs.callN0 (g := g) (fun y : Option Addr × Nat => .slice y.1 (rubC d.t d.frm [] d.line).length y.2) (fun y w => RdU w y.1 y.2 (rubC d.t d.frm [] d.line)) 0 C rfl (by kernel_rfl : _ = some (HB.b true 96 (discSC { d with line := [] } { s with la := none, lc := 0 }))) (fun w' H => by
        have hd := C.now H
        exact rub_any d.t d.frm none s.la 0 s.lc [] d.line w' (rdU_nil w').1 hd.line.1 (by unfold maxLen; simp) (Nat.le_trans hd.line.2.1 hd.line.2.2)) (by kernel_rfl) fun y w2 L2 C2 => ?_
      refine Hs.run0 300 (fun _ => by kernel_rfl) ?_
      refine Hs.callDD (F := fun w => True) (s := { s with la := none, lc := 0 }) (d := { d with line := [] }) (d' := echoD { d with line := [] } (rubC d.t d.frm [] d.line)) (v := .tuple #[]) (C2.imp fun w h => ⟨⟨rdU_nil w, h.2.lines, h.2.map, h.2.raw, h.2.out⟩, trivial⟩) rfl (by kernel_rfl) (fun w' H hD => decho_any { d with line := [] } { s with la := none, lc := 0 } g y.1 y.2 (rubC d.t d.frm [] d.line) w' hD hf1 ((C2.keepsAt H).imp fun w h => h.1) (by omega)) (by kernel_rfl) (by kernel_rfl) (fun _ => (by kernel_rfl)) fun s2 w3 L3 C3 => ?_
      refine Hs.run0 300 (fun _ => by kernel_rfl) ?_
      exact Hs.ret (v := .tuple #[]) Tryz.func127 (by kernel_rfl) fun w' H => DPost.of (s := s2) (d := echoD { d with line := [] } (rubC d.t d.frm [] d.line)) C3 H rfl (by kernel_rfl) fun w h => h.1
    · rw [if_neg (by rw [h1, h2]; decide)]
      refine Hs.run0 300 (fun _ => by kernel_rfl) ?_
      refine Hs.callS (cf := cu8) (E := 5) (size := 1) (fun A cap => .slice A (showC d.t c).length cap) (showC d.t c) _ rfl (fun w' H => show_any d.t c w') (by kernel_rfl) (by kernel_rfl) fun A0 c0 h3 h4 => ?_
      refine Hs.run0 300 (fun _ => by kernel_rfl) ?_
      refine Hs.callV (fun w' H => dhas_any 55 { d with line := [] } { s with la := none, lc := 0 } g w' (H.at (wr := true) (T := 96) (cs := discSC { d with line := [] } { s with la := none, lc := 0 }) 0 (by kernel_rfl))) (by kernel_rfl) ?_
      refine Hs.run0 300 (fun _ => by kernel_rfl) ?_
      refine Hs.cond (d.t.has 55) (by kernel_rfl) (fun h5 => ?_) (fun h5 => ?_)
      · rw [if_pos h5]
        refine Hs.run1 300 (fun _ => by kernel_rfl) fun b2 => ?_
        refine Hs.app (cf := cu8) (c := 1) (ty := 27) 1 elemU8 (showC d.t c) [10] (showC d.t c).length 1 rfl rfl cu8_one cu8_len (A := A0) (B := some ⟨b2, 0, none⟩) (cap := c0) (by kernel_rfl) (by kernel_rfl) (by kernel_rfl) (fun w' H => H.rdB (cf := cu8) (wr := true) (T := 5) (cs := [.v (.int .u8 10)]) (gs := [10]) 2 (by kernel_rfl) rfl) (by unfold maxLen; omega) (by rw [by_u8]; omega) fun A1 c1 h6 => ?_
        refine Hs.run0 300 (fun _ => by kernel_rfl) ?_
        refine Hs.callDD (F := fun w => True) (s := { s with la := none, lc := 0 }) (d := { d with line := [] }) (d' := echoD { d with line := [] } (showC d.t c ++ [10])) (v := .tuple #[]) (C.imp fun w h => ⟨⟨rdU_nil w, h.lines, h.map, h.raw, h.out⟩, trivial⟩) rfl (by kernel_rfl) (fun w' H hD => by
          have := decho_any { d with line := [] } { s with la := none, lc := 0 } g A1 c1 (showC d.t c ++ [10]) w' hD hf1 (H.keepU (A := A1) (cap := c1) (E := 5) 0 1 (by simp : (showC d.t c ++ [10]).length = (showC d.t c).length + 1) (by kernel_rfl : _ = some (HB.b true 96 (discSC { d with line := [] } { s with la := none, lc := 0 }))) (by kernel_rfl) (by decide) rfl) (by simp; omega)
          rw [List.length_append] at this; exact this) (by kernel_rfl) (by kernel_rfl) (fun _ => (by kernel_rfl)) fun s1 w1 L1 C1 => ?_
        refine Hs.run0 300 (fun _ => by kernel_rfl) ?_
        exact Hs.ret (v := .tuple #[]) Tryz.func127 (by kernel_rfl) fun w' H => DPost.of (s := s1) (d := echoD { d with line := [] } (showC d.t c ++ [10])) C1 H rfl (by kernel_rfl) fun w h => h.1
      · rw [if_neg (by rw [h5]; decide), List.append_nil]
        obtain ⟨A1, hA1⟩ : ∃ A1, A1 = A0 := ⟨_, rfl⟩
        obtain ⟨c1, hc1⟩ : ∃ c1, c1 = c0 := ⟨_, rfl⟩
        subst hA1; subst hc1
        refine Hs.run0 300 (fun _ => by kernel_rfl) ?_
        refine Hs.callDD (F := fun w => True) (s := { s with la := none, lc := 0 }) (d := { d with line := [] }) (d' := echoD { d with line := [] } (showC d.t c)) (v := .tuple #[]) (C.imp fun w h => ⟨⟨rdU_nil w, h.lines, h.map, h.raw, h.out⟩, trivial⟩) rfl (by kernel_rfl) (fun w' H hD => by
          have := decho_any { d with line := [] } { s with la := none, lc := 0 } g A1 c1 (showC d.t c) w' hD hf1 (H.keepU (A := A1) (cap := c1) (E := 5) 0 1 (rfl : (showC d.t c).length = (showC d.t c).length) (by kernel_rfl : _ = some (HB.b true 96 (discSC { d with line := [] } { s with la := none, lc := 0 }))) (by kernel_rfl) (by decide) rfl) (by omega)
          skip; exact this) (by kernel_rfl) (by kernel_rfl) (fun _ => (by kernel_rfl)) fun s1 w1 L1 C1 => ?_
        refine Hs.run0 300 (fun _ => by kernel_rfl) ?_
        exact Hs.ret (v := .tuple #[]) Tryz.func127 (by kernel_rfl) fun w' H => DPost.of (s := s1) (d := echoD { d with line := [] } (showC d.t c)) C1 H rfl (by kernel_rfl) fun w h => h.1
  · rw [if_neg (by rw [h1]; simp)]
    refine Hs.rung0 [2] 300 (fun _ => by kernel_rfl) ?_
    refine Hs.condF (by kernel_rfl) ?_
    refine Hs.run0 300 (fun _ => by kernel_rfl) ?_
    refine Hs.callS (cf := cu8) (E := 5) (size := 1) (fun A cap => .slice A (showC d.t c).length cap) (showC d.t c) _ rfl (fun w' H => show_any d.t c w') (by kernel_rfl) (by kernel_rfl) fun A0 c0 h3 h4 => ?_
    refine Hs.run0 300 (fun _ => by kernel_rfl) ?_
    refine Hs.callV (fun w' H => dhas_any 55 { d with line := [] } { s with la := none, lc := 0 } g w' (H.at (wr := true) (T := 96) (cs := discSC { d with line := [] } { s with la := none, lc := 0 }) 0 (by kernel_rfl))) (by kernel_rfl) ?_
    refine Hs.run0 300 (fun _ => by kernel_rfl) ?_
    refine Hs.cond (d.t.has 55) (by kernel_rfl) (fun h5 => ?_) (fun h5 => ?_)
    · rw [if_pos h5]
      refine Hs.run1 300 (fun _ => by kernel_rfl) fun b2 => ?_
      refine Hs.app (cf := cu8) (c := 1) (ty := 27) 1 elemU8 (showC d.t c) [10] (showC d.t c).length 1 rfl rfl cu8_one cu8_len (A := A0) (B := some ⟨b2, 0, none⟩) (cap := c0) (by kernel_rfl) (by kernel_rfl) (by kernel_rfl) (fun w' H => H.rdB (cf := cu8) (wr := true) (T := 5) (cs := [.v (.int .u8 10)]) (gs := [10]) 2 (by kernel_rfl) rfl) (by unfold maxLen; omega) (by rw [by_u8]; omega) fun A1 c1 h6 => ?_
      refine Hs.run0 300 (fun _ => by kernel_rfl) ?_
      refine Hs.callDD (F := fun w => True) (s := { s with la := none, lc := 0 }) (d := { d with line := [] }) (d' := echoD { d with line := [] } (showC d.t c ++ [10])) (v := .tuple #[]) (C.imp fun w h => ⟨⟨rdU_nil w, h.lines, h.map, h.raw, h.out⟩, trivial⟩) rfl (by kernel_rfl) (fun w' H hD => by
        have := decho_any { d with line := [] } { s with la := none, lc := 0 } g A1 c1 (showC d.t c ++ [10]) w' hD hf1 (H.keepU (A := A1) (cap := c1) (E := 5) 0 1 (by simp : (showC d.t c ++ [10]).length = (showC d.t c).length + 1) (by kernel_rfl : _ = some (HB.b true 96 (discSC { d with line := [] } { s with la := none, lc := 0 }))) (by kernel_rfl) (by decide) rfl) (by simp; omega)
        rw [List.length_append] at this; exact this) (by kernel_rfl) (by kernel_rfl) (fun _ => (by kernel_rfl)) fun s1 w1 L1 C1 => ?_
      refine Hs.run0 300 (fun _ => by kernel_rfl) ?_
      exact Hs.ret (v := .tuple #[]) Tryz.func127 (by kernel_rfl) fun w' H => DPost.of (s := s1) (d := echoD { d with line := [] } (showC d.t c ++ [10])) C1 H rfl (by kernel_rfl) fun w h => h.1
    · rw [if_neg (by rw [h5]; decide), List.append_nil]
      obtain ⟨A1, hA1⟩ : ∃ A1, A1 = A0 := ⟨_, rfl⟩
      obtain ⟨c1, hc1⟩ : ∃ c1, c1 = c0 := ⟨_, rfl⟩
      subst hA1; subst hc1
      refine Hs.run0 300 (fun _ => by kernel_rfl) ?_
      refine Hs.callDD (F := fun w => True) (s := { s with la := none, lc := 0 }) (d := { d with line := [] }) (d' := echoD { d with line := [] } (showC d.t c)) (v := .tuple #[]) (C.imp fun w h => ⟨⟨rdU_nil w, h.lines, h.map, h.raw, h.out⟩, trivial⟩) rfl (by kernel_rfl) (fun w' H hD => by
        have := decho_any { d with line := [] } { s with la := none, lc := 0 } g A1 c1 (showC d.t c) w' hD hf1 (H.keepU (A := A1) (cap := c1) (E := 5) 0 1 (rfl : (showC d.t c).length = (showC d.t c).length) (by kernel_rfl : _ = some (HB.b true 96 (discSC { d with line := [] } { s with la := none, lc := 0 }))) (by kernel_rfl) (by decide) rfl) (by omega)
        skip; exact this) (by kernel_rfl) (by kernel_rfl) (fun _ => (by kernel_rfl)) fun s1 w1 L1 C1 => ?_
      refine Hs.run0 300 (fun _ => by kernel_rfl) ?_
      exact Hs.ret (v := .tuple #[]) Tryz.func127 (by kernel_rfl) fun w' H => DPost.of (s := s1) (d := echoD { d with line := [] } (showC d.t c)) C1 H rfl (by kernel_rfl) fun w h => h.1
def reprintD (d : DM) (c : Int) : DM := echoD { echoD d (showC d.t c ++ [10]) with frm := (echoD d (showC d.t c ++ [10])).col } (lineC (echoD d (showC d.t c ++ [10])).t (echoD d (showC d.t c ++ [10])).line)
theorem reprintD_few {d : DM} {c : Int} (hf : Few d) : Few (reprintD d c) := by
  have h := echoD_few (b := showC d.t c ++ [10]) hf
  exact echoD_few ⟨h.line, h.raw, h.out, h.used, h.zero⟩
theorem dreprint_any (d : DM) (s : DS) (g : Nat) (c : Int) (w : World) (h : DAt w g d s) (hf : Few d) : Calls Tryz.prog 128 #[.pointer (some ⟨g, 0, none⟩), .int .u8 c] w (DPost w g s d (reprintD d c) (.tuple #[])) := by
  have C := Cx.start h.data (Blk.lt h.blk)
  have hs := show_le d.t c
  have hf1 : Few (echoD d (showC d.t c ++ [10])) := echoD_few hf
  unfold reprintD
  refine Hs.enter Tryz.func128 [g] [g] [.b true 96 (discSC d s)] [.c (.p 0 0), .c (.v (.int .u8 c))] (Mem.one w g h.blk) (by kernel_rfl) (by kernel_rfl) ?_
  refine Hs.run0 300 (fun _ => by kernel_rfl) ?_
  refine Hs.callS (cf := cu8) (E := 5) (size := 1) (fun A cap => .slice A (showC d.t c).length cap) (showC d.t c) _ rfl (fun w' H => show_any d.t c w') (by kernel_rfl) (by kernel_rfl) fun A0 c0 h3 h4 => ?_
  refine Hs.run1 300 (fun _ => by kernel_rfl) fun b2 => ?_
  refine Hs.app (cf := cu8) (c := 1) (ty := 27) 1 elemU8 (showC d.t c) [10] (showC d.t c).length 1 rfl rfl cu8_one cu8_len (A := A0) (B := some ⟨b2, 0, none⟩) (cap := c0) (by kernel_rfl) (by kernel_rfl) (by kernel_rfl) (fun w' H => H.rdB (cf := cu8) (wr := true) (T := 5) (cs := [.v (.int .u8 10)]) (gs := [10]) 2 (by kernel_rfl) rfl) (by unfold maxLen; omega) (by rw [by_u8]; omega) fun A1 c1 h6 => ?_
  refine Hs.run0 300 (fun _ => by kernel_rfl) ?_
  refine Hs.callDD (F := fun w => True) (s := s) (d := d) (d' := echoD d (showC d.t c ++ [10])) (v := .tuple #[]) (C.imp fun w h => ⟨h, trivial⟩) rfl (by kernel_rfl) (fun w' H hD => by
    have := decho_any d s g A1 c1 (showC d.t c ++ [10]) w' hD hf (H.keepU (A := A1) (cap := c1) (E := 5) 0 1 (by simp : (showC d.t c ++ [10]).length = (showC d.t c).length + 1) (by kernel_rfl : _ = some (HB.b true 96 (discSC d s))) (by kernel_rfl) (by decide) rfl) (by simp; omega)
    rw [List.length_append] at this; exact this) (by kernel_rfl) (by kernel_rfl) (fun _ => (by kernel_rfl)) fun s1 w1 L1 C1 => ?_
  generalize echoD d (showC d.t c ++ [10]) = d1 at hf1 C1 ⊢
  refine Hs.run0 300 (fun _ => by kernel_rfl) ?_
  have h7 := hf1.line
  have h8 := lineC_le d1.t d1.line
  refine Hs.any [0, 1010] (by kernel_rfl) ?_
  refine Hs.run0 300 (fun _ => by kernel_rfl) ?_
  refine Hs.callS (cf := cu8) (E := 5) (size := 1) (fun A cap => .slice A (lineC d1.t d1.line).length cap) (lineC d1.t d1.line) _ rfl (fun w' H => by
    have hd := (C1.now H).1
    exact line_any d1.t s1.la s1.lc d1.line w' hd.line.1 hd.line.2.1 hd.line.2.2 (by omega)) (by kernel_rfl) (by kernel_rfl) fun A4 c4 h9 h10 => ?_
  refine Hs.run0 300 (fun _ => by kernel_rfl) ?_
  refine Hs.callDD (F := fun w => True) (s := s1) (d := { d1 with frm := d1.col }) (d' := echoD { d1 with frm := d1.col } (lineC d1.t d1.line)) (v := .tuple #[]) (C1.imp fun w h => ⟨⟨h.1.line, h.1.lines, h.1.map, h.1.raw, h.1.out⟩, trivial⟩) rfl (by kernel_rfl) (fun w' H hD => decho_any { d1 with frm := d1.col } s1 g A4 c4 (lineC d1.t d1.line) w' hD ⟨hf1.line, hf1.raw, hf1.out, hf1.used, hf1.zero⟩ (H.keepU (A := A4) (cap := c4) (E := 5) 0 3 rfl (by kernel_rfl : _ = some (HB.b true 96 (discSC { d1 with frm := d1.col } s1))) (by kernel_rfl) (by decide) rfl) (by omega)) (by kernel_rfl) (by kernel_rfl) (fun _ => (by kernel_rfl)) fun s2 w2 L2 C2 => ?_
  refine Hs.run0 300 (fun _ => by kernel_rfl) ?_
  exact Hs.ret (v := .tuple #[]) Tryz.func128 (by kernel_rfl) fun w' H => DPost.of (s := s2) (d := echoD { d1 with frm := d1.col } (lineC d1.t d1.line)) C2 H rfl (by kernel_rfl) fun w h => h.1
end Go.Proofs.YtnfcdbjckdhieaaGreat

namespace Go.Proofs.YtnfcdbjckdhieaaGreat
set_option linter.all false
set_option maxRecDepth 100000
open Go.RowKit

/-- The ways of characters. -/
inductive WK where
  | lit | era | word | kill | rep | eof | nl | eol | plain
def WK.fn : WK → Nat
  | .lit => 124
  | .era => 125
  | .word => 126
  | .kill => 127
  | .rep => 128
  | .eof => 129
  | .nl => 94
  | .eol => 96
  | .plain => 46
def doK (k : WK) (d : DM) (c : Int) : DM := match k with
  | .lit => literalD d
  | .era => eraseD d c
  | .word => wordD d c
  | .kill => killD d c
  | .rep => reprintD d c
  | .eof => eofD d
  | .nl => newlineD d c
  | .eol => endOfD d c
  | .plain => plainD d c
theorem doK_few {k : WK} {d : DM} {c : Int} (hf : Few d) : Few (doK k d c) := by
  cases k
  · exact literalD_few hf
  · exact eraseD_few hf
  · exact wordD_few hf
  · exact killD_few hf
  · exact reprintD_few hf
  · exact eofD_few hf
  · exact newlineD_few hf
  · exact endOfD_few hf
  · exact plainD_few hf
structure WM where
  op : Nat
  extra : Bool
  k : WK
def WK.val (k : WK) (g : Nat) : Value := .func (.func k.fn) #[.pointer (some ⟨g, 0, none⟩)] #[]
def cWay (g : Nat) (x : WM) : List Value := [.int .i64 x.op, .bool x.extra, x.k.val g]
theorem cWay_len (g : Nat) (x : WM) : (cWay g x).length = 3 := rfl
theorem elemWay : ElemT Tryz.prog 169 167 3 (Tryz.prog.bytesOf 167) := elemT_of (z := .agg #[.int .i64 0, .bool false, .nilFunc]) (by kernel_rfl) (by kernel_rfl) (by decide) (by decide)
def waysL : List WM := [⟨14, true, .lit⟩, ⟨3, false, .era⟩, ⟨13, true, .word⟩, ⟨4, false, .kill⟩, ⟨12, true, .rep⟩, ⟨5, false, .eof⟩]
def endsL : List WM := [⟨6, false, .eol⟩, ⟨7, true, .eol⟩]
def fitsD (d : DM) (c : Int) (x : WM) : Bool := d.t.is x.op c && (!x.extra || d.t.has 59)
def idxW (p : WM → Bool) : List WM → Nat
  | [] => 0
  | x :: l => if p x then 0 else idxW p l + 1
theorem idxW_le (p : WM → Bool) : ∀ l : List WM, idxW p l ≤ l.length
  | [] => Nat.le_refl _
  | x :: l => by
    have := idxW_le p l
    unfold idxW
    split <;> simp <;> omega
def wayK (d : DM) (c : Int) : WK := match waysL[idxW (fitsD d c) waysL]? with
  | some x => x.k
  | none => if c == 10 then .nl else if decide (idxW (fitsD d c) endsL < 2) then .eol else .plain
/-- What the closure that asks whether a way fits has caught. -/
structure FitsAt (w : World) (g b2 b3 : Nat) (d : DM) (s : DS) (c : Int) : Prop where
  blk : Blk w g 96 (discV d s)
  p : Blk w b2 40 [.pointer (some ⟨g, 0, none⟩)]
  q : Blk w b3 5 [.int .u8 c]
theorem FitsAt.only {w w' : World} {g b2 b3 : Nat} {d : DM} {s : DS} {c : Int} (h : FitsAt w g b2 b3 d s c) (O : Only [] w w') : FitsAt w' g b2 b3 d s c := ⟨h.blk.only O (by simp), h.p.only O (by simp), h.q.only O (by simp)⟩
theorem way1_any (w : World) (g b2 b3 : Nat) (d : DM) (s : DS) (c : Int) (h : FitsAt w g b2 b3 d s c) (x : WM) (h1 : 1 ≤ x.op) (h2 : x.op ≤ 18) (fv : Value) : Calls Tryz.prog 90 #[.agg #[.int .i64 x.op, .bool x.extra, fv], .pointer (some ⟨b2, 0, none⟩), .pointer (some ⟨b3, 0, none⟩)] w fun e w' => e = .returned (.bool (fitsD d c x)) ∧ Only [] w w' := by
  obtain ⟨op, extra, k⟩ := x
  unfold fitsD
  have h1 : 1 ≤ op := h1
  have h2 : op ≤ 18 := h2
  refine Hs.enter Tryz.func90 [] [] [] [.g [.v (.int .i64 op), .v (.bool extra), .v fv], .c (.v (.pointer (some ⟨b2, 0, none⟩))), .c (.v (.pointer (some ⟨b3, 0, none⟩)))] (Mem.start0 w) (by kernel_rfl) (by kernel_rfl) ?_
  refine Hs.run1 300 (fun _ => by kernel_rfl) fun b0 => ?_
  refine Hs.ldc (E' := 40) (b := b2) (off := 0) (.pointer (some ⟨g, 0, none⟩)) (by kernel_rfl) (fun w' H => ((h.only H.only).p.cell 0).trans rfl) (by kernel_rfl) ?_
  refine Hs.run0 300 (fun _ => by kernel_rfl) ?_
  refine Hs.ldc (E' := 5) (b := b3) (off := 0) (.int .u8 c) (by kernel_rfl) (fun w' H => ((h.only H.only).q.cell 0).trans rfl) (by kernel_rfl) ?_
  refine Hs.run0 300 (fun _ => by kernel_rfl) ?_
  refine Hs.callV (fun w' H => dis_any op c h1 h2 d s g w' (h.only H.only).blk) (by kernel_rfl) ?_
  refine Hs.run0 300 (fun _ => by kernel_rfl) ?_
  refine Hs.bool 10 (d.t.is op c) (by kernel_rfl) (fun h3 => ?_) (fun h3 => ?_)
  · refine Hs.rung0 [5] 300 (fun _ => by kernel_rfl) ?_
    refine Hs.bool 14 (!extra) (by kernel_rfl) (fun h4 => ?_) (fun h4 => ?_)
    · refine Hs.rung0 [5, 9] 300 (fun _ => by kernel_rfl) ?_
      exact Hs.ret (v := .bool true) Tryz.func90 (by kernel_rfl) fun w' H => ⟨by simp only [h3, h4, Bool.true_or, Bool.true_and], H.only⟩
    · refine Hs.rung0 [5, 9] 300 (fun _ => by kernel_rfl) ?_
      refine Hs.ldc (E' := 40) (b := b2) (off := 0) (.pointer (some ⟨g, 0, none⟩)) (by kernel_rfl) (fun w' H => ((h.only H.only).p.cell 0).trans rfl) (by kernel_rfl) ?_
      refine Hs.rung0 [5, 9] 300 (fun _ => by kernel_rfl) ?_
      refine Hs.callV (fun w' H => dhas_any 59 d s g w' (h.only H.only).blk) (by kernel_rfl) ?_
      refine Hs.rung0 [5, 9] 300 (fun _ => by kernel_rfl) ?_
      exact Hs.ret (v := .bool (d.t.has 59)) Tryz.func90 (by kernel_rfl) fun w' H => ⟨by simp only [h3, h4, Bool.false_or, Bool.true_and], H.only⟩
  · refine Hs.rung0 [5, 9] 300 (fun _ => by kernel_rfl) ?_
    exact Hs.ret (v := .bool false) Tryz.func90 (by kernel_rfl) fun w' H => ⟨by simp only [h3, Bool.false_and], H.only⟩
def fitV (b2 b3 : Nat) : Value := .func (.func 90) #[] #[.pointer (some ⟨b2, 0, none⟩), .pointer (some ⟨b3, 0, none⟩)]
def idxV (k n : Nat) : Value := if k < n then .int .i64 k else .int .i64 (-1)
theorem indexW_any (w : World) (g b2 b3 : Nat) (d : DM) (s : DS) (c : Int) (h : FitsAt w g b2 b3 d s c) (A : Option Addr) (cap : Nat) (l : List WM) (hr : RdX (cWay g) w A l) (hl : ∀ x ∈ l, 1 ≤ x.op ∧ x.op ≤ 18) (hn : l.length ≤ 1000) : Calls Tryz.prog 93 #[.slice A l.length cap, fitV b2 b3] w fun e w' => e = .returned (idxV (idxW (fitsD d c) l) l.length) ∧ Only [] w w' := by
  have hm : l.length ≤ maxLen := by unfold maxLen; omega
  have J : ∀ (m i : Nat), l.length - i = m → i ≤ l.length → idxW (fitsD d c) l = i + idxW (fitsD d c) (l.drop i) → ∀ (u : Nat → Value), Hs Tryz.prog 93 (fun e w' => e = .returned (idxV (idxW (fitsD d c) l) l.length) ∧ Only [] w w') (Tryz.f93).ntmps w [] [] ⟨.no, loopAt Tryz.f93 0, pins [(0, .c (.v (.slice A l.length cap))), (1, .c (.v (fitV b2 b3))), (7, .c (.v (.int .i64 l.length))), (8, .c (.v (.int .i64 i)))] (.vals u), []⟩ := by
    intro m
    induction m with
    | zero =>
      intro i hd hi he u
      obtain rfl : i = l.length := by omega
      rw [List.drop_length] at he
      have e : idxV (idxW (fitsD d c) l) l.length = .int .i64 (-1) := by
        rw [he]; unfold idxV; rw [if_neg (by simp [idxW])]
      rw [e]
      refine Hs.run0 300 (fun _ => by kernel_rfl) ?_
      refine Hs.condP ((l.length : Int) < (l.length : Int)) (by kernel_rfl) (fun h => by omega) (fun h => ?_)
      refine Hs.run0 300 (fun _ => by kernel_rfl) ?_
      exact Hs.ret (v := .int .i64 (-1)) Tryz.func93 (by kernel_rfl) fun w' H => ⟨rfl, H.only⟩
    | succ m ih =>
      intro i hd hi he u
      have hil : i < l.length := by omega
      obtain ⟨x, hx⟩ : ∃ x, l[i]? = some x := ⟨_, List.getElem?_eq_getElem hil⟩
      have hdr : l.drop i = x :: l.drop (i + 1) := by
        rw [List.drop_eq_getElem_cons hil]
        rw [List.getElem?_eq_getElem hil] at hx
        injection hx with hx
        rw [hx]
      have hxl := hl x (List.mem_of_getElem? hx)
      obtain ⟨ab, aoff, hA, _, _⟩ := hr (by omega)
      subst hA
      refine Hs.run0 300 (fun _ => by kernel_rfl) ?_
      refine Hs.condP ((i : Int) < (l.length : Int)) (by kernel_rfl) (fun _ => ?_) (fun h => by omega)
      refine Hs.run0 300 (fun _ => by kernel_rfl) ?_
      refine Hs.idx (b := ab) (off := aoff) (len := l.length) (c := cap) (i := i) elemWay hil (by kernel_rfl) ?_
      refine Hs.ldx (cf := cWay g) (size := 3) (E := 167) (b := ab) (off := aoff) (i := i) (l := l) (x := x) (cWay_len g) (.c (.v (.agg #[.int .i64 x.op, .bool x.extra, x.k.val g]))) (by kernel_rfl) (fun w' H => hr.only H.only) hx (by kernel_rfl) (by kernel_rfl) rfl (by kernel_rfl) ?_
      refine Hs.run0 300 (fun _ => by kernel_rfl) ?_
      refine Hs.callV (fun w' H => way1_any w' g b2 b3 d s c (h.only H.only) x hxl.1 hxl.2 (x.k.val g)) (by kernel_rfl) ?_
      refine Hs.run0 300 (fun _ => by kernel_rfl) ?_
      refine Hs.cond (fitsD d c x) (by kernel_rfl) (fun h3 => ?_) (fun h3 => ?_)
      · have e : idxV (idxW (fitsD d c) l) l.length = .int .i64 i := by
          rw [he, hdr]; unfold idxV; rw [idxW, if_pos h3, Nat.add_zero, if_pos hil]
        rw [e]
        refine Hs.run0 300 (fun _ => by kernel_rfl) ?_
        exact Hs.ret (v := .int .i64 i) Tryz.func93 (by kernel_rfl) fun w' H => ⟨rfl, H.only⟩
      · refine Hs.run0 300 (fun _ => by kernel_rfl) ?_
        refine Hs.slot 8 (.c (.v (.int .i64 (i + 1 : Nat)))) rfl ((by kernel_rfl : _ = Value.int .i64 (IntKind.i64.wrap ((i : Int) + 1))).trans (wrap_nextJ hm)) ?_
        refine Hs.loop (by kernel_rfl) ?_
        exact Hs.goto (loopAt Tryz.f93 0) [] [] [(0, .c (.v (.slice (some ⟨ab, aoff, none⟩) l.length cap))), (1, .c (.v (fitV b2 b3))), (7, .c (.v (.int .i64 l.length))), (8, .c (.v (.int .i64 (i + 1 : Nat))))] (by kernel_rfl) (by decide) (by kernel_rfl) (by kernel_rfl) (fun _ => (by kernel_rfl)) (fun u => ih (i + 1) (by omega) (by omega) (by rw [he, hdr, idxW, if_neg (by rw [h3]; decide)]; omega) u)
  refine Hs.enter Tryz.func93 [] [] [] [.c (.v (.slice A l.length cap)), .c (.v (fitV b2 b3))] (Mem.start0 w) (by kernel_rfl) (by kernel_rfl) ?_
  refine Hs.run0 300 (fun _ => by kernel_rfl) ?_
  refine Hs.loop (by kernel_rfl) ?_
  exact Hs.goto (loopAt Tryz.f93 0) [] [] [(0, .c (.v (.slice A l.length cap))), (1, .c (.v (fitV b2 b3))), (7, .c (.v (.int .i64 l.length))), (8, .c (.v (.int .i64 (0 : Nat))))] (by kernel_rfl) (by decide) (by kernel_rfl) (by kernel_rfl) (fun _ => (by kernel_rfl)) (fun u => J l.length 0 (by omega) (by omega) (by simp) u)
theorem containsW_any (w : World) (g b2 b3 : Nat) (d : DM) (s : DS) (c : Int) (h : FitsAt w g b2 b3 d s c) (A : Option Addr) (cap : Nat) (l : List WM) (hr : RdX (cWay g) w A l) (hl : ∀ x ∈ l, 1 ≤ x.op ∧ x.op ≤ 18) (hn : l.length ≤ 1000) : Calls Tryz.prog 92 #[.slice A l.length cap, fitV b2 b3] w fun e w' => e = .returned (.bool (decide (idxW (fitsD d c) l < l.length))) ∧ Only [] w w' := by
  refine Hs.enter Tryz.func92 [] [] [] [.c (.v (.slice A l.length cap)), .c (.v (fitV b2 b3))] (Mem.start0 w) (by kernel_rfl) (by kernel_rfl) ?_
  refine Hs.run0 300 (fun _ => by kernel_rfl) ?_
  refine Hs.callV (fun w' H => indexW_any w' g b2 b3 d s c (h.only H.only) A cap l (hr.only H.only) hl hn) (by kernel_rfl) ?_
  unfold idxV
  by_cases hk : idxW (fitsD d c) l < l.length
  · rw [if_pos hk, decide_eq_true hk]
    generalize idxW (fitsD d c) l = k at hk
    refine Hs.run0 300 (fun _ => by kernel_rfl) ?_
    exact Hs.ret (v := .bool (decide ((k : Int) ≥ 0))) Tryz.func92 (by kernel_rfl) fun w' H => ⟨by rw [decide_eq_true (by omega)], H.only⟩
  · rw [if_neg hk, decide_eq_false hk]
    refine Hs.run0 300 (fun _ => by kernel_rfl) ?_
    exact Hs.ret (v := .bool false) Tryz.func92 (by kernel_rfl) fun w' H => ⟨rfl, H.only⟩
end Go.Proofs.YtnfcdbjckdhieaaGreat

namespace Go.Proofs.YtnfcdbjckdhieaaGreat
set_option linter.all false
set_option maxRecDepth 100000
open Go.RowKit

def waysV (g : Nat) (l : List WM) : List SC := l.flatMap fun x => [.v (.int .i64 x.op), .v (.bool x.extra), .v (x.k.val g)]
theorem ways_any (g : Nat) (w : World) : Calls Tryz.prog 91 #[.pointer (some ⟨g, 0, none⟩)] w (NewX w (fun A : Option Addr => .slice A 6 6) (fun A w => RdX (cWay g) w A waysL)) := by
  refine Hs.enter Tryz.func91 [] [] [] [.c (.v (.pointer (some ⟨g, 0, none⟩)))] (Mem.start0 w) (by kernel_rfl) (by kernel_rfl) ?_
  refine Hs.run1 300 (fun _ => by kernel_rfl) fun b0 => ?_
  exact Hs.ret (v := .slice (some ⟨b0, 0, none⟩) 6 6) Tryz.func91 (by kernel_rfl) fun w' H => ⟨some ⟨b0, 0, none⟩, rfl, H.only, fun L hL => rdX_keeps (H.rdB (cf := cWay g) (wr := true) (T := 167) (cs := waysV g waysL) (gs := waysL) 0 (by kernel_rfl) rfl) fun a ha hx => by
    injection ha with ha
    subst ha
    have h1 := hL _ hx
    rcases H.own 0 (.b true 167 (waysV g waysL)) b0 (by kernel_rfl) rfl rfl with h2 | h2
    · cases h2
    · simp at h1; omega⟩
theorem ends_any2 (g : Nat) (w : World) : Calls Tryz.prog 95 #[.pointer (some ⟨g, 0, none⟩)] w (NewX w (fun A : Option Addr => .slice A 2 2) (fun A w => RdX (cWay g) w A endsL)) := by
  refine Hs.enter Tryz.func95 [] [] [] [.c (.v (.pointer (some ⟨g, 0, none⟩)))] (Mem.start0 w) (by kernel_rfl) (by kernel_rfl) ?_
  refine Hs.run1 300 (fun _ => by kernel_rfl) fun b0 => ?_
  exact Hs.ret (v := .slice (some ⟨b0, 0, none⟩) 2 2) Tryz.func95 (by kernel_rfl) fun w' H => ⟨some ⟨b0, 0, none⟩, rfl, H.only, fun L hL => rdX_keeps (H.rdB (cf := cWay g) (wr := true) (T := 167) (cs := waysV g endsL) (gs := endsL) 0 (by kernel_rfl) rfl) fun a ha hx => by
    injection ha with ha
    subst ha
    have h1 := hL _ hx
    rcases H.own 0 (.b true 167 (waysV g endsL)) b0 (by kernel_rfl) rfl rfl with h2 | h2
    · cases h2
    · simp at h1; omega⟩
theorem waysL_ok : ∀ x ∈ waysL, 1 ≤ x.op ∧ x.op ≤ 18 := by decide
theorem endsL_ok : ∀ x ∈ endsL, 1 ≤ x.op ∧ x.op ≤ 18 := by decide
theorem way_any (d : DM) (s : DS) (g : Nat) (c : Int) (w : World) (h : Blk w g 96 (discV d s)) : Calls Tryz.prog 48 #[.pointer (some ⟨g, 0, none⟩), .int .u8 c] w fun e w' => e = .returned ((wayK d c).val g) ∧ Only [] w w' := by
  refine Hs.enter Tryz.func48 [] [g] [.b false 96 (discSC d s)] [.c (.p 0 0), .c (.v (.int .u8 c))] (Mem.rdB1 w g h) (by kernel_rfl) (by kernel_rfl) ?_
  refine Hs.run2 300 (fun _ => by kernel_rfl) fun b1 b2 => ?_
  have fit : ∀ {w1 w' : World} {L1 : List Nat} {hp : List HB}, Mem w1 L1 [g, b1, b2] hp w' → hp[0]? = some (.b false 96 (discSC d s)) → hp[1]? = some (.b true 40 [.p 0 0]) → hp[2]? = some (.b true 5 [.v (.int .u8 c)]) → FitsAt w' g b1 b2 d s c := fun H h0 h1 h2 => ⟨H.at 0 h0, H.at 1 h1, H.at 2 h2⟩
  refine Hs.callM (Nx.start w) (fun w' H => ways_any g w') (by kernel_rfl) (by kernel_rfl) fun A w1 L1 N => ?_
  refine Hs.run0 300 (fun _ => by kernel_rfl) ?_
  refine Hs.callV (fun w' H => containsW_any w' g b1 b2 d s c (fit H (by kernel_rfl) (by kernel_rfl) (by kernel_rfl)) A 6 waysL (N.now H).1 waysL_ok (by decide)) (by kernel_rfl) ?_
  refine Hs.run0 300 (fun _ => by kernel_rfl) ?_
  refine Hs.condP (idxW (fitsD d c) waysL < waysL.length) (by kernel_rfl) (fun hk => ?_) (fun hk => ?_)
  · obtain ⟨x, hx⟩ : ∃ x, waysL[idxW (fitsD d c) waysL]? = some x := ⟨_, List.getElem?_eq_getElem hk⟩
    have e : wayK d c = x.k := by unfold wayK; rw [hx]
    rw [e]
    generalize hq : idxW (fitsD d c) waysL = k at hk hx
    obtain ⟨ab, aoff, hA, _, _⟩ := N.keeps.at.1 (by decide)
    subst hA
    refine Hs.run0 300 (fun _ => by kernel_rfl) ?_
    refine Hs.callV (v := .int .i64 k) (fun w' H => by
      have := indexW_any w' g b1 b2 d s c (fit H (by kernel_rfl) (by kernel_rfl) (by kernel_rfl)) (some ⟨ab, aoff, none⟩) 6 waysL (N.now H).1 waysL_ok (by decide)
      rw [hq, idxV, if_pos hk] at this
      exact this) (by kernel_rfl) ?_
    refine Hs.run0 300 (fun _ => by kernel_rfl) ?_
    refine Hs.idx (b := ab) (off := aoff) (len := 6) (c := 6) (i := k) elemWay hk (by kernel_rfl) ?_
    refine Hs.run0 300 (fun _ => by kernel_rfl) ?_
    refine Hs.ldc (E' := 114) (b := ab) (off := aoff + k * 3 + 2) (x.k.val g) (by kernel_rfl) (fun w' H => rdX_cell (cWay_len g) (N.now H).1 hx (j := 2) rfl) (by kernel_rfl) ?_
    refine Hs.run0 300 (fun _ => by kernel_rfl) ?_
    exact Hs.ret (v := x.k.val g) Tryz.func48 (by kernel_rfl) fun w' H => ⟨rfl, N.only H⟩
  · have hno : waysL[idxW (fitsD d c) waysL]? = none := List.getElem?_eq_none (by omega)
    refine Hs.run0 300 (fun _ => by kernel_rfl) ?_
    refine Hs.cond (c == 10) (by kernel_rfl) (fun h1 => ?_) (fun h1 => ?_)
    · have e : wayK d c = .nl := by unfold wayK; rw [hno]; simp [h1]
      rw [e]
      refine Hs.run0 300 (fun _ => by kernel_rfl) ?_
      exact Hs.ret (v := WK.val .nl g) Tryz.func48 (by kernel_rfl) fun w' H => ⟨rfl, N.only H⟩
    · refine Hs.run0 300 (fun _ => by kernel_rfl) ?_
      refine Hs.callM N (fun w' H => ends_any2 g w') (by kernel_rfl) (by kernel_rfl) fun A2 w2 L2 N2 => ?_
      refine Hs.run0 300 (fun _ => by kernel_rfl) ?_
      refine Hs.callV (fun w' H => containsW_any w' g b1 b2 d s c (fit H (by kernel_rfl) (by kernel_rfl) (by kernel_rfl)) A2 2 endsL (N2.now H).1 endsL_ok (by decide)) (by kernel_rfl) ?_
      refine Hs.run0 300 (fun _ => by kernel_rfl) ?_
      refine Hs.condP (idxW (fitsD d c) endsL < endsL.length) (by kernel_rfl) (fun h2 => ?_) (fun h2 => ?_)
      · have e : wayK d c = .eol := by
          have h3 : idxW (fitsD d c) endsL < 2 := h2
          unfold wayK; rw [hno]; simp [h1, h3]
        rw [e]
        refine Hs.run0 300 (fun _ => by kernel_rfl) ?_
        exact Hs.ret (v := WK.val .eol g) Tryz.func48 (by kernel_rfl) fun w' H => ⟨rfl, N2.only H⟩
      · have e : wayK d c = .plain := by
          have h3 : ¬ idxW (fitsD d c) endsL < 2 := h2
          unfold wayK; rw [hno]; simp [h1, h3]
        rw [e]
        refine Hs.run0 300 (fun _ => by kernel_rfl) ?_
        exact Hs.ret (v := WK.val .plain g) Tryz.func48 (by kernel_rfl) fun w' H => ⟨rfl, N2.only H⟩
theorem signals_any (w : World) : Calls Tryz.prog 86 #[] w fun e w' => e = .returned (.agg #[.int .i64 1, .int .i64 2, .int .i64 2, .int .i64 3, .int .i64 10, .int .i64 20]) ∧ Only [] w w' := by
  refine Hs.enter Tryz.func86 [] [] [] [] (Mem.start0 w) (by kernel_rfl) (by kernel_rfl) ?_
  refine Hs.run1 300 (fun _ => by kernel_rfl) fun b0 => ?_
  exact Hs.ret (v := .agg #[.int .i64 1, .int .i64 2, .int .i64 2, .int .i64 3, .int .i64 10, .int .i64 20]) Tryz.func86 (by kernel_rfl) fun w' H => ⟨rfl, H.only⟩
def sigN (d : DM) (c : Int) : Int := if d.t.has 50 then (if d.t.is 1 c then 2 else if d.t.is 2 c then 3 else if d.t.is 10 c then 20 else 0) else 0
theorem signal_any (d : DM) (s : DS) (g : Nat) (c : Int) (w : World) (h : Blk w g 96 (discV d s)) : Calls Tryz.prog 43 #[.pointer (some ⟨g, 0, none⟩), .int .u8 c] w fun e w' => e = .returned (.int .i64 (sigN d c)) ∧ Only [] w w' := by
  refine Hs.enter Tryz.func43 [] [] [] [.c (.v (.pointer (some ⟨g, 0, none⟩))), .c (.v (.int .u8 c))] (Mem.start0 w) (by kernel_rfl) (by kernel_rfl) ?_
  refine Hs.run0 300 (fun _ => by kernel_rfl) ?_
  refine Hs.callV (fun w' H => dhas_any 50 d s g w' (h.only H.only (by simp))) (by kernel_rfl) ?_
  refine Hs.run0 300 (fun _ => by kernel_rfl) ?_
  refine Hs.cond (d.t.has 50) (by kernel_rfl) (fun h0 => ?_) (fun h0 => ?_)
  · refine Hs.run0 300 (fun _ => by kernel_rfl) ?_
    refine Hs.callV (fun w' H => signals_any w') (by kernel_rfl) ?_
    refine Hs.run0 300 (fun _ => by kernel_rfl) ?_
    refine Hs.loop (by kernel_rfl) ?_
    refine Hs.run0 300 (fun _ => by kernel_rfl) ?_
    refine Hs.condT (by kernel_rfl) ?_
    refine Hs.run1 300 (fun _ => by kernel_rfl) fun b1 => ?_
    refine Hs.callV (fun w' H => dis_any 1 c (by decide) (by decide) d s g w' (h.only H.only (by simp))) (by kernel_rfl) ?_
    refine Hs.run0 300 (fun _ => by kernel_rfl) ?_
    refine Hs.cond (d.t.is 1 c) (by kernel_rfl) (fun h1 => ?_) (fun h1 => ?_)
    · have e : sigN d c = 2 := by unfold sigN; rw [h0, h1]; rfl
      rw [e]
      refine Hs.run0 300 (fun _ => by kernel_rfl) ?_
      exact Hs.ret (v := .int .i64 2) Tryz.func43 (by kernel_rfl) fun w' H => ⟨rfl, H.only⟩
    refine Hs.run0 300 (fun _ => by kernel_rfl) ?_
    refine Hs.loop (by kernel_rfl) ?_
    refine Hs.run0 300 (fun _ => by kernel_rfl) ?_
    refine Hs.condT (by kernel_rfl) ?_
    refine Hs.run1 300 (fun _ => by kernel_rfl) fun b2 => ?_
    refine Hs.callV (fun w' H => dis_any 2 c (by decide) (by decide) d s g w' (h.only H.only (by simp))) (by kernel_rfl) ?_
    refine Hs.run0 300 (fun _ => by kernel_rfl) ?_
    refine Hs.cond (d.t.is 2 c) (by kernel_rfl) (fun h2 => ?_) (fun h2 => ?_)
    · have e : sigN d c = 3 := by unfold sigN; rw [h0, h1, h2]; rfl
      rw [e]
      refine Hs.run0 300 (fun _ => by kernel_rfl) ?_
      exact Hs.ret (v := .int .i64 3) Tryz.func43 (by kernel_rfl) fun w' H => ⟨rfl, H.only⟩
    refine Hs.run0 300 (fun _ => by kernel_rfl) ?_
    refine Hs.loop (by kernel_rfl) ?_
    refine Hs.run0 300 (fun _ => by kernel_rfl) ?_
    refine Hs.condT (by kernel_rfl) ?_
    refine Hs.run1 300 (fun _ => by kernel_rfl) fun b3 => ?_
    refine Hs.callV (fun w' H => dis_any 10 c (by decide) (by decide) d s g w' (h.only H.only (by simp))) (by kernel_rfl) ?_
    refine Hs.run0 300 (fun _ => by kernel_rfl) ?_
    refine Hs.cond (d.t.is 10 c) (by kernel_rfl) (fun h3 => ?_) (fun h3 => ?_)
    · have e : sigN d c = 20 := by unfold sigN; rw [h0, h1, h2, h3]; rfl
      rw [e]
      refine Hs.run0 300 (fun _ => by kernel_rfl) ?_
      exact Hs.ret (v := .int .i64 20) Tryz.func43 (by kernel_rfl) fun w' H => ⟨rfl, H.only⟩
    have e : sigN d c = 0 := by unfold sigN; rw [h0, h1, h2, h3]; rfl
    rw [e]
    refine Hs.run0 300 (fun _ => by kernel_rfl) ?_
    refine Hs.loop (by kernel_rfl) ?_
    refine Hs.run0 300 (fun _ => by kernel_rfl) ?_
    refine Hs.condF (by kernel_rfl) ?_
    refine Hs.run0 300 (fun _ => by kernel_rfl) ?_
    exact Hs.ret (v := .int .i64 0) Tryz.func43 (by kernel_rfl) fun w' H => ⟨rfl, H.only⟩
  · have e : sigN d c = 0 := by unfold sigN; rw [h0]; rfl
    rw [e]
    refine Hs.run0 300 (fun _ => by kernel_rfl) ?_
    exact Hs.ret (v := .int .i64 0) Tryz.func43 (by kernel_rfl) fun w' H => ⟨rfl, H.only⟩
end Go.Proofs.YtnfcdbjckdhieaaGreat

namespace Go.Proofs.YtnfcdbjckdhieaaGreat
set_option linter.all false
set_option maxRecDepth 100000
open Go.RowKit

def clearD (d : DM) : DM := { d with line := [], lines := [], raw := [] }
theorem clearD_few {d : DM} (hf : Few d) : Few (clearD d) := ⟨Nat.zero_le _, Nat.zero_le _, hf.out, Nat.zero_le _, Nat.zero_le _⟩
def DS.clear (s : DS) : DS := { s with la := none, lc := 0, sa := none, sc := 0, xs := [], ra := none, rc := 0 }
theorem Data.clear {s : DS} {d : DM} {w : World} (h : Data s d w) : Data s.clear (clearD d) w := ⟨rdU_nil w, rdL_nil w, rfl, rdU_nil w, h.out⟩
theorem dclear_any (d : DM) (s : DS) (g : Nat) (w : World) (h : DAt w g d s) : Calls Tryz.prog 88 #[.pointer (some ⟨g, 0, none⟩)] w (DPost w g s d (clearD d) (.tuple #[])) := by
  have C := Cx.start h.data (Blk.lt h.blk)
  refine Hs.enter Tryz.func88 [g] [g] [.b true 96 (discSC d s)] [.c (.p 0 0)] (Mem.one w g h.blk) (by kernel_rfl) (by kernel_rfl) ?_
  refine Hs.run0 300 (fun _ => by kernel_rfl) ?_
  exact Hs.ret (v := .tuple #[]) Tryz.func88 (by kernel_rfl) fun w' H => DPost.of (s := s.clear) (d := clearD d) C H rfl (by kernel_rfl) fun w h => h.clear
def send4D (d : DM) (c : Int) : DM := echoOfD (if d.t.has 38 then { d with st := false } else d) c
def sendD (d : DM) (c sig : Int) : DM := send4D (if d.t.has 57 then d else if sig != 20 then { clearD d with out := [] } else clearD d) c
theorem send4D_few {d : DM} {c : Int} (h1 : Few d) : Few (send4D d c) := by
  unfold send4D
  refine echoOfD_few ?_
  split
  · exact ⟨h1.line, h1.raw, h1.out, h1.used, h1.zero⟩
  · exact h1
theorem sendD_few {d : DM} {c sig : Int} (hf : Few d) : Few (sendD d c sig) := by
  have h1 : Few (if d.t.has 57 then d else if sig != 20 then { clearD d with out := [] } else clearD d) := by
    split
    · exact hf
    · split
      · exact ⟨Nat.zero_le _, Nat.zero_le _, Nat.zero_le _, Nat.zero_le _, Nat.zero_le _⟩
      · exact clearD_few hf
  exact send4D_few h1
theorem dsend_any (d : DM) (s : DS) (g : Nat) (c sig : Int) (w : World) (h : DAt w g d s) (hf : Few d) : Calls Tryz.prog 44 #[.pointer (some ⟨g, 0, none⟩), .int .u8 c, .int .i64 sig] w (DPost w g s d (sendD d c sig) (.tuple #[])) := by
  have C := Cx.start h.data (Blk.lt h.blk)
  have K : ∀ (d1 : DM) (s1 : DS) (w1 : World) (L1 : List Nat), Cx w g (Data s d) w1 L1 (Data s1 d1) → Few d1 → ∀ (u : Nat → Value), Hs Tryz.prog 44 (DPost w g s d (send4D d1 c) (.tuple #[])) (Tryz.f44).ntmps w1 L1 [g] ⟨.no, atR Tryz.f44 4, pins [(0, .c (.p 0 0)), (1, .c (.v (.int .u8 c)))] (.vals u), [.b true 96 (discSC d1 s1)]⟩ := by
    intro d1 s1 w1 L1 C1 hf1 u
    unfold send4D
    refine Hs.run0 300 (fun _ => by kernel_rfl) ?_
    refine Hs.callV (fun w' H => dhas_any 38 d1 s1 g w' (H.at (wr := true) (T := 96) (cs := discSC d1 s1) 0 (by kernel_rfl))) (by kernel_rfl) ?_
    refine Hs.run0 300 (fun _ => by kernel_rfl) ?_
    refine Hs.cond (d1.t.has 38) (by kernel_rfl) (fun h1 => ?_) (fun h1 => ?_)
    · rw [if_pos h1]
      refine Hs.run0 300 (fun _ => by kernel_rfl) ?_
      refine Hs.callDD (F := fun w => True) (s := s1) (d := { d1 with st := false }) (d' := echoOfD { d1 with st := false } c) (v := .tuple #[]) (C1.imp fun w h => ⟨⟨h.line, h.lines, h.map, h.raw, h.out⟩, trivial⟩) rfl (by kernel_rfl) (fun w' H hD => dechoOf_any { d1 with st := false } s1 g c w' hD ⟨hf1.line, hf1.raw, hf1.out, hf1.used, hf1.zero⟩) (by kernel_rfl) (by kernel_rfl) (fun _ => (by kernel_rfl)) fun s2 w2 L2 C2 => ?_
      refine Hs.run0 300 (fun _ => by kernel_rfl) ?_
      exact Hs.ret (v := .tuple #[]) Tryz.func44 (by kernel_rfl) fun w' H => DPost.of (s := s2) (d := echoOfD { d1 with st := false } c) C2 H rfl (by kernel_rfl) fun w h => h.1
    · rw [if_neg (by rw [h1]; decide)]
      refine Hs.run0 300 (fun _ => by kernel_rfl) ?_
      refine Hs.callDD (F := fun w => True) (s := s1) (d := d1) (d' := echoOfD d1 c) (v := .tuple #[]) (C1.imp fun w h => ⟨h, trivial⟩) rfl (by kernel_rfl) (fun w' H hD => dechoOf_any d1 s1 g c w' hD hf1) (by kernel_rfl) (by kernel_rfl) (fun _ => (by kernel_rfl)) fun s2 w2 L2 C2 => ?_
      refine Hs.run0 300 (fun _ => by kernel_rfl) ?_
      exact Hs.ret (v := .tuple #[]) Tryz.func44 (by kernel_rfl) fun w' H => DPost.of (s := s2) (d := echoOfD d1 c) C2 H rfl (by kernel_rfl) fun w h => h.1
  unfold sendD
  refine Hs.enter Tryz.func44 [g] [g] [.b true 96 (discSC d s)] [.c (.p 0 0), .c (.v (.int .u8 c)), .c (.v (.int .i64 sig))] (Mem.one w g h.blk) (by kernel_rfl) (by kernel_rfl) ?_
  refine Hs.run0 300 (fun _ => by kernel_rfl) ?_
  refine Hs.callV (fun w' H => dhas_any 57 d s g w' (H.at (wr := true) (T := 96) (cs := discSC d s) 0 (by kernel_rfl))) (by kernel_rfl) ?_
  refine Hs.run0 300 (fun _ => by kernel_rfl) ?_
  refine Hs.cond (!d.t.has 57) (by kernel_rfl) (fun h1 => ?_) (fun h1 => ?_)
  · rw [if_neg (by simpa using h1)]
    refine Hs.run0 300 (fun _ => by kernel_rfl) ?_
    refine Hs.callDD (F := fun w => True) (s := s) (d := d) (d' := clearD d) (v := .tuple #[]) (C.imp fun w h => ⟨h, trivial⟩) rfl (by kernel_rfl) (fun w' H hD => dclear_any d s g w' hD) (by kernel_rfl) (by kernel_rfl) (fun _ => (by kernel_rfl)) fun s1 w1 L1 C1 => ?_
    refine Hs.run0 300 (fun _ => by kernel_rfl) ?_
    refine Hs.cond (sig != 20) (by kernel_rfl) (fun h2 => ?_) (fun h2 => ?_)
    · rw [if_pos h2]
      refine Hs.runR0 4 [] 300 (fun _ => by kernel_rfl) ?_
      exact Hs.goto (atR Tryz.f44 4) [0] [.b true 96 (discSC { clearD d with out := [] } { s1 with oa := none, oc := 0 })] [(0, .c (.p 0 0)), (1, .c (.v (.int .u8 c)))] (by kernel_rfl) (by decide) (by kernel_rfl) (by kernel_rfl) (fun _ => (by kernel_rfl)) (fun u => K { clearD d with out := [] } { s1 with oa := none, oc := 0 } w1 L1 (C1.imp fun w h => ⟨h.1.line, h.1.lines, h.1.map, h.1.raw, rdU_nil w⟩) ⟨Nat.zero_le _, Nat.zero_le _, Nat.zero_le _, Nat.zero_le _, Nat.zero_le _⟩ u)
    · rw [if_neg (by rw [h2]; decide)]
      refine Hs.runR0 4 [] 300 (fun _ => by kernel_rfl) ?_
      exact Hs.goto (atR Tryz.f44 4) [0] [.b true 96 (discSC (clearD d) s1)] [(0, .c (.p 0 0)), (1, .c (.v (.int .u8 c)))] (by kernel_rfl) (by decide) (by kernel_rfl) (by kernel_rfl) (fun _ => (by kernel_rfl)) (fun u => K (clearD d) s1 w1 L1 (C1.imp fun w h => h.1) (clearD_few hf) u)
  · rw [if_pos (by simpa using h1)]
    refine Hs.runR0 4 [] 300 (fun _ => by kernel_rfl) ?_
    exact Hs.goto (atR Tryz.f44 4) [0] [.b true 96 (discSC d s)] [(0, .c (.p 0 0)), (1, .c (.v (.int .u8 c)))] (by kernel_rfl) (by decide) (by kernel_rfl) (by kernel_rfl) (fun _ => (by kernel_rfl)) (fun u => K d s w [g] C hf u)
theorem do_any (k : WK) (d : DM) (s : DS) (g : Nat) (c : Int) (w : World) (h : DAt w g d s) (hf : Few d) : Calls Tryz.prog k.fn #[.pointer (some ⟨g, 0, none⟩), .int .u8 c] w (DPost w g s d (doK k d c) (.tuple #[])) := by
  cases k
  · exact dliteral_any d s g c w h hf
  · exact derase_any d s g c w h hf
  · exact dword_any d s g c w h hf
  · exact dkill_any d s g c w h hf
  · exact dreprint_any d s g c w h hf
  · exact deof_any d s g c w h hf
  · exact dnewline_any d s g c w h hf
  · exact dendOf_any d s g c w h hf
  · exact dplain_any d s g c w h hf
def ci64 (x : Int) : List Value := [.int .i64 x]
theorem ci64_len (x : Int) : (ci64 x).length = 1 := rfl
/-- What a byte that is typed leaves: the discipline, the signals. -/
def IPost (w : World) (g : Nat) (s : DS) (d d' : DM) (sigs : List Int) : Ending → World → Prop := fun e w' => ∃ s' A, e = .returned (.slice A sigs.length sigs.length) ∧ Only [g] w w' ∧ Blk w' g 96 (discV d' s') ∧ Turns w w' g (Data s d) (fun w => Data s' d' w ∧ RdX ci64 w A sigs)
theorem IPost.of {w w1 wa w' : World} {g : Nat} {s0 s1 : DS} {d0 d1 d2 : DM} {L1 β : List Nat} {hp : List HB} {D1 : World → Prop} {sigs : List Int} {A : Option Addr} {v : Value} {e : Ending} (C : Cx w g (Data s0 d0) w1 L1 D1) (H : Mem w1 L1 β hp wa) (T : Turns w wa g (Data s0 d0) (fun w => Data s1 d1 w ∧ RdX ci64 w A sigs)) (P : DPost wa g s1 d1 d2 v e w') : IPost w g s0 d0 d2 sigs (.returned (.slice A sigs.length sigs.length)) w' := by
  obtain ⟨s2, _, O, hB, hT⟩ := P
  have O0 := C.only H
  exact ⟨s2, A, rfl, O0.trans O (fun x hx => .inl hx), hB, T.trans O0 (Turns.andR O hT)⟩
theorem DPost.ended {w : World} {g : Nat} {s : DS} {d d' : DM} {v : Value} {e : Ending} {w' : World} (h : DPost w g s d d' v e w') : ∃ x, e = .returned x := by
  obtain ⟨_, rfl, _⟩ := h
  exact ⟨v, rfl⟩
def inputD (d : DM) (c0 : Int) : DM × List Int :=
  if d.next then (marksD (takeD { d with idle := 0, next := false } (stripC d.t c0) [stripC d.t c0]), [])
  else if typedU d.t (stripC d.t c0) then (marksD { d with idle := 0, st := typedF d.t d.st (stripC d.t c0) }, [])
  else if sigN d (stripC d.t c0) > 0 then (marksD (sendD { d with idle := 0, st := typedF d.t d.st (stripC d.t c0) } (stripC d.t c0) (sigN d (stripC d.t c0))), [sigN d (stripC d.t c0)])
  else if !endsOk d.t (stripC d.t c0) then (marksD { d with idle := 0, st := typedF d.t d.st (stripC d.t c0) }, [])
  else (marksD (doK (if d.t.has 51 then wayK d (endsC d.t (stripC d.t c0)) else .plain) { d with idle := 0, st := typedF d.t d.st (stripC d.t c0) } (endsC d.t (stripC d.t c0))), [])
theorem inputD_few {d : DM} {c : Int} (hf : Few d) : Few (inputD d c).1 := by
  have h1 : Few { d with idle := 0, st := typedF d.t d.st (stripC d.t c) } := ⟨hf.line, hf.raw, hf.out, hf.used, hf.zero⟩
  unfold inputD
  split
  · exact marksD_few (takeD_few ⟨hf.line, hf.raw, hf.out, hf.used, hf.zero⟩)
  · split
    · exact marksD_few h1
    · split
      · exact marksD_few (sendD_few h1)
      · split
        · exact marksD_few h1
        · exact marksD_few (doK_few h1)
theorem wayK_idle (d : DM) (st : Bool) (c : Int) : wayK { d with idle := 0, st := st } c = wayK d c := rfl
theorem sigN_idle (d : DM) (st : Bool) (c : Int) : sigN { d with idle := 0, st := st } c = sigN d c := rfl
theorem input_any (d : DM) (s : DS) (g : Nat) (c0 : Int) (w : World) (h : DAt w g d s) (hf : Few d) : Calls Tryz.prog 16 #[.pointer (some ⟨g, 0, none⟩), .int .u8 c0] w (IPost w g s d (inputD d c0).1 (inputD d c0).2) := by
  have C := Cx.start h.data (Blk.lt h.blk)
  unfold inputD
  refine Hs.enter Tryz.func16 [g] [g] [.b true 96 (discSC d s)] [.c (.p 0 0), .c (.v (.int .u8 c0))] (Mem.one w g h.blk) (by kernel_rfl) (by kernel_rfl) ?_
  refine Hs.run0 300 (fun _ => by kernel_rfl) ?_
  refine Hs.condF (by kernel_rfl) ?_
  refine Hs.run0 300 (fun _ => by kernel_rfl) ?_
  refine Hs.dfr (s := pure (.defer ⟨.fn (.func 39) #[], #[.pointer (some ⟨g, 0, none⟩)]⟩)) ⟨.fn (.func 39) #[], #[.pointer (some ⟨g, 0, none⟩)]⟩ (by kernel_rfl) (fun w => rfl) ?_
  refine Hs.run0 300 (fun _ => by kernel_rfl) ?_
  refine Hs.callV (fun w' H => strip_any d.t c0 w') (by kernel_rfl) ?_
  generalize stripC d.t c0 = c
  refine Hs.run0 300 (fun _ => by kernel_rfl) ?_
  refine Hs.cond d.next (by kernel_rfl) (fun h1 => ?_) (fun h1 => ?_)
  · rw [if_pos h1]
    refine Hs.run1 300 (fun _ => by kernel_rfl) fun b1 => ?_
    refine Hs.callDD (F := fun w => True) (s := s) (d := { d with idle := 0, next := false }) (d' := takeD { d with idle := 0, next := false } c [c]) (v := .tuple #[]) (C.imp fun w h => ⟨⟨h.line, h.lines, h.map, h.raw, h.out⟩, trivial⟩) rfl (by kernel_rfl) (fun w' H hD => dtake_any { d with idle := 0, next := false } s g c (some ⟨b1, 0, none⟩) 1 [c] w' hD ⟨hf.line, hf.raw, hf.out, hf.used, hf.zero⟩ (H.keepLit (wr := true) (T := 5) (l := [c]) 0 1 1 rfl (by decide) (by kernel_rfl : _ = some (HB.b true 96 (discSC { d with idle := 0, next := false } s))) (by kernel_rfl) (by decide) rfl) (by simp)) (by kernel_rfl) (by kernel_rfl) (fun _ => (by kernel_rfl)) fun s1 w1 L1 C1 => ?_
    refine Hs.run0 300 (fun _ => by kernel_rfl) ?_
    exact Hs.retD (t := 4) (v := .slice none 0 0) (d := ⟨.fn (.func 39) #[], #[.pointer (some ⟨g, 0, none⟩)]⟩) (Fd := 39) (args := #[.pointer (some ⟨g, 0, none⟩)]) Tryz.func16 rfl (by kernel_rfl) (by kernel_rfl) (by kernel_rfl) rfl (fun w => rfl) fun w' H => CallsD.mono (dmarks_def (takeD { d with idle := 0, next := false } c [c]) s1 g .returning w' ⟨H.at (wr := true) (T := 96) (cs := discSC (takeD { d with idle := 0, next := false } c [c]) s1) 0 (by kernel_rfl), (C1.keepsAt H).imp fun w h => h.1⟩ (takeD_few ⟨hf.line, hf.raw, hf.out, hf.used, hf.zero⟩)) (fun e u' w2 h => ⟨h.1, h.2.ended, IPost.of (s1 := s1) (d1 := (takeD { d with idle := 0, next := false } c [c])) (sigs := []) C1 H ((C1.turns H).imp fun w h => ⟨h.1, fun h => absurd h (by decide)⟩) h.2⟩)
  rw [if_neg (by rw [h1]; decide)]
  refine Hs.run0 300 (fun _ => by kernel_rfl) ?_
  refine Hs.any [0, 1016] (by kernel_rfl) ?_
  refine Hs.run0 300 (fun _ => by kernel_rfl) ?_
  refine Hs.callV (fun w' H => typed_any d.t d.st d.held c w') (by kernel_rfl) ?_
  refine Hs.run0 300 (fun _ => by kernel_rfl) ?_
  generalize hst : typedF d.t d.st c = st
  have hf1 : Few { d with idle := 0, st := st } := ⟨hf.line, hf.raw, hf.out, hf.used, hf.zero⟩
  refine Hs.branch2 13 16 (by kernel_rfl) ?_ ?_
  all_goals
    refine Hs.run0 300 (fun _ => by kernel_rfl) ?_
    refine Hs.cond (typedU d.t c) (by kernel_rfl) (fun h2 => ?_) (fun h2 => ?_)
    · rw [if_pos h2]
      refine Hs.run0 300 (fun _ => by kernel_rfl) ?_
      exact Hs.retD (t := 4) (v := .slice none 0 0) (d := ⟨.fn (.func 39) #[], #[.pointer (some ⟨g, 0, none⟩)]⟩) (Fd := 39) (args := #[.pointer (some ⟨g, 0, none⟩)]) Tryz.func16 rfl (by kernel_rfl) (by kernel_rfl) (by kernel_rfl) rfl (fun w => rfl) fun w' H => CallsD.mono (dmarks_def { d with idle := 0, st := st } s g .returning w' ⟨H.at (wr := true) (T := 96) (cs := discSC { d with idle := 0, st := st } s) 0 (by kernel_rfl), (C.keepsAt H).imp fun w h => ⟨h.line, h.lines, h.map, h.raw, h.out⟩⟩ hf1) (fun e u' w2 h => ⟨h.1, h.2.ended, IPost.of (s1 := s) (d1 := { d with idle := 0, st := st }) (sigs := []) C H ((C.turns H).imp fun w h => ⟨⟨h.line, h.lines, h.map, h.raw, h.out⟩, fun h => absurd h (by decide)⟩) h.2⟩)
    rw [if_neg (by rw [h2]; decide)]
    refine Hs.run0 300 (fun _ => by kernel_rfl) ?_
    refine Hs.callV (v := .int .i64 (sigN d c)) (fun w' H => signal_any { d with idle := 0, st := st } s g c w' (H.at (wr := true) (T := 96) (cs := discSC { d with idle := 0, st := st } s) 0 (by kernel_rfl))) (by kernel_rfl) ?_
    generalize sigN d c = sg
    refine Hs.run0 300 (fun _ => by kernel_rfl) ?_
    refine Hs.condP (sg > 0) (by kernel_rfl) (fun h3 => ?_) (fun h3 => ?_)
    · rw [if_pos h3]
      refine Hs.run0 300 (fun _ => by kernel_rfl) ?_
      refine Hs.callDD (F := fun w => True) (s := s) (d := { d with idle := 0, st := st }) (d' := sendD { d with idle := 0, st := st } c sg) (v := .tuple #[]) (C.imp fun w h => ⟨⟨h.line, h.lines, h.map, h.raw, h.out⟩, trivial⟩) rfl (by kernel_rfl) (fun w' H hD => dsend_any { d with idle := 0, st := st } s g c sg w' hD hf1) (by kernel_rfl) (by kernel_rfl) (fun _ => (by kernel_rfl)) fun s1 w1 L1 C1 => ?_
      refine Hs.run1 300 (fun _ => by kernel_rfl) fun b2 => ?_
      exact Hs.retD (t := 4) (v := .slice (some ⟨b2, 0, none⟩) 1 1) (d := ⟨.fn (.func 39) #[], #[.pointer (some ⟨g, 0, none⟩)]⟩) (Fd := 39) (args := #[.pointer (some ⟨g, 0, none⟩)]) Tryz.func16 rfl (by kernel_rfl) (by kernel_rfl) (by kernel_rfl) rfl (fun w => rfl) fun w' H => CallsD.mono (dmarks_def (sendD { d with idle := 0, st := st } c sg) s1 g .returning w' ⟨H.at (wr := true) (T := 96) (cs := discSC (sendD { d with idle := 0, st := st } c sg) s1) 0 (by kernel_rfl), (C1.keepsAt H).imp fun w h => h.1⟩ (sendD_few hf1)) (fun e u' w2 h => ⟨h.1, h.2.ended, IPost.of (s1 := s1) (d1 := (sendD { d with idle := 0, st := st } c sg)) (sigs := [sg]) C1 H ((C1.turnsB (cf := ci64) (l := [sg]) (T := 3) (cs := [.v (.int .i64 sg)]) H 0 1 (by kernel_rfl : _ = some (HB.b true 96 (discSC (sendD { d with idle := 0, st := st } c sg) s1))) (by kernel_rfl) (by decide) rfl rfl).imp fun w h => ⟨h.1.1, h.2⟩) h.2⟩)
    rw [if_neg h3]
    refine Hs.run0 300 (fun _ => by kernel_rfl) ?_
    refine Hs.callV (fun w' H => turn_any d.t c w') (by kernel_rfl) ?_
    refine Hs.run0 300 (fun _ => by kernel_rfl) ?_
    refine Hs.cond (!endsOk d.t c) (by kernel_rfl) (fun h4 => ?_) (fun h4 => ?_)
    · rw [if_pos h4]
      refine Hs.run0 300 (fun _ => by kernel_rfl) ?_
      exact Hs.retD (t := 4) (v := .slice none 0 0) (d := ⟨.fn (.func 39) #[], #[.pointer (some ⟨g, 0, none⟩)]⟩) (Fd := 39) (args := #[.pointer (some ⟨g, 0, none⟩)]) Tryz.func16 rfl (by kernel_rfl) (by kernel_rfl) (by kernel_rfl) rfl (fun w => rfl) fun w' H => CallsD.mono (dmarks_def { d with idle := 0, st := st } s g .returning w' ⟨H.at (wr := true) (T := 96) (cs := discSC { d with idle := 0, st := st } s) 0 (by kernel_rfl), (C.keepsAt H).imp fun w h => ⟨h.line, h.lines, h.map, h.raw, h.out⟩⟩ hf1) (fun e u' w2 h => ⟨h.1, h.2.ended, IPost.of (s1 := s) (d1 := { d with idle := 0, st := st }) (sigs := []) C H ((C.turns H).imp fun w h => ⟨⟨h.line, h.lines, h.map, h.raw, h.out⟩, fun h => absurd h (by decide)⟩) h.2⟩)
    rw [if_neg (by rw [h4]; decide)]
    generalize endsC d.t c = c2
    refine Hs.run0 300 (fun _ => by kernel_rfl) ?_
    refine Hs.callV (v := .bool (d.t.has 51)) (fun w' H => dhas_any 51 { d with idle := 0, st := st } s g w' (H.at (wr := true) (T := 96) (cs := discSC { d with idle := 0, st := st } s) 0 (by kernel_rfl))) (by kernel_rfl) ?_
    refine Hs.run0 300 (fun _ => by kernel_rfl) ?_
    refine Hs.cond (d.t.has 51) (by kernel_rfl) (fun h5 => ?_) (fun h5 => ?_)
    · rw [if_pos h5]
      obtain ⟨k, hk⟩ : ∃ k, k = wayK d c2 := ⟨_, rfl⟩
      rw [← hk]
      refine Hs.run0 300 (fun _ => by kernel_rfl) ?_
      refine Hs.callV (v := k.val g) (fun w' H => by
        have := way_any { d with idle := 0, st := st } s g c2 w' (H.at (wr := true) (T := 96) (cs := discSC { d with idle := 0, st := st } s) 0 (by kernel_rfl))
        rw [wayK_idle, ← hk] at this
        exact this) (by kernel_rfl) ?_
      have hdo := fun w' hD => do_any k { d with idle := 0, st := st } s g c2 w' hD hf1
      have hfk : Few (doK k { d with idle := 0, st := st } c2) := doK_few hf1
      clear hk
      generalize hdk : doK k { d with idle := 0, st := st } c2 = dk at hdo hfk
      cases k
      all_goals
        refine Hs.run0 300 (fun _ => by kernel_rfl) ?_
        refine Hs.callDD (F := fun w => True) (s := s) (d := { d with idle := 0, st := st }) (d' := dk) (v := .tuple #[]) (C.imp fun w h => ⟨⟨h.line, h.lines, h.map, h.raw, h.out⟩, trivial⟩) rfl (by kernel_rfl) (fun w' H hD => hdo w' hD) (by kernel_rfl) (by kernel_rfl) (fun _ => (by kernel_rfl)) fun s1 w1 L1 C1 => ?_
        refine Hs.run0 300 (fun _ => by kernel_rfl) ?_
        exact Hs.retD (t := 4) (v := .slice none 0 0) (d := ⟨.fn (.func 39) #[], #[.pointer (some ⟨g, 0, none⟩)]⟩) (Fd := 39) (args := #[.pointer (some ⟨g, 0, none⟩)]) Tryz.func16 rfl (by kernel_rfl) (by kernel_rfl) (by kernel_rfl) rfl (fun w => rfl) fun w' H => CallsD.mono (dmarks_def dk s1 g .returning w' ⟨H.at (wr := true) (T := 96) (cs := discSC dk s1) 0 (by kernel_rfl), (C1.keepsAt H).imp fun w h => h.1⟩ hfk) (fun e u' w2 h => ⟨h.1, h.2.ended, IPost.of (s1 := s1) (d1 := dk) (sigs := []) C1 H ((C1.turns H).imp fun w h => ⟨h.1, fun h => absurd h (by decide)⟩) h.2⟩)
    · rw [if_neg (by rw [h5]; decide)]
      refine Hs.run0 300 (fun _ => by kernel_rfl) ?_
      refine Hs.callDD (F := fun w => True) (s := s) (d := { d with idle := 0, st := st }) (d' := plainD { d with idle := 0, st := st } c2) (v := .tuple #[]) (C.imp fun w h => ⟨⟨h.line, h.lines, h.map, h.raw, h.out⟩, trivial⟩) rfl (by kernel_rfl) (fun w' H hD => dplain_any { d with idle := 0, st := st } s g c2 w' hD hf1) (by kernel_rfl) (by kernel_rfl) (fun _ => (by kernel_rfl)) fun s1 w1 L1 C1 => ?_
      refine Hs.run0 300 (fun _ => by kernel_rfl) ?_
      exact Hs.retD (t := 4) (v := .slice none 0 0) (d := ⟨.fn (.func 39) #[], #[.pointer (some ⟨g, 0, none⟩)]⟩) (Fd := 39) (args := #[.pointer (some ⟨g, 0, none⟩)]) Tryz.func16 rfl (by kernel_rfl) (by kernel_rfl) (by kernel_rfl) rfl (fun w => rfl) fun w' H => CallsD.mono (dmarks_def (plainD { d with idle := 0, st := st } c2) s1 g .returning w' ⟨H.at (wr := true) (T := 96) (cs := discSC (plainD { d with idle := 0, st := st } c2) s1) 0 (by kernel_rfl), (C1.keepsAt H).imp fun w h => h.1⟩ (plainD_few hf1)) (fun e u' w2 h => ⟨h.1, h.2.ended, IPost.of (s1 := s1) (d1 := (plainD { d with idle := 0, st := st } c2)) (sigs := []) C1 H ((C1.turns H).imp fun w h => ⟨h.1, fun h => absurd h (by decide)⟩) h.2⟩)
end Go.Proofs.YtnfcdbjckdhieaaGreat

/- Layer 4: requests, their parts, what is asked of them; plain laws; no condition. -/
import Derived.Test.YtkgikodiecmakaaGreatDoorOctY
namespace Go.Proofs.YtkgikodiecmakaaGreatDoor
set_option linter.all false
open Go.RowKit

/-- A request. -/
structure RQ where
  kind : Int
  text : ByteArray
  value : ByteArray
  lang : ByteArray
  cols : Int
  rows : Int
  width : Int
  height : Int
  mA : Option Addr
  mc : Nat
  modes : List Int
  on : Bool
  code : Int
def RQ.cells (m : RQ) : List Value := [.int .i64 m.kind, .string m.text, .string m.value, .string m.lang, .int .u32 m.cols, .int .u32 m.rows, .int .u32 m.width, .int .u32 m.height, .slice m.mA m.modes.length m.mc, .bool m.on, .int .u32 m.code]
def RQ.val (m : RQ) : Value := .agg #[.int .i64 m.kind, .string m.text, .string m.value, .string m.lang, .int .u32 m.cols, .int .u32 m.rows, .int .u32 m.width, .int .u32 m.height, .slice m.mA m.modes.length m.mc, .bool m.on, .int .u32 m.code]
def RNums (m : RQ) : Prop := U32 m.cols ∧ U32 m.rows ∧ U32 m.width ∧ U32 m.height ∧ U32 m.code
structure RQ.ok (w : World) (m : RQ) : Prop where
  modes : RdG (.int .u8) w m.mA m.modes
  mle : m.modes.length ≤ m.mc
  mmax : m.mc ≤ maxLen
  bytes : ∀ x ∈ m.modes, 0 ≤ x ∧ x < 256
  nums : RNums m
  text : m.text.size ≤ maxLen
  value : m.value.size ≤ maxLen
  lang : m.lang.size ≤ maxLen
theorem RQ.ok.only {w w' : World} {m : RQ} (h : m.ok w) (hb : Only [] w w') : m.ok w' := { h with modes := h.modes.only hb }
def zeroR : RQ := ⟨0, ⟨#[]⟩, ⟨#[]⟩, ⟨#[]⟩, 0, 0, 0, 0, none, 0, [], false, 0⟩
def firstR (k : Nat) : RQ := { zeroR with kind := (k : Int) }
theorem zeroR_ok (w : World) : zeroR.ok w := ⟨RdG.nil, by simp [zeroR], by simp [zeroR], by simp [zeroR], by simp [zeroR, U32, RNums], Nat.zero_le _, Nat.zero_le _, Nat.zero_le _⟩
theorem firstR_ok (w : World) (k : Nat) : (firstR k).ok w := { zeroR_ok w with }
/-- The kinds' names. -/
def rnameL : Nat → List UInt8
  | 1 => [112, 116, 121, 45, 114, 101, 113]
  | 2 => [101, 110, 118]
  | 3 => [115, 104, 101, 108, 108]
  | 4 => [101, 120, 101, 99]
  | 5 => [115, 117, 98, 115, 121, 115, 116, 101, 109]
  | 6 => [119, 105, 110, 100, 111, 119, 45, 99, 104, 97, 110, 103, 101]
  | 7 => [120, 111, 110, 45, 120, 111, 102, 102]
  | 8 => [115, 105, 103, 110, 97, 108]
  | 9 => [101, 120, 105, 116, 45, 115, 116, 97, 116, 117, 115]
  | 10 => [101, 120, 105, 116, 45, 115, 105, 103, 110, 97, 108]
  | _ => []
def rname (k : Nat) : ByteArray := ⟨(rnameL k).toArray⟩
/-- The sorts of the kinds' fields. -/
def rkinds : Nat → List Int
  | 1 => [4, 3, 3, 3, 3, 4]
  | 2 => [4, 4]
  | 4 => [4]
  | 5 => [4]
  | 6 => [3, 3, 3, 3]
  | 7 => [2]
  | 8 => [4]
  | 9 => [3]
  | 10 => [4, 2, 4, 4]
  | _ => []
def pT (s : ByteArray) : PF := ⟨4, 0, sOf s, []⟩
def pN (n : Int) : PF := ⟨3, n, [], []⟩
def pB (b : Bool) : PF := ⟨2, if b then 1 else 0, [], []⟩
/-- The fields of a request. -/
def partsR (m : RQ) : Nat → List PF
  | 1 => [pT m.text, pN m.cols, pN m.rows, pN m.width, pN m.height, ⟨4, 0, m.modes, []⟩]
  | 2 => [pT m.text, pT m.value]
  | 4 => [pT m.text]
  | 5 => [pT m.text]
  | 6 => [pN m.cols, pN m.rows, pN m.width, pN m.height]
  | 7 => [pB m.on]
  | 8 => [pT m.text]
  | 9 => [pN m.code]
  | 10 => [pT m.text, pB m.on, pT m.value, pT m.lang]
  | _ => []
def wSign (c : UInt8) : Bool := decide (33 ≤ c.toNat) && decide (c.toNat ≤ 126)
/-- A text of so many signs. -/
def wordOk (s : ByteArray) (least : Nat) : Bool := decide (least ≤ s.size) && decide (s.size ≤ 64) && s.data.toList.all wSign
def wordE (s : ByteArray) (least : Nat) : Int := if wordOk s least then 0 else 4
def longE (n : Nat) : Int := if 1024 < n then 6 else 0
def firstE : List Int → Int
  | [] => 0
  | e :: l => if e ≠ 0 then e else firstE l
def hasEq (s : ByteArray) : Bool := decide ((61 : UInt8) ∈ s.data.toList)
/-- What is wrong with a request. -/
def askR (m : RQ) : Nat → Int
  | 1 => firstE [wordE m.text 0, longE m.modes.length]
  | 2 => if hasEq m.text then 4 else firstE [wordE m.text 1, longE m.value.size]
  | 4 => longE m.text.size
  | 5 => wordE m.text 1
  | 8 => wordE m.text 1
  | 10 => firstE [wordE m.text 1, wordE m.lang 0, longE m.value.size]
  | _ => 0
/-- A request with its fields put. -/
def putR (m : RQ) : Nat → List FD → RQ
  | 1, [a, b, c, d, e, f] => { m with text := strOfNums a.text, cols := b.n, rows := c.n, width := d.n, height := e.n, mA := f.tA, mc := f.tc, modes := f.text }
  | 2, [a, b] => { m with text := strOfNums a.text, value := strOfNums b.text }
  | 4, [a] => { m with text := strOfNums a.text }
  | 5, [a] => { m with text := strOfNums a.text }
  | 6, [b, c, d, e] => { m with cols := b.n, rows := c.n, width := d.n, height := e.n }
  | 7, [a] => { m with on := decide (a.n = 1) }
  | 8, [a] => { m with text := strOfNums a.text }
  | 9, [a] => { m with code := a.n }
  | 10, [a, b, c, d] => { m with text := strOfNums a.text, on := decide (b.n = 1), value := strOfNums c.text, lang := strOfNums d.text }
  | _, _ => m
/-- A request with the fields of its kind alone. -/
def ownK (m : RQ) : Nat → RQ
  | 1 => { firstR 1 with text := m.text, cols := m.cols, rows := m.rows, width := m.width, height := m.height, mA := m.mA, mc := m.mc, modes := m.modes }
  | 2 => { firstR 2 with text := m.text, value := m.value }
  | 4 => { firstR 4 with text := m.text }
  | 5 => { firstR 5 with text := m.text }
  | 6 => { firstR 6 with cols := m.cols, rows := m.rows, width := m.width, height := m.height }
  | 7 => { firstR 7 with on := m.on }
  | 8 => { firstR 8 with text := m.text }
  | 9 => { firstR 9 with code := m.code }
  | 10 => { firstR 10 with text := m.text, on := m.on, value := m.value, lang := m.lang }
  | k => firstR k
structure SameR (a b : RQ) : Prop where
  kind : b.kind = a.kind
  text : b.text = a.text
  value : b.value = a.value
  lang : b.lang = a.lang
  cols : b.cols = a.cols
  rows : b.rows = a.rows
  width : b.width = a.width
  height : b.height = a.height
  on : b.on = a.on
  code : b.code = a.code
  modes : b.modes = a.modes
theorem SameR.refl (a : RQ) : SameR a a := ⟨rfl, rfl, rfl, rfl, rfl, rfl, rfl, rfl, rfl, rfl, rfl⟩
theorem SameR.symm {a b : RQ} (h : SameR a b) : SameR b a := ⟨h.kind.symm, h.text.symm, h.value.symm, h.lang.symm, h.cols.symm, h.rows.symm, h.width.symm, h.height.symm, h.on.symm, h.code.symm, h.modes.symm⟩
theorem SameR.trans {a b c : RQ} (h : SameR a b) (g : SameR b c) : SameR a c := ⟨g.kind.trans h.kind, g.text.trans h.text, g.value.trans h.value, g.lang.trans h.lang, g.cols.trans h.cols, g.rows.trans h.rows, g.width.trans h.width, g.height.trans h.height, g.on.trans h.on, g.code.trans h.code, g.modes.trans h.modes⟩
theorem k10 {k : Nat} (h1 : 1 ≤ k) (h2 : k ≤ 10) : k = 1 ∨ k = 2 ∨ k = 3 ∨ k = 4 ∨ k = 5 ∨ k = 6 ∨ k = 7 ∨ k = 8 ∨ k = 9 ∨ k = 10 := by omega
theorem askR_same {a b : RQ} (h : SameR a b) (k : Nat) (h1 : 1 ≤ k) (h2 : k ≤ 10) : askR b k = askR a k := by
  rcases k10 h1 h2 with rfl | rfl | rfl | rfl | rfl | rfl | rfl | rfl | rfl | rfl <;> simp only [askR, h.text, h.value, h.lang, h.modes]
theorem partsR_same {a b : RQ} (h : SameR a b) (k : Nat) (h1 : 1 ≤ k) (h2 : k ≤ 10) : partsR b k = partsR a k := by
  rcases k10 h1 h2 with rfl | rfl | rfl | rfl | rfl | rfl | rfl | rfl | rfl | rfl <;> simp only [partsR, h.text, h.value, h.lang, h.modes, h.cols, h.rows, h.width, h.height, h.on, h.code]
theorem ask_own (m : RQ) (k : Nat) (h1 : 1 ≤ k) (h2 : k ≤ 10) : askR (ownK m k) k = askR m k := by
  rcases k10 h1 h2 with rfl | rfl | rfl | rfl | rfl | rfl | rfl | rfl | rfl | rfl <;> rfl
theorem parts_kinds (m : RQ) (k : Nat) (h1 : 1 ≤ k) (h2 : k ≤ 10) : (partsR m k).map (·.kind) = rkinds k := by
  rcases k10 h1 h2 with rfl | rfl | rfl | rfl | rfl | rfl | rfl | rfl | rfl | rfl <;> rfl
theorem parts_own (m : RQ) (k : Nat) (h1 : 1 ≤ k) (h2 : k ≤ 10) : (partsR m k).map ownP = partsR m k := by
  rcases k10 h1 h2 with rfl | rfl | rfl | rfl | rfl | rfl | rfl | rfl | rfl | rfl <;> rfl
theorem parts_n {m : RQ} (h : RNums m) (k : Nat) (h1 : 1 ≤ k) (h2 : k ≤ 10) : ∀ p ∈ partsR m k, 0 ≤ p.n ∧ p.n ≤ 4294967295 := by
  obtain ⟨a, b, c, d, e⟩ := h
  have z : (0 : Int) ≤ 0 ∧ (0 : Int) ≤ 4294967295 := by decide
  have on : 0 ≤ (if m.on then (1 : Int) else 0) ∧ (if m.on then (1 : Int) else 0) ≤ 4294967295 := by split <;> decide
  rcases k10 h1 h2 with rfl | rfl | rfl | rfl | rfl | rfl | rfl | rfl | rfl | rfl <;> intro p hp <;> simp only [partsR, List.mem_cons, List.not_mem_nil, or_false] at hp
  · rcases hp with rfl | rfl | rfl | rfl | rfl | rfl
    · exact z
    · exact a
    · exact b
    · exact c
    · exact d
    · exact z
  · rcases hp with rfl | rfl
    · exact z
    · exact z
  · subst hp; exact z
  · subst hp; exact z
  · rcases hp with rfl | rfl | rfl | rfl
    · exact a
    · exact b
    · exact c
    · exact d
  · subst hp; exact on
  · subst hp; exact z
  · subst hp; exact e
  · rcases hp with rfl | rfl | rfl | rfl
    · exact z
    · exact on
    · exact z
    · exact z
theorem fs1 {fs : List FD} {a : PF} (h : fs.map FD.pf = [a]) : ∃ x, fs = [x] ∧ x.pf = a := by
  match fs, h with
  | [x], h => simp at h; exact ⟨x, rfl, h⟩
theorem fs2 {fs : List FD} {a b : PF} (h : fs.map FD.pf = [a, b]) : ∃ x y, fs = [x, y] ∧ x.pf = a ∧ y.pf = b := by
  match fs, h with
  | [x, y], h => simp at h; exact ⟨x, y, rfl, h⟩
theorem fs4 {fs : List FD} {a b c d : PF} (h : fs.map FD.pf = [a, b, c, d]) : ∃ x y z u, fs = [x, y, z, u] ∧ x.pf = a ∧ y.pf = b ∧ z.pf = c ∧ u.pf = d := by
  match fs, h with
  | [x, y, z, u], h => simp at h; exact ⟨x, y, z, u, rfl, h⟩
theorem fs6 {fs : List FD} {a b c d e f : PF} (h : fs.map FD.pf = [a, b, c, d, e, f]) : ∃ x y z u v s, fs = [x, y, z, u, v, s] ∧ x.pf = a ∧ y.pf = b ∧ z.pf = c ∧ u.pf = d ∧ v.pf = e ∧ s.pf = f := by
  match fs, h with
  | [x, y, z, u, v, s], h => simp at h; exact ⟨x, y, z, u, v, s, rfl, h⟩
theorem pf_text {f : FD} {p : PF} (h : f.pf = p) : f.text = p.text := congrArg PF.text h
theorem pf_n {f : FD} {p : PF} (h : f.pf = p) : f.n = p.n := congrArg PF.n h
theorem str_pT {f : FD} {s : ByteArray} (h : f.pf = pT s) : s = strOfNums f.text := by rw [pf_text h]; exact (str_sOf s).symm
theorem on_pB {f : FD} {b : Bool} (h : f.pf = pB b) : b = decide (f.n = 1) := by rw [pf_n h]; cases b <;> rfl
/-- The parts put are the fields of the kind. -/
theorem put_parts (m : RQ) (fs : List FD) (k : Nat) (h1 : 1 ≤ k) (h2 : k ≤ 10) (h : fs.map FD.pf = partsR m k) : SameR (putR (firstR k) k fs) (ownK m k) := by
  rcases k10 h1 h2 with rfl | rfl | rfl | rfl | rfl | rfl | rfl | rfl | rfl | rfl
  · obtain ⟨a, b, c, d, e, f, rfl, ha, hb, hc, hd, he, hf⟩ := fs6 h
    exact ⟨rfl, str_pT ha, rfl, rfl, (pf_n hb).symm, (pf_n hc).symm, (pf_n hd).symm, (pf_n he).symm, rfl, rfl, (pf_text hf).symm⟩
  · obtain ⟨a, b, rfl, ha, hb⟩ := fs2 h
    exact ⟨rfl, str_pT ha, str_pT hb, rfl, rfl, rfl, rfl, rfl, rfl, rfl, rfl⟩
  · exact SameR.refl _
  · obtain ⟨a, rfl, ha⟩ := fs1 h
    exact ⟨rfl, str_pT ha, rfl, rfl, rfl, rfl, rfl, rfl, rfl, rfl, rfl⟩
  · obtain ⟨a, rfl, ha⟩ := fs1 h
    exact ⟨rfl, str_pT ha, rfl, rfl, rfl, rfl, rfl, rfl, rfl, rfl, rfl⟩
  · obtain ⟨b, c, d, e, rfl, hb, hc, hd, he⟩ := fs4 h
    exact ⟨rfl, rfl, rfl, rfl, (pf_n hb).symm, (pf_n hc).symm, (pf_n hd).symm, (pf_n he).symm, rfl, rfl, rfl⟩
  · obtain ⟨a, rfl, ha⟩ := fs1 h
    exact ⟨rfl, rfl, rfl, rfl, rfl, rfl, rfl, rfl, on_pB ha, rfl, rfl⟩
  · obtain ⟨a, rfl, ha⟩ := fs1 h
    exact ⟨rfl, str_pT ha, rfl, rfl, rfl, rfl, rfl, rfl, rfl, rfl, rfl⟩
  · obtain ⟨a, rfl, ha⟩ := fs1 h
    exact ⟨rfl, rfl, rfl, rfl, rfl, rfl, rfl, rfl, rfl, (pf_n ha).symm, rfl⟩
  · obtain ⟨a, b, c, d, rfl, ha, hb, hc, hd⟩ := fs4 h
    exact ⟨rfl, str_pT ha, str_pT hc, str_pT hd, rfl, rfl, rfl, rfl, on_pB hb, rfl, rfl⟩
theorem own_pT {f : FD} (hk : f.pf.kind = 4) (ho : ownP f.pf = f.pf) (hb : InB f.text) : pT (strOfNums f.text) = f.pf := by
  have hu := u8i_str hb
  obtain ⟨fk, fn, fA, fc, ft, fB, fd, fl⟩ := f
  have e : FD.pf ⟨fk, fn, fA, fc, ft, fB, fd, fl⟩ = ⟨fk, fn, ft, fl⟩ := rfl
  rw [e] at ho hk ⊢
  dsimp only at hk hu ⊢
  subst hk
  rw [← ho]
  show (⟨4, 0, u8i (strOfNums ft).data.toList, []⟩ : PF) = _
  rw [hu]
  rfl
theorem own_pX {f : FD} (hk : f.pf.kind = 4) (ho : ownP f.pf = f.pf) : (⟨4, 0, f.text, []⟩ : PF) = f.pf := by
  obtain ⟨fk, fn, fA, fc, ft, fB, fd, fl⟩ := f
  have e : FD.pf ⟨fk, fn, fA, fc, ft, fB, fd, fl⟩ = ⟨fk, fn, ft, fl⟩ := rfl
  rw [e] at ho hk ⊢
  dsimp only at hk ⊢
  subst hk
  exact ho
theorem own_pN {f : FD} (hk : f.pf.kind = 3) (ho : ownP f.pf = f.pf) : pN f.n = f.pf := by
  obtain ⟨fk, fn, fA, fc, ft, fB, fd, fl⟩ := f
  have e : FD.pf ⟨fk, fn, fA, fc, ft, fB, fd, fl⟩ = ⟨fk, fn, ft, fl⟩ := rfl
  rw [e] at ho hk ⊢
  dsimp only at hk ⊢
  subst hk
  exact ho
theorem own_pB {f : FD} (hk : f.pf.kind = 2) (ho : ownP f.pf = f.pf) (hf : faultP f.pf = 0) (hn : 0 ≤ f.n) : pB (decide (f.n = 1)) = f.pf := by
  obtain ⟨fk, fn, fA, fc, ft, fB, fd, fl⟩ := f
  have e : FD.pf ⟨fk, fn, fA, fc, ft, fB, fd, fl⟩ = ⟨fk, fn, ft, fl⟩ := rfl
  rw [e] at ho hk hf ⊢
  dsimp only at hk hn ⊢
  subst hk
  have := over_ok (show over fn 1 5 = 0 from hf) (by decide)
  have h01 : fn = 0 ∨ fn = 1 := by omega
  rw [← ho]
  rcases h01 with rfl | rfl <;> rfl
def GoodF (f : FD) : Prop := ownP f.pf = f.pf ∧ faultP f.pf = 0 ∧ 0 ≤ f.n ∧ InB f.text
theorem ks1 {fs : List FD} {a : Int} (h : fs.map (fun f => f.pf.kind) = [a]) : ∃ x, fs = [x] ∧ x.pf.kind = a := by
  match fs, h with
  | [x], h => simp at h; exact ⟨x, rfl, h⟩
theorem ks2 {fs : List FD} {a b : Int} (h : fs.map (fun f => f.pf.kind) = [a, b]) : ∃ x y, fs = [x, y] ∧ x.pf.kind = a ∧ y.pf.kind = b := by
  match fs, h with
  | [x, y], h => simp at h; exact ⟨x, y, rfl, h⟩
theorem ks4 {fs : List FD} {a b c d : Int} (h : fs.map (fun f => f.pf.kind) = [a, b, c, d]) : ∃ x y z u, fs = [x, y, z, u] ∧ x.pf.kind = a ∧ y.pf.kind = b ∧ z.pf.kind = c ∧ u.pf.kind = d := by
  match fs, h with
  | [x, y, z, u], h => simp at h; exact ⟨x, y, z, u, rfl, h⟩
theorem ks6 {fs : List FD} {a b c d e f : Int} (h : fs.map (fun f => f.pf.kind) = [a, b, c, d, e, f]) : ∃ x y z u v s, fs = [x, y, z, u, v, s] ∧ x.pf.kind = a ∧ y.pf.kind = b ∧ z.pf.kind = c ∧ u.pf.kind = d ∧ v.pf.kind = e ∧ s.pf.kind = f := by
  match fs, h with
  | [x, y, z, u, v, s], h => simp at h; exact ⟨x, y, z, u, v, s, rfl, h⟩
/-- What was put is got. -/
theorem parts_put (fs : List FD) (k : Nat) (h1 : 1 ≤ k) (h2 : k ≤ 10) (h : fs.map (fun f => f.pf.kind) = rkinds k) (hg : ∀ f ∈ fs, GoodF f) : fs.map FD.pf = partsR (putR (firstR k) k fs) k := by
  rcases k10 h1 h2 with rfl | rfl | rfl | rfl | rfl | rfl | rfl | rfl | rfl | rfl
  · obtain ⟨a, b, c, d, e, f, rfl, ka, kb, kc, kd, ke, kf⟩ := ks6 h
    have ga := hg a (by simp)
    have gb := hg b (by simp)
    have gc := hg c (by simp)
    have gd := hg d (by simp)
    have ge := hg e (by simp)
    have gf := hg f (by simp)
    show [a.pf, b.pf, c.pf, d.pf, e.pf, f.pf] = [pT (strOfNums a.text), pN b.n, pN c.n, pN d.n, pN e.n, ⟨4, 0, f.text, []⟩]
    rw [own_pT ka ga.1 ga.2.2.2, own_pN kb gb.1, own_pN kc gc.1, own_pN kd gd.1, own_pN ke ge.1, own_pX kf gf.1]
  · obtain ⟨a, b, rfl, ka, kb⟩ := ks2 h
    have ga := hg a (by simp)
    have gb := hg b (by simp)
    show [a.pf, b.pf] = [pT (strOfNums a.text), pT (strOfNums b.text)]
    rw [own_pT ka ga.1 ga.2.2.2, own_pT kb gb.1 gb.2.2.2]
  · match fs, h with
    | [], _ => rfl
  · obtain ⟨a, rfl, ka⟩ := ks1 h
    have ga := hg a (by simp)
    show [a.pf] = [pT (strOfNums a.text)]
    rw [own_pT ka ga.1 ga.2.2.2]
  · obtain ⟨a, rfl, ka⟩ := ks1 h
    have ga := hg a (by simp)
    show [a.pf] = [pT (strOfNums a.text)]
    rw [own_pT ka ga.1 ga.2.2.2]
  · obtain ⟨b, c, d, e, rfl, kb, kc, kd, ke⟩ := ks4 h
    have gb := hg b (by simp)
    have gc := hg c (by simp)
    have gd := hg d (by simp)
    have ge := hg e (by simp)
    show [b.pf, c.pf, d.pf, e.pf] = [pN b.n, pN c.n, pN d.n, pN e.n]
    rw [own_pN kb gb.1, own_pN kc gc.1, own_pN kd gd.1, own_pN ke ge.1]
  · obtain ⟨a, rfl, ka⟩ := ks1 h
    have ga := hg a (by simp)
    show [a.pf] = [pB (decide (a.n = 1))]
    rw [own_pB ka ga.1 ga.2.1 ga.2.2.1]
  · obtain ⟨a, rfl, ka⟩ := ks1 h
    have ga := hg a (by simp)
    show [a.pf] = [pT (strOfNums a.text)]
    rw [own_pT ka ga.1 ga.2.2.2]
  · obtain ⟨a, rfl, ka⟩ := ks1 h
    have ga := hg a (by simp)
    show [a.pf] = [pN a.n]
    rw [own_pN ka ga.1]
  · obtain ⟨a, b, c, d, rfl, ka, kb, kc, kd⟩ := ks4 h
    have ga := hg a (by simp)
    have gb := hg b (by simp)
    have gc := hg c (by simp)
    have gd := hg d (by simp)
    show [a.pf, b.pf, c.pf, d.pf] = [pT (strOfNums a.text), pB (decide (b.n = 1)), pT (strOfNums c.text), pT (strOfNums d.text)]
    rw [own_pT ka ga.1 ga.2.2.2, own_pB kb gb.1 gb.2.1 gb.2.2.1, own_pT kc gc.1 gc.2.2.2, own_pT kd gd.1 gd.2.2.2]
/-- What Encode answers. -/
def encR (m : RQ) : Int × List Int := if 1 ≤ m.kind ∧ m.kind ≤ 10 then if askR m m.kind.toNat ≠ 0 then (askR m m.kind.toNat, []) else writeP (partsR m m.kind.toNat) else (8, [])
/-- The name that goes with it. -/
def encName (m : RQ) : ByteArray := if (encR m).1 = 0 then rname m.kind.toNat else ⟨#[]⟩
/-- The kind of a name. -/
def kindL (l : List UInt8) : Option Nat :=
  if l = rnameL 1 then some 1 else if l = rnameL 2 then some 2 else if l = rnameL 3 then some 3 else if l = rnameL 4 then some 4 else if l = rnameL 5 then some 5 else
  if l = rnameL 6 then some 6 else if l = rnameL 7 then some 7 else if l = rnameL 8 then some 8 else if l = rnameL 9 then some 9 else if l = rnameL 10 then some 10 else none
/-- What Decode answers, of a kind. -/
def DecK (k : Nat) (l : List Int) (m : RQ) (E : Int) : Prop :=
  if (readP (rkinds k) l).1 ≠ 0 then E = (readP (rkinds k) l).1 ∧ m = zeroR
  else ∃ fs : List FD, fs.map FD.pf = (readP (rkinds k) l).2 ∧ if askR (putR (firstR k) k fs) k = 0 then E = 0 ∧ m = putR (firstR k) k fs else E = askR (putR (firstR k) k fs) k ∧ m = zeroR
def DecR (name : ByteArray) (l : List Int) (m : RQ) (E : Int) : Prop :=
  match kindL name.data.toList with
  | none => E = 8 ∧ m = zeroR
  | some k => DecK k l m E
theorem kindL_name (k : Nat) (h1 : 1 ≤ k) (h2 : k ≤ 10) : kindL (rnameL k) = some k := by
  rcases k10 h1 h2 with rfl | rfl | rfl | rfl | rfl | rfl | rfl | rfl | rfl | rfl <;> decide
theorem kindL_s (k : Nat) (h1 : 1 ≤ k) (h2 : k ≤ 10) : kindL (rnameL k ++ [115]) = none := by
  rcases k10 h1 h2 with rfl | rfl | rfl | rfl | rfl | rfl | rfl | rfl | rfl | rfl <;> decide
theorem kindL_range {l : List UInt8} {k : Nat} (h : kindL l = some k) : 1 ≤ k ∧ k ≤ 10 ∧ l = rnameL k := by
  unfold kindL at h
  repeat' (split at h)
  all_goals first
    | (injection h with h; subst h; exact ⟨by decide, by decide, by assumption⟩)
    | cases h
theorem rname_inj {i j : Nat} (h1 : 1 ≤ i) (h2 : i ≤ 10) (g1 : 1 ≤ j) (g2 : j ≤ 10) (h : rnameL i = rnameL j) : i = j := by
  have := kindL_name i h1 h2
  rw [h, kindL_name j g1 g2] at this
  injection this with this
  exact this.symm
theorem dec_zero {k : Nat} {l : List Int} {m : RQ} {E : Int} (h : DecK k l m E) (hE : E ≠ 0) : m = zeroR := by
  unfold DecK at h
  split at h
  · exact h.2
  · obtain ⟨fs, _, h⟩ := h
    split at h
    · exact absurd h.1 hE
    · exact h.2
theorem decR_zero {s : ByteArray} {l : List Int} {m : RQ} {E : Int} (h : DecR s l m E) (hE : E ≠ 0) : m = zeroR := by
  unfold DecR at h
  split at h
  · exact h.2
  · exact dec_zero h hE
theorem encR_ok {m : RQ} (hz : (encR m).1 = 0) : ∃ k : Nat, 1 ≤ k ∧ k ≤ 10 ∧ m.kind = (k : Int) ∧ askR m k = 0 ∧ OkP (partsR m k) ∧ (encR m).2 = (partsR m k).flatMap bytesP ∧ encName m = rname k := by
  have hz0 := hz
  unfold encR at hz
  split at hz
  case isFalse => exact absurd hz (by decide)
  rename_i hk
  split at hz
  · rename_i h0
    exact absurd hz h0
  rename_i h0
  obtain ⟨k, hkk⟩ := Int.eq_ofNat_of_zero_le (show 0 ≤ m.kind by omega)
  have hn : encName m = rname m.kind.toNat := if_pos hz0
  have he : encR m = writeP (partsR m m.kind.toNat) := by unfold encR; rw [if_pos hk, if_neg h0]
  rw [hkk, Int.toNat_natCast] at h0 hz hn he
  have hok : OkP (partsR m k) := by
    apply Classical.byContradiction
    intro hb
    obtain ⟨e, he, hw⟩ := writeP_bad hb
    rw [hw] at hz
    exact he hz
  exact ⟨k, by omega, by omega, hkk, by simpa using h0, hok, by rw [he, writeP_ok hok], hn⟩
theorem encR_bad {m : RQ} (hz : (encR m).1 ≠ 0) : (encR m).2 = [] := by
  unfold encR at hz ⊢
  split
  · rename_i hk
    rw [if_pos hk] at hz
    split
    · rfl
    · rename_i h0
      rw [if_neg h0] at hz
      by_cases ho : OkP (partsR m m.kind.toNat)
      · rw [writeP_ok ho] at hz
        exact absurd rfl hz
      · obtain ⟨e, _, hw⟩ := writeP_bad ho
        rw [hw]
  · rfl
theorem rname_data (k : Nat) : (rname k).data.toList = rnameL k := rfl
/-- What is encoded is decoded, with the fields of its kind. -/
theorem rback_law {m x : RQ} {E : Int} (hn : RNums m) (hz : (encR m).1 = 0) (h : DecR (encName m) (encR m).2 x E) :
    E = 0 ∧ SameR x (ownK m m.kind.toNat) ∧ (encR m).2.length ≤ 33792 := by
  obtain ⟨k, h1, h2, hk, ha, ho, he, hnm⟩ := encR_ok hz
  rw [hnm, he] at h
  unfold DecR at h
  rw [rname_data, kindL_name k h1 h2] at h
  dsimp only at h
  have hb := back_law _ ho (parts_n hn k h1 h2)
  rw [parts_kinds m k h1 h2, parts_own m k h1 h2] at hb
  unfold DecK at h
  rw [hb, if_neg (by simp)] at h
  obtain ⟨fs, e1, h⟩ := h
  have hs := put_parts m fs k h1 h2 e1
  rw [if_pos (by rw [← askR_same hs k h1 h2, ask_own m k h1 h2]; exact ha)] at h
  refine ⟨h.1, ?_, by rw [he]; exact ho.2.2⟩
  rw [h.2, hk, Int.toNat_natCast]
  exact hs
theorem kind_put (k : Nat) (fs : List FD) : (putR (firstR k) k fs).kind = k := by
  unfold putR
  split <;> rfl
/-- What is decoded is encoded again. -/
theorem ragain_law {s : ByteArray} {l : List Int} {m : RQ} (hl : InB l) (hm : l.length ≤ 33792) (h : DecR s l m 0) :
    (encR m).1 = 0 ∧ (encR m).2.length = l.length ∧ encName m = s ∧ SameR m (ownK m m.kind.toNat) := by
  unfold DecR at h
  split at h
  · exact absurd h.1 (by decide)
  rename_i k hr
  obtain ⟨h1, h2, hs⟩ := kindL_range hr
  unfold DecK at h
  split at h
  · rename_i h0
    exact absurd h.1.symm h0
  rename_i h0
  obtain ⟨fs, e1, h⟩ := h
  split at h
  case isFalse => rename_i hq; exact absurd h.1.symm hq
  rename_i hf
  have hm2 := h.2
  have hq := (readP_good (rkinds k) l hl (by omega)).2
  have hown := readP_own (rkinds k) l
  rcases again_law (rkinds k) l hl hm with g | ⟨_, g1, g2, g3, g4⟩
  · exact absurd g.1 h0
  rw [← e1] at g1 g2 g3 g4 hq hown
  have gf : ∀ g ∈ fs, GoodF g := fun g hg => by
    have hy : g.pf ∈ List.map FD.pf fs := List.mem_map_of_mem hg
    exact ⟨hown _ hy, (g3 _ hy).2.2.1, (g3 _ hy).2.2.2.1, (hq _ hy).2⟩
  have hparts := parts_put fs k h1 h2 (by rw [List.map_map] at g1; exact g1) gf
  rw [← hm2] at hparts hf
  have hkind : m.kind = k := by rw [hm2, kind_put]
  have he : encR m = (0, (partsR m k).flatMap bytesP) := by
    unfold encR
    rw [if_pos (by omega), hkind, Int.toNat_natCast, if_neg (by simpa using hf)]
    refine writeP_ok ?_
    rw [← hparts]
    exact g2
  refine ⟨by rw [he], ?_, ?_, ?_⟩
  · rw [he, ← hparts]
    exact g4.len
  · have : encName m = rname m.kind.toNat := if_pos (by rw [he])
    rw [this, hkind, Int.toNat_natCast]
    exact bytes_ext (by rw [rname_data, hs])
  · have := put_parts m fs k h1 h2 hparts
    rw [← hm2] at this
    rw [hkind, Int.toNat_natCast]
    exact this
end Go.Proofs.YtkgikodiecmakaaGreatDoor

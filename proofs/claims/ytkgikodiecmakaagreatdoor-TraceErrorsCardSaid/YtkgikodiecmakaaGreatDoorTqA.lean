/- Layer 3: a message, as it lies in memory; no condition · Layer 29: a watch: what it holds, where that lies, what comes of messages; plain; no condition · Layer 29: the tables of what is heard; no condition · Layer 29: the channel of a server's number, what a client says; for all watches and messages; no condition but that the numbers are right · Layer 29: what a client says; for all watches and messages; no condition but that what waits is not too much · Layer 29: what a client says; for all watches and messages; no condition but that what waits is not too much · Layer 4: what is decoded is one; plain; no condition · Layer 4: the rules of all kinds; no condition · Layer 1: Write; for all fields (of a number that the laws ask), no condition · Layer 1's own examples: they hold; no condition. -/
import Derived.Test.YtkgikodiecmakaaGreatDoorU
import Derived.Test.YtkgikodiecmakaaGreatDoorReads
import Derived.Test.YtkgikodiecmakaaGreatDoorApp3
import Derived.Test.YtkgikodiecmakaaGreatDoorEngAR
import Derived.Test.YtkgikodiecmakaaGreatDoorReqP
import Derived.Test.YtkgikodiecmakaaGreatDoorEngL
import Derived.Test.YtkgikodiecmakaaGreatDoorOctQ
import Derived.Laws.EntriesVeiled
import Derived.Laws.Tables
import Derived.Test.YtkgikodiecmakaaGreatDoorOctR
import Derived.Deep.OwnRows
import Derived.Lib.SmallJoins
import Derived.Laws.IdiomStrings
namespace Go.Proofs.YtkgikodiecmakaaGreatDoor
set_option linter.all false
open Go.RowKit
structure MD where
  kind : Int
  chan : Int
  sender : Int
  window : Int
  packet : Int
  code : Int
  name : ByteArray
  lang : ByteArray
  want : Bool
  dA : Option Addr
  dc : Nat
  data : List Int
def MD.cells (m : MD) : List Value := [.int .i64 m.kind, .int .u32 m.chan, .int .u32 m.sender, .int .u32 m.window, .int .u32 m.packet, .int .u32 m.code, .string m.name, .string m.lang, .bool m.want, .slice m.dA m.data.length m.dc]
def MD.val (m : MD) : Value := .agg #[.int .i64 m.kind, .int .u32 m.chan, .int .u32 m.sender, .int .u32 m.window, .int .u32 m.packet, .int .u32 m.code, .string m.name, .string m.lang, .bool m.want, .slice m.dA m.data.length m.dc]

structure MD.ok (w : World) (m : MD) : Prop where
  data : RdG (.int .u8) w m.dA m.data
  dle : m.data.length ≤ m.dc
  dmax : m.dc ≤ maxLen
  bytes : ∀ x ∈ m.data, 0 ≤ x ∧ x < 256
  nums : U32 m.chan ∧ U32 m.sender ∧ U32 m.window ∧ U32 m.packet ∧ U32 m.code
  name : m.name.size ≤ maxLen
  lang : m.lang.size ≤ maxLen
theorem MD.ok.only {w w' : World} {m : MD} (h : m.ok w) (hb : Only [] w w') : m.ok w' := { h with data := h.data.only hb }
end Go.Proofs.YtkgikodiecmakaaGreatDoor

namespace Go.Proofs.YtkgikodiecmakaaGreatDoor
set_option linter.all false
set_option maxRecDepth 100000
open Go.RowKit Go.MapKept

/-! Lists by keys. -/
section
variable {κ α γ : Type} [DecidableEq κ]
def lookA (k : κ) : List (κ × α) → Option α
  | [] => none
  | p :: l => if p.1 = k then some p.2 else lookA k l
def setA (k : κ) (v : α) : List (κ × α) → List (κ × α)
  | [] => [(k, v)]
  | p :: l => if p.1 = k then (k, v) :: l else p :: setA k v l
def mapA (f : α → γ) (l : List (κ × α)) : List (κ × γ) := l.map fun p => (p.1, f p.2)
theorem lookA_map (f : α → γ) (k : κ) : ∀ l : List (κ × α), lookA k (mapA f l) = (lookA k l).map f
  | [] => rfl
  | p :: l => by
    have ih := lookA_map f k l
    unfold mapA at ih ⊢
    rw [List.map_cons]
    unfold lookA
    by_cases h : p.1 = k
    · simp [h]
    · simp only [h, if_false]; exact ih
theorem setA_map (f : α → γ) (k : κ) (v : α) : ∀ l : List (κ × α), setA k (f v) (mapA f l) = mapA f (setA k v l)
  | [] => rfl
  | p :: l => by
    have ih := setA_map f k v l
    unfold mapA at ih ⊢
    rw [List.map_cons]
    unfold setA
    by_cases h : p.1 = k
    · simp [h]
    · simp only [h, if_false]; rw [ih]; rfl
theorem lookM_A (f : α → Value) (k : κ) : ∀ l : List (κ × α), lookM k (mapA f l) = (lookA k l).map f
  | [] => rfl
  | p :: l => by
    have ih := lookM_A f k l
    unfold mapA at ih ⊢
    rw [List.map_cons]
    unfold lookA lookM
    by_cases h : p.1 = k
    · simp [h]
    · simp only [h, if_false]; exact ih
theorem setE_A (f : α → Value) (k : κ) (v : α) : ∀ l : List (κ × α), setE k (f v) (mapA f l) = mapA f (setA k v l)
  | [] => rfl
  | p :: l => by
    have ih := setE_A f k v l
    unfold mapA at ih ⊢
    rw [List.map_cons]
    unfold setA setE
    by_cases h : p.1 = k
    · simp [h]
    · simp only [h, if_false]; rw [ih]; rfl
theorem lookA_setA (k j : κ) (v : α) : ∀ l : List (κ × α), lookA j (setA k v l) = if k = j then some v else lookA j l
  | [] => rfl
  | p :: l => by
    have ih := lookA_setA k j v l
    unfold setA
    by_cases h : p.1 = k
    · rw [if_pos h]
      by_cases e : k = j
      · rw [if_pos e]; unfold lookA; rw [if_pos e]
      · rw [if_neg e]; unfold lookA; rw [if_neg e, if_neg (by rw [h]; exact e)]
    · rw [if_neg h]
      by_cases e : p.1 = j
      · unfold lookA; rw [if_pos e, if_pos e, if_neg (by rw [← e]; exact fun x => h x.symm)]
      · unfold lookA; rw [if_neg e, if_neg e, ih]
theorem lookA_mem {k : κ} {v : α} : ∀ {l : List (κ × α)}, lookA k l = some v → (k, v) ∈ l
  | [], h => by cases h
  | p :: l, h => by
    unfold lookA at h
    split at h
    · rename_i e; injection h with h; subst h; subst e; exact List.mem_cons_self
    · exact List.mem_cons_of_mem _ (lookA_mem h)
theorem mem_setA {k : κ} {v : α} {p : κ × α} : ∀ {l : List (κ × α)}, p ∈ setA k v l → p = (k, v) ∨ p ∈ l
  | [], h => by simp [setA] at h; exact .inl h
  | q :: l, h => by
    unfold setA at h
    split at h
    · rcases List.mem_cons.1 h with h | h
      · exact .inl h
      · exact .inr (List.mem_cons_of_mem _ h)
    · rcases List.mem_cons.1 h with h | h
      · exact .inr (by rw [h]; exact List.mem_cons_self)
      · exact (mem_setA h).imp id (List.mem_cons_of_mem _)
theorem keys_setA {k : κ} {v : α} : ∀ {l : List (κ × α)}, (setA k v l).map (·.1) = if (lookA k l).isSome then l.map (·.1) else l.map (·.1) ++ [k]
  | [] => rfl
  | q :: l => by
    have ih := keys_setA (k := k) (v := v) (l := l)
    unfold setA lookA
    by_cases h : q.1 = k
    · simp [h]
    · simp only [h, if_false, List.map_cons, ih]
      split <;> rfl
/-- The entries' keys are apart. -/
def KeysA (l : List (κ × α)) : Prop := (l.map (·.1)).Nodup
theorem lookA_none {k : κ} : ∀ {l : List (κ × α)}, lookA k l = none → k ∉ l.map (·.1)
  | [], _ => by simp
  | q :: l, h => by
    unfold lookA at h
    split at h
    · cases h
    · rename_i e
      have := lookA_none h
      simp only [List.map_cons, List.mem_cons, not_or]
      exact ⟨fun x => e x.symm, this⟩
theorem KeysA.set {k : κ} {v : α} {l : List (κ × α)} (h : KeysA l) : KeysA (setA k v l) := by
  unfold KeysA at *
  rw [keys_setA]
  split
  · exact h
  · rename_i e
    have : lookA k l = none := by simpa using e
    rw [List.nodup_append]
    refine ⟨h, by simp, fun a ha b hb => ?_⟩
    simp only [List.mem_singleton] at hb
    subst hb
    intro e2
    subst e2
    exact lookA_none this ha
theorem KeysA.other {k : κ} {v : α} {p : κ × α} : ∀ {l : List (κ × α)}, KeysA l → p ∈ setA k v l → p = (k, v) ∨ (p ∈ l ∧ p.1 ≠ k)
  | [], _, h => by simp [setA] at h; exact .inl h
  | q :: l, hk, h => by
    unfold KeysA at hk
    rw [List.map_cons, List.nodup_cons] at hk
    unfold setA at h
    split at h
    · rename_i e
      rcases List.mem_cons.1 h with h | h
      · exact .inl h
      · refine .inr ⟨List.mem_cons_of_mem _ h, fun e2 => hk.1 ?_⟩
        rw [e, ← e2]
        exact List.mem_map_of_mem h
    · rename_i e
      rcases List.mem_cons.1 h with h | h
      · exact .inr ⟨by rw [h]; exact List.mem_cons_self, by rw [h]; exact e⟩
      · exact (KeysA.other hk.2 h).imp id fun h => ⟨List.mem_cons_of_mem _ h.1, h.2⟩
/-- Whose blocks they are. -/
def fpA (f : α → List Nat) (l : List (κ × α)) : List Nat := l.flatMap fun p => f p.2
theorem fpA_mem {f : α → List Nat} {k : κ} {v : α} {y : Nat} {l : List (κ × α)} (h : lookA k l = some v) (hy : y ∈ f v) : y ∈ fpA f l := List.mem_flatMap.2 ⟨_, lookA_mem h, hy⟩
theorem fpA_set {f : α → List Nat} {k : κ} {v : α} {y : Nat} {l : List (κ × α)} (h : y ∈ fpA f (setA k v l)) : y ∈ f v ∨ y ∈ fpA f l := by
  obtain ⟨p, hp, hy⟩ := List.mem_flatMap.1 h
  rcases mem_setA hp with e | e
  · subst e; exact .inl hy
  · exact .inr (List.mem_flatMap.2 ⟨p, e, hy⟩)
theorem fpA_nodup {f : α → List Nat} {k : κ} {v : α} : ∀ {l : List (κ × α)}, (fpA f l).Nodup → (f v).Nodup → (∀ y ∈ f v, y ∉ fpA f l ∨ ∃ o, lookA k l = some o ∧ y ∈ f o) → (fpA f (setA k v l)).Nodup
  | [], _, h, _ => by simpa [fpA, setA] using h
  | p :: l, hn, hf, hv => by
    have e : fpA f (p :: l) = f p.2 ++ fpA f l := by simp [fpA]
    rw [e, List.nodup_append] at hn
    unfold setA
    by_cases hk : p.1 = k
    · rw [if_pos hk]
      have e2 : fpA f ((k, v) :: l) = f v ++ fpA f l := by simp [fpA]
      rw [e2, List.nodup_append]
      refine ⟨hf, hn.2.1, fun a ha b hb e3 => ?_⟩
      subst e3
      rcases hv a ha with h | ⟨o, h1, h2⟩
      · rw [e] at h; exact h (List.mem_append.2 (.inr hb))
      · unfold lookA at h1
        rw [if_pos hk] at h1
        injection h1 with h1
        subst h1
        exact hn.2.2 a h2 a hb rfl
    · rw [if_neg hk]
      have e2 : fpA f (p :: setA k v l) = f p.2 ++ fpA f (setA k v l) := by simp [fpA]
      rw [e2, List.nodup_append]
      have hv' : ∀ y ∈ f v, y ∉ fpA f l ∨ ∃ o, lookA k l = some o ∧ y ∈ f o := fun y hy => by
        rcases hv y hy with h | ⟨o, h1, h2⟩
        · rw [e] at h; exact .inl fun h3 => h (List.mem_append.2 (.inr h3))
        · unfold lookA at h1; rw [if_neg hk] at h1; exact .inr ⟨o, h1, h2⟩
      refine ⟨hn.1, fpA_nodup hn.2.1 hf hv', fun a ha b hb e3 => ?_⟩
      subst e3
      rcases fpA_set hb with h | h
      · rcases hv a h with h4 | ⟨o, h1, h2⟩
        · rw [e] at h4; exact h4 (List.mem_append.2 (.inl ha))
        · unfold lookA at h1
          rw [if_neg hk] at h1
          exact hn.2.2 a ha a (fpA_mem h1 h2) rfl
      · exact hn.2.2 a ha a h rfl
end

/-! The watch. -/
structure EN where
  chan : Int
  granted : Int
  sent : Int
  packet : Int
  eof : Bool
  closed : Bool
  told : Bool
  wants : Int
def EN.sc (x : EN) : List SC := [.v (.int .u32 x.chan), .v (.int .u64 x.granted), .v (.int .u64 x.sent), .v (.int .u32 x.packet), .v (.bool x.eof), .v (.bool x.closed), .v (.bool x.told), .v (.int .i64 x.wants)]
def EN.cells (x : EN) : List Value := [.int .u32 x.chan, .int .u64 x.granted, .int .u64 x.sent, .int .u32 x.packet, .bool x.eof, .bool x.closed, .bool x.told, .int .i64 x.wants]
/-- What was asked with an Open: window, packet. -/
structure OS where
  A : Option Addr
  cap : Nat
  l : List (Int × Int)
def cOp (x : Int × Int) : List Value := [.int .i64 0, .int .u32 0, .int .u32 0, .int .u32 x.1, .int .u32 x.2, .int .u32 0, .string ⟨#[]⟩, .string ⟨#[]⟩, .bool false, .slice none 0 0]
def OS.val (o : OS) : Value := .slice o.A o.l.length o.cap
def OS.fp (o : OS) : List Nat := bkO o.A
def OS.at (w : World) (o : OS) : Prop := OwnO cOp 36 10 w o.A o.cap o.l
structure WM where
  ob : Nat
  eb : Nat
  nb : Nat
  opens : List (Int × OS)
  glob : Int
  ends : List (Int × (Nat × EN))
  nums : List (Int × Int)
  dead : Bool
def WM.cells (M : WM) : List Value := [.map (some M.ob), .int .i64 M.glob, .map (some M.eb), .map (some M.nb), .bool M.dead]
def eFp (x : Nat × EN) : List Nat := [x.1]
def ptrV (b : Nat) : Value := .pointer (some ⟨b, 0, none⟩)
def u32V (x : Int) : Value := .int .u32 x
def WM.fp (M : WM) (p : Nat) : List Nat := [p, M.ob, M.eb, M.nb] ++ (fpA OS.fp M.opens ++ fpA eFp M.ends)
structure WAt (w : World) (p : Nat) (M : WM) : Prop where
  blk : Blk w p 55 M.cells
  mo : MapM (kI .u32) w M.ob (mapA OS.val M.opens)
  me : MapM (kI .u32) w M.eb (mapA (fun x => ptrV x.1) M.ends)
  mn : MapM (kI .u32) w M.nb (mapA u32V M.nums)
  os : ∀ x ∈ M.opens, x.2.at w
  es : ∀ x ∈ M.ends, Blk w x.2.1 49 x.2.2.cells
  nd : (M.fp p).Nodup
  ko : KeysA M.opens
  ke : KeysA M.ends
  kn : KeysA M.nums
theorem OS.at_st {o : OS} : StX o.fp (fun w => o.at w) := OwnO.st
theorem MapM.stb {κ : Type} {ke : κ → Value} {w w' : World} {r : Nat} {es : List (κ × Value)} (he : w'.heap[r]? = w.heap[r]?) (h : MapM ke w r es) : MapM ke w' r es := by
  obtain ⟨a, clock, hb, hl⟩ := h
  exact ⟨a, clock, he.trans hb, hl⟩
theorem WAt.st {p : Nat} {M : WM} : StX (M.fp p) (fun w => WAt w p M) := fun w w' hs he h =>
  ⟨(he p (by simp [WM.fp])).trans h.blk, MapM.stb (he _ (by simp [WM.fp])) h.mo, MapM.stb (he _ (by simp [WM.fp])) h.me, MapM.stb (he _ (by simp [WM.fp])) h.mn,
    fun x hx => OS.at_st w w' hs (fun y hy => he y (by
      simp only [WM.fp, List.mem_append]
      exact .inr (.inl (List.mem_flatMap.2 ⟨x, hx, hy⟩)))) (h.os x hx),
    fun x hx => (he x.2.1 (by
      simp only [WM.fp, List.mem_append]
      exact .inr (.inr (List.mem_flatMap.2 ⟨x, hx, by simp [eFp]⟩)))).trans (h.es x hx), h.nd, h.ko, h.ke, h.kn⟩
/-! What a watch is, wherever it lies. -/
structure WS where
  opens : List (Int × List (Int × Int))
  glob : Int
  ends : List (Int × EN)
  nums : List (Int × Int)
  dead : Bool
def WM.abs (M : WM) : WS := ⟨mapA OS.l M.opens, M.glob, mapA Prod.snd M.ends, M.nums, M.dead⟩
def newW : WS := ⟨[], 0, [], [], false⟩
def byS (S : WS) (n : Int) : Option (Int × EN) := match lookA n S.nums with
  | none => none
  | some k => (lookA k S.ends).map fun x => (k, x)
def b01 (b : Bool) : Int := if b then 1 else 0
/-- Says. -/
def saysS (S : WS) (m : MD) : WS :=
  if m.kind = 90 then { S with opens := setA m.sender ((lookA m.sender S.opens).getD [] ++ [(m.window, m.packet)]) S.opens }
  else if m.kind = 80 then { S with glob := IntKind.i64.wrap (S.glob + b01 m.want) }
  else if m.kind = 93 then match byS S m.chan with
    | none => S
    | some (k, x) => { S with ends := setA k { x with granted := IntKind.u64.wrap (x.granted + m.window) } S.ends }
  else if m.kind = 98 then match byS S m.chan with
    | none => S
    | some (k, x) => { S with ends := setA k { x with wants := IntKind.i64.wrap (x.wants + b01 m.want) } S.ends }
  else S
/-- What is heard of a channel: the end, an error's number. -/
def endS (x : EN) (m : MD) (ok : Bool) : EN × Int :=
  if m.kind = 94 ∨ m.kind = 95 then
    if x.eof then (x, 9) else if (m.data.length : Int) > x.packet ∨ (m.data.length : Int) > IntKind.u64.wrap (x.granted - x.sent) then (x, 5) else ({ x with sent := IntKind.u64.wrap (x.sent + m.data.length) }, 0)
  else if m.kind = 93 then (x, 0)
  else if m.kind = 96 then if x.eof then (x, 9) else ({ x with eof := true }, 0)
  else if m.kind = 97 then ({ x with closed := true }, 0)
  else if m.kind = 98 then if ¬ ok then (x, 4) else if x.told then (x, 9) else ({ x with told := true }, 0)
  else if x.wants = 0 then (x, 9) else ({ x with wants := IntKind.i64.wrap (x.wants - 1) }, 0)
/-- The first Open of a number, and what is left. -/
def firstS (S : WS) (n : Int) : Option ((Int × Int) × List (Int × Int)) := match lookA n S.opens with
  | some (o :: l) => some (o, l)
  | _ => none
def newE (n : Int) (o : Int × Int) : EN := ⟨n, o.1, 0, o.2, false, false, false, 0⟩
/-- Hears; ok: the request is one of an end. -/
def hearsS (S : WS) (m : MD) (ok : Bool) : WS × Int :=
  if S.dead then (S, 9)
  else if m.kind = 1 then ({ S with dead := true }, 0)
  else if m.kind = 81 ∨ m.kind = 82 then if S.glob = 0 then (S, 9) else ({ S with glob := IntKind.i64.wrap (S.glob - 1) }, 0)
  else if m.kind = 91 then match firstS S m.chan with
    | none => (S, 8)
    | some (o, l) => if (match lookA m.chan S.ends with | some x => !x.closed | none => false) = true then (S, 9)
      else ({ S with opens := setA m.chan l S.opens, ends := setA m.chan (newE m.chan o) S.ends, nums := setA m.sender m.chan S.nums }, 0)
  else if m.kind = 92 then match firstS S m.chan with
    | none => (S, 8)
    | some (o, l) => ({ S with opens := setA m.chan l S.opens }, 0)
  else if m.kind < 93 ∨ m.kind > 100 then (S, 2)
  else match lookA m.chan S.ends with
    | none => (S, 8)
    | some x => if x.closed then (S, 9) else ({ S with ends := setA m.chan (endS x m ok).1 S.ends }, (endS x m ok).2)
/-- The request is one of an end. -/
noncomputable def okEx (m : MD) : Bool := @decide (m.want = false ∧ ∃ r, DecR m.name m.data r 0 ∧ (r.kind = 9 ∨ r.kind = 10)) (Classical.propDecidable _)
def openE (S : WS) (n : Int) : Bool := match lookA n S.ends with
  | some x => !x.closed
  | none => false
end Go.Proofs.YtkgikodiecmakaaGreatDoor

namespace Go.Proofs.YtkgikodiecmakaaGreatDoor
set_option linter.all false
set_option maxRecDepth 100000
open Go.RowKit Go.MapKept
theorem keyH : KeyT Tryz.prog 64 3 41 (.nilFunc) (kI .i64) := ⟨(by kernel_rfl), fun w => by kernel_rfl, ⟨.int .i64, by kernel_rfl, fun a => rfl⟩, kI_inj⟩
def mV (f p : Nat) : Value := .func (.func f) #[ptrV p] #[]
def forL (p : Nat) : List (Int × Value) := [(1, mV 26 p), (81, mV 27 p), (82, mV 27 p), (91, mV 28 p), (92, mV 29 p)]
theorem forL_any (p : Nat) (w : World) : Calls Tryz.prog 20 #[ptrV p] w fun e w' => ∃ r : Nat, e = .returned (.map (some r)) ∧ Only [] w w' ∧ MapM (kI .i64) w' r (forL p) ∧ ∀ a, (some ⟨r, 0, none⟩ : Option Addr) = some a → w.heap.size ≤ a.block ∧ a.block < w'.heap.size := by
  refine Hs.enter Tryz.func20 [] [] [] [.c (.v (ptrV p))] (Mem.start0 w) (by kernel_rfl) (by kernel_rfl) ?_
  refine Hs.run0 300 (fun _ => by kernel_rfl) ?_
  refine Hs.mkM (T := 64) (kI .i64) (by kernel_rfl) (by kernel_rfl) fun r => ?_
  refine Hs.run0 300 (fun _ => by kernel_rfl) ?_
  refine Hs.putM (r := r) (es := []) 0 keyH 1 (mV 26 p) (by kernel_rfl) (by kernel_rfl) (by kernel_rfl) (by kernel_rfl) ?_
  refine Hs.run0 300 (fun _ => by kernel_rfl) ?_
  refine Hs.putM (r := r) (es := [(1, mV 26 p)]) 0 keyH 81 (mV 27 p) (by kernel_rfl) (by kernel_rfl) (by kernel_rfl) (by kernel_rfl) ?_
  refine Hs.run0 300 (fun _ => by kernel_rfl) ?_
  refine Hs.putM (r := r) (es := [(1, mV 26 p), (81, mV 27 p)]) 0 keyH 82 (mV 27 p) (by kernel_rfl) (by kernel_rfl) (by kernel_rfl) (by kernel_rfl) ?_
  refine Hs.run0 300 (fun _ => by kernel_rfl) ?_
  refine Hs.putM (r := r) (es := [(1, mV 26 p), (81, mV 27 p), (82, mV 27 p)]) 0 keyH 91 (mV 28 p) (by kernel_rfl) (by kernel_rfl) (by kernel_rfl) (by kernel_rfl) ?_
  refine Hs.run0 300 (fun _ => by kernel_rfl) ?_
  refine Hs.putM (r := r) (es := [(1, mV 26 p), (81, mV 27 p), (82, mV 27 p), (91, mV 28 p)]) 0 keyH 92 (mV 29 p) (by kernel_rfl) (by kernel_rfl) (by kernel_rfl) (by kernel_rfl) ?_
  refine Hs.run0 300 (fun _ => by kernel_rfl) ?_
  exact Hs.ret (v := .map (some r)) Tryz.func20 (by kernel_rfl) fun w' H => ⟨r, rfl, H.only, H.mapM 0 (es := forL p) (by kernel_rfl), fun a ha => by
    injection ha with ha; subst ha
    exact ⟨(H.own 0 (HB.mp (kI .i64) r (forL p)) r (by kernel_rfl) rfl rfl).resolve_left (by simp), (H.mapM 0 (ke := kI .i64) (r := r) (es := forL p) (by kernel_rfl)).lt⟩⟩
def ofL (p : Nat) : List (Int × Value) := [(94, mV 30 p), (95, mV 30 p), (93, mV 31 p), (96, mV 32 p), (97, mV 33 p), (98, mV 34 p), (99, mV 35 p), (100, mV 35 p)]
theorem ofL_any (p : Nat) (w : World) : Calls Tryz.prog 21 #[ptrV p] w fun e w' => ∃ r : Nat, e = .returned (.map (some r)) ∧ Only [] w w' ∧ MapM (kI .i64) w' r (ofL p) ∧ ∀ a, (some ⟨r, 0, none⟩ : Option Addr) = some a → w.heap.size ≤ a.block ∧ a.block < w'.heap.size := by
  refine Hs.enter Tryz.func21 [] [] [] [.c (.v (ptrV p))] (Mem.start0 w) (by kernel_rfl) (by kernel_rfl) ?_
  refine Hs.run0 300 (fun _ => by kernel_rfl) ?_
  refine Hs.mkM (T := 64) (kI .i64) (by kernel_rfl) (by kernel_rfl) fun r => ?_
  refine Hs.run0 300 (fun _ => by kernel_rfl) ?_
  refine Hs.putM (r := r) (es := []) 0 keyH 94 (mV 30 p) (by kernel_rfl) (by kernel_rfl) (by kernel_rfl) (by kernel_rfl) ?_
  refine Hs.run0 300 (fun _ => by kernel_rfl) ?_
  refine Hs.putM (r := r) (es := [(94, mV 30 p)]) 0 keyH 95 (mV 30 p) (by kernel_rfl) (by kernel_rfl) (by kernel_rfl) (by kernel_rfl) ?_
  refine Hs.run0 300 (fun _ => by kernel_rfl) ?_
  refine Hs.putM (r := r) (es := [(94, mV 30 p), (95, mV 30 p)]) 0 keyH 93 (mV 31 p) (by kernel_rfl) (by kernel_rfl) (by kernel_rfl) (by kernel_rfl) ?_
  refine Hs.run0 300 (fun _ => by kernel_rfl) ?_
  refine Hs.putM (r := r) (es := [(94, mV 30 p), (95, mV 30 p), (93, mV 31 p)]) 0 keyH 96 (mV 32 p) (by kernel_rfl) (by kernel_rfl) (by kernel_rfl) (by kernel_rfl) ?_
  refine Hs.run0 300 (fun _ => by kernel_rfl) ?_
  refine Hs.putM (r := r) (es := [(94, mV 30 p), (95, mV 30 p), (93, mV 31 p), (96, mV 32 p)]) 0 keyH 97 (mV 33 p) (by kernel_rfl) (by kernel_rfl) (by kernel_rfl) (by kernel_rfl) ?_
  refine Hs.run0 300 (fun _ => by kernel_rfl) ?_
  refine Hs.putM (r := r) (es := [(94, mV 30 p), (95, mV 30 p), (93, mV 31 p), (96, mV 32 p), (97, mV 33 p)]) 0 keyH 98 (mV 34 p) (by kernel_rfl) (by kernel_rfl) (by kernel_rfl) (by kernel_rfl) ?_
  refine Hs.run0 300 (fun _ => by kernel_rfl) ?_
  refine Hs.putM (r := r) (es := [(94, mV 30 p), (95, mV 30 p), (93, mV 31 p), (96, mV 32 p), (97, mV 33 p), (98, mV 34 p)]) 0 keyH 99 (mV 35 p) (by kernel_rfl) (by kernel_rfl) (by kernel_rfl) (by kernel_rfl) ?_
  refine Hs.run0 300 (fun _ => by kernel_rfl) ?_
  refine Hs.putM (r := r) (es := [(94, mV 30 p), (95, mV 30 p), (93, mV 31 p), (96, mV 32 p), (97, mV 33 p), (98, mV 34 p), (99, mV 35 p)]) 0 keyH 100 (mV 35 p) (by kernel_rfl) (by kernel_rfl) (by kernel_rfl) (by kernel_rfl) ?_
  refine Hs.run0 300 (fun _ => by kernel_rfl) ?_
  exact Hs.ret (v := .map (some r)) Tryz.func21 (by kernel_rfl) fun w' H => ⟨r, rfl, H.only, H.mapM 0 (es := ofL p) (by kernel_rfl), fun a ha => by
    injection ha with ha; subst ha
    exact ⟨(H.own 0 (HB.mp (kI .i64) r (ofL p)) r (by kernel_rfl) rfl rfl).resolve_left (by simp), (H.mapM 0 (ke := kI .i64) (r := r) (es := ofL p) (by kernel_rfl)).lt⟩⟩
end Go.Proofs.YtkgikodiecmakaaGreatDoor

namespace Go.Proofs.YtkgikodiecmakaaGreatDoor
set_option linter.all false
set_option maxRecDepth 100000
open Go.RowKit Go.MapKept

theorem keyU {et : TypeId} {T : TypeId} {z : Value} (h1 : Tryz.prog.underlying T = some (.map 33 et)) (h2 : ∀ w, (zeroValue et).run Tryz.prog w = .ok z w) : KeyT Tryz.prog T 33 et z (kI .u32) := ⟨h1, h2, ⟨.int .u32, by kernel_rfl, fun a => rfl⟩, kI_inj⟩
theorem keyOp : KeyT Tryz.prog 51 33 28 (.slice none 0 0) (kI .u32) := keyU (by kernel_rfl) (fun w => by kernel_rfl)
theorem keyEn : KeyT Tryz.prog 52 33 57 (.pointer none) (kI .u32) := keyU (by kernel_rfl) (fun w => by kernel_rfl)
theorem keyNu : KeyT Tryz.prog 53 33 33 (.int .u32 0) (kI .u32) := keyU (by kernel_rfl) (fun w => by kernel_rfl)
theorem one_any (b : Bool) (w : World) : Calls Tryz.prog 17 #[.bool b] w fun e w' => e = .returned (.int .i64 (b01 b)) ∧ Only [] w w' := by
  refine Hs.enter Tryz.func17 [] [] [] [.c (.v (.bool b))] (Mem.start0 w) (by kernel_rfl) (by kernel_rfl) ?_
  refine Hs.run0 300 (fun _ => by kernel_rfl) ?_
  refine Hs.cond b (by kernel_rfl) (fun h => ?_) (fun h => ?_)
  · subst h
    refine Hs.run0 300 (fun _ => by kernel_rfl) ?_
    exact Hs.ret (v := .int .i64 1) Tryz.func17 (by kernel_rfl) fun w' H => ⟨rfl, H.only⟩
  · subst h
    refine Hs.run0 300 (fun _ => by kernel_rfl) ?_
    exact Hs.ret (v := .int .i64 0) Tryz.func17 (by kernel_rfl) fun w' H => ⟨rfl, H.only⟩
def WM.by (M : WM) (n : Int) : Option (Int × (Nat × EN)) := match lookA n M.nums with
  | none => none
  | some k => (lookA k M.ends).map fun x => (k, x)
def optV (x : Option Nat) : Value := .pointer (x.map fun b => ⟨b, 0, none⟩)
theorem by_any (M : WM) (p : Nat) (n : Int) (w : World) (hb : Blk w p 55 M.cells) (hn : MapM (kI .u32) w M.nb (mapA u32V M.nums)) (he : MapM (kI .u32) w M.eb (mapA (fun x => ptrV x.1) M.ends)) : Calls Tryz.prog 18 #[ptrV p, .int .u32 n] w fun e w' => e = .returned (optV ((M.by n).map fun x => x.2.1)) ∧ Only [] w w' := by
  obtain ⟨ob, eb, nb, opens, glob, ends, nums, dead⟩ := M
  refine Hs.enter Tryz.func18 [] [p] [.b false 55 [.v (.map (some ob)), .v (.int .i64 glob), .v (.map (some eb)), .v (.map (some nb)), .v (.bool dead)]] [.c (.p 0 0), .c (.v (.int .u32 n))] (Mem.rdOne w p hb) (by kernel_rfl) (by kernel_rfl) ?_
  refine Hs.run0 300 (fun _ => by kernel_rfl) ?_
  cases e1 : lookA n nums with
  | none =>
    have hl : lookM n (mapA u32V nums) = none := by rw [lookM_A, e1]; rfl
    refine Hs.getM keyNu n true (.tuple #[.int .u32 0, .bool false]) (by rw [hl]; rfl) (by kernel_rfl) (fun w' H => hn.only H.only (by simp)) ?_
    refine Hs.run0 300 (fun _ => by kernel_rfl) ?_
    refine Hs.condT (by kernel_rfl) ?_
    refine Hs.run0 300 (fun _ => by kernel_rfl) ?_
    have e : (WM.by ⟨ob, eb, nb, opens, glob, ends, nums, dead⟩ n).map (fun x => x.2.1) = none := by unfold WM.by; rw [e1]; rfl
    exact Hs.ret (v := .pointer none) Tryz.func18 (by kernel_rfl) fun w' H => ⟨by rw [e]; rfl, H.only⟩
  | some k =>
    have hl : lookM n (mapA u32V nums) = some (.int .u32 k) := by rw [lookM_A, e1]; rfl
    refine Hs.getM keyNu n true (.tuple #[.int .u32 k, .bool true]) (by rw [hl]; rfl) (by kernel_rfl) (fun w' H => hn.only H.only (by simp)) ?_
    refine Hs.run0 300 (fun _ => by kernel_rfl) ?_
    refine Hs.condF (by kernel_rfl) ?_
    refine Hs.run0 300 (fun _ => by kernel_rfl) ?_
    cases e2 : lookA k ends with
    | none =>
      have hl2 : lookM k (mapA (fun x => ptrV x.1) ends) = none := by rw [lookM_A, e2]; rfl
      refine Hs.getM keyEn k false (.pointer none) (by rw [hl2]; rfl) (by kernel_rfl) (fun w' H => he.only H.only (by simp)) ?_
      refine Hs.run0 300 (fun _ => by kernel_rfl) ?_
      have e : (WM.by ⟨ob, eb, nb, opens, glob, ends, nums, dead⟩ n).map (fun x => x.2.1) = none := by unfold WM.by; rw [e1]; dsimp only; rw [e2]; rfl
      exact Hs.ret (v := .pointer none) Tryz.func18 (by kernel_rfl) fun w' H => ⟨by rw [e]; rfl, H.only⟩
    | some x =>
      have hl2 : lookM k (mapA (fun x => ptrV x.1) ends) = some (ptrV x.1) := by rw [lookM_A, e2]; rfl
      refine Hs.getM keyEn k false (ptrV x.1) (by rw [hl2]; rfl) (by kernel_rfl) (fun w' H => he.only H.only (by simp)) ?_
      refine Hs.run0 300 (fun _ => by kernel_rfl) ?_
      have e : (WM.by ⟨ob, eb, nb, opens, glob, ends, nums, dead⟩ n).map (fun x => x.2.1) = some x.1 := by unfold WM.by; rw [e1]; dsimp only; rw [e2]; rfl
      exact Hs.ret (v := ptrV x.1) Tryz.func18 (by kernel_rfl) fun w' H => ⟨by rw [e]; rfl, H.only⟩
end Go.Proofs.YtkgikodiecmakaaGreatDoor

namespace Go.Proofs.YtkgikodiecmakaaGreatDoor
set_option linter.all false
set_option maxRecDepth 100000
open Go.RowKit Go.MapKept

def mdS (m : MD) : List SC := [.v (.int .i64 m.kind), .v (.int .u32 m.chan), .v (.int .u32 m.sender), .v (.int .u32 m.window), .v (.int .u32 m.packet), .v (.int .u32 m.code), .v (.string m.name), .v (.string m.lang), .v (.bool m.want), .v (.slice m.dA m.data.length m.dc)]
theorem elemMs : ElemT Tryz.prog 28 36 10 (Tryz.prog.bytesOf 36) := elemT_of (z := .agg #[.int .i64 0, .int .u32 0, .int .u32 0, .int .u32 0, .int .u32 0, .int .u32 0, .string ⟨#[]⟩, .string ⟨#[]⟩, .bool false, .slice none 0 0]) (by kernel_rfl) (by kernel_rfl) (by decide) (by decide)
theorem cOp_len (x : Int × Int) : (cOp x).length = 10 := rfl
theorem cOp_one (x : Int × Int) : ∀ u ∈ cOp x, u.oneCell' = true := by
  intro u hu
  simp only [cOp, List.mem_cons, List.not_mem_nil, or_false] at hu
  rcases hu with h | h | h | h | h | h | h | h | h | h <;> subst h <;> rfl
section
variable {w w' : World} {p : Nat} {M : WM} {L : List Nat} {s : Int}
theorem OS.lt {o : OS} (h : o.at w) : ∀ y ∈ o.fp, y < w.heap.size := fun y hy => by
  unfold OS.fp bkO at hy
  rw [Option.mem_toList, Option.map_eq_some_iff] at hy
  obtain ⟨a, ha, rfl⟩ := hy
  exact OwnO.lt h a ha
theorem WAt.lt (h : WAt w p M) : ∀ y ∈ M.fp p, y < w.heap.size := fun y hy => by
  simp only [WM.fp, List.mem_append, List.mem_cons, List.not_mem_nil, or_false] at hy
  rcases hy with (rfl | rfl | rfl | rfl) | hy | hy
  · exact Blk.lt h.blk
  · exact h.mo.lt
  · exact h.me.lt
  · exact h.mn.lt
  · obtain ⟨x, hx, hy⟩ := List.mem_flatMap.1 hy
    exact OS.lt (h.os x hx) y hy
  · obtain ⟨x, hx, hy⟩ := List.mem_flatMap.1 hy
    simp only [eFp, List.mem_singleton] at hy
    subst hy
    exact Blk.lt (h.es x hx)
/-- What is apart. -/
structure ApartW (M : WM) (p : Nat) : Prop where
  four : [p, M.ob, M.eb, M.nb].Nodup
  o : (fpA OS.fp M.opens).Nodup
  e : (fpA eFp M.ends).Nodup
  fo : ∀ y ∈ fpA OS.fp M.opens, y ∉ [p, M.ob, M.eb, M.nb]
  fe : ∀ y ∈ fpA eFp M.ends, y ∉ [p, M.ob, M.eb, M.nb]
  oe : ∀ y ∈ fpA OS.fp M.opens, y ∉ fpA eFp M.ends
theorem apartW (h : (M.fp p).Nodup) : ApartW M p := by
  unfold WM.fp at h
  rw [List.nodup_append] at h
  obtain ⟨h1, h2, h3⟩ := h
  rw [List.nodup_append] at h2
  exact ⟨h1, h2.1, h2.2.1, fun y hy hm => h3 y hm y (List.mem_append.2 (.inl hy)) rfl, fun y hy hm => h3 y hm y (List.mem_append.2 (.inr hy)) rfl, fun y hy hm => h2.2.2 y hy y hm rfl⟩
theorem ApartW.nd (h : ApartW M p) : (M.fp p).Nodup := by
  unfold WM.fp
  rw [List.nodup_append]
  refine ⟨h.four, ?_, fun a ha b hb e => ?_⟩
  · rw [List.nodup_append]
    exact ⟨h.o, h.e, fun a ha b hb e => h.oe a ha (by rw [e]; exact hb)⟩
  · subst e
    rcases List.mem_append.1 hb with h1 | h1
    · exact h.fo a h1 ha
    · exact h.fe a h1 ha
theorem bkO_nodup (A : Option Addr) : (bkO A).Nodup := by cases A <;> simp [bkO]
theorem fpA_apart {α : Type} {f : α → List Nat} {k : Int} {o : α} {y : Nat} : ∀ {l : List (Int × α)}, (fpA f l).Nodup → lookA k l = some o → ∀ x ∈ l, x.1 ≠ k → y ∈ f x.2 → y ∉ f o
  | [], _, h, _, _, _, _ => by cases h
  | q :: l, hn, h, x, hx, hk, hy => by
    have e : fpA f (q :: l) = f q.2 ++ fpA f l := by simp [fpA]
    rw [e, List.nodup_append] at hn
    unfold lookA at h
    split at h
    · rename_i e1
      injection h with h
      subst h
      rcases List.mem_cons.1 hx with rfl | hx
      · exact absurd e1 hk
      · exact fun hm => hn.2.2 y hm y (List.mem_flatMap.2 ⟨x, hx, hy⟩) rfl
    · rcases List.mem_cons.1 hx with rfl | hx
      · exact fun hm => hn.2.2 y hy y (fpA_mem h hm) rfl
      · exact fpA_apart hn.2.1 h x hx hk hy
/-- An entry of opens is another one; new blocks are new. -/
theorem ApartW.setO (h : ApartW M p) (s : Int) (o : OS) (hf : ∀ y ∈ o.fp, (∃ o', lookA s M.opens = some o' ∧ y ∈ o'.fp) ∨ y ∉ M.fp p) : ApartW { M with opens := setA s o M.opens } p := by
  have hin : ∀ y ∈ fpA OS.fp (setA s o M.opens), y ∈ fpA OS.fp M.opens ∨ y ∉ M.fp p := fun y hy => by
    rcases fpA_set hy with h1 | h1
    · rcases hf y h1 with ⟨o', h2, h3⟩ | h2
      · exact .inl (fpA_mem h2 h3)
      · exact .inr h2
    · exact .inl h1
  refine ⟨h.four, fpA_nodup h.o (bkO_nodup _) fun y hy => ?_, h.e, fun y hy hm => ?_, h.fe, fun y hy hm => ?_⟩
  · rcases hf y hy with h1 | h1
    · exact .inr h1
    · exact .inl fun hm => h1 (by simp only [WM.fp, List.mem_append]; exact .inr (.inl hm))
  · rcases hin y hy with h1 | h1
    · exact h.fo y h1 hm
    · exact h1 (by simp only [WM.fp, List.mem_append]; exact .inl hm)
  · rcases hin y hy with h1 | h1
    · exact h.oe y h1 hm
    · exact h1 (by simp only [WM.fp, List.mem_append]; exact .inr (.inr hm))
theorem ApartW.setE (h : ApartW M p) (k : Int) (x : Nat × EN) (hf : (∃ x', lookA k M.ends = some x' ∧ x.1 = x'.1) ∨ x.1 ∉ M.fp p) : ApartW { M with ends := setA k x M.ends } p := by
  have hin : ∀ y ∈ fpA eFp (setA k x M.ends), y ∈ fpA eFp M.ends ∨ y ∉ M.fp p := fun y hy => by
    rcases fpA_set hy with h1 | h1
    · simp only [eFp, List.mem_singleton] at h1
      subst h1
      rcases hf with ⟨x', h2, h3⟩ | h2
      · exact .inl (fpA_mem h2 (by rw [h3]; simp [eFp]))
      · exact .inr h2
    · exact .inl h1
  refine ⟨h.four, h.o, fpA_nodup h.e (by simp [eFp]) fun y hy => ?_, h.fo, fun y hy hm => ?_, fun y hy hm => ?_⟩
  · simp only [eFp, List.mem_singleton] at hy
    subst hy
    rcases hf with ⟨x', h2, h3⟩ | h2
    · exact .inr ⟨x', h2, by rw [h3]; simp [eFp]⟩
    · exact .inl fun hm => h2 (by simp only [WM.fp, List.mem_append]; exact .inr (.inr hm))
  · rcases hin y hy with h1 | h1
    · exact h.fe y h1 hm
    · exact h1 (by simp only [WM.fp, List.mem_append]; exact .inl hm)
  · rcases hin y hm with h1 | h1
    · exact h.oe y hy h1
    · exact h1 (by simp only [WM.fp, List.mem_append]; exact .inr (.inl hy))
/-- The other entries have stayed. -/
theorem WAt.osOnly (h : WAt w p M) (O : Only L w w') (hL : ∀ y ∈ L, y ∈ [p, M.ob, M.eb, M.nb] ∨ (∃ o, lookA s M.opens = some o ∧ y ∈ o.fp) ∨ y ∈ fpA eFp M.ends) : ∀ x ∈ M.opens, x.1 ≠ s → x.2.at w' := fun x hx hk => by
  have A := apartW h.nd
  refine OS.at_st w w' O.size (fun y hy => O.block y (OS.lt (h.os x hx) y hy) fun hm => ?_) (h.os x hx)
  have hy2 : y ∈ fpA OS.fp M.opens := List.mem_flatMap.2 ⟨x, hx, hy⟩
  rcases hL y hm with h1 | ⟨o, h1, h2⟩ | h1
  · exact A.fo y hy2 h1
  · exact fpA_apart A.o h1 x hx hk hy h2
  · exact A.oe y hy2 h1
theorem WAt.esOnly (h : WAt w p M) (O : Only L w w') (hL : ∀ y ∈ L, y ∈ [p, M.ob, M.eb, M.nb] ∨ y ∈ fpA OS.fp M.opens ∨ ∃ x, lookA s M.ends = some x ∧ y = x.1) : ∀ x ∈ M.ends, x.1 ≠ s → Blk w' x.2.1 49 x.2.2.cells := fun x hx hk => by
  have A := apartW h.nd
  refine Blk.only (L := L) (h.es x hx) O fun hm => ?_
  have hy2 : x.2.1 ∈ fpA eFp M.ends := List.mem_flatMap.2 ⟨x, hx, by simp [eFp]⟩
  rcases hL _ hm with h1 | h1 | ⟨o, h1, h2⟩
  · exact A.fe _ hy2 h1
  · exact A.oe _ h1 hy2
  · exact fpA_apart (y := x.2.1) A.e h1 x hx hk (by simp [eFp]) (by rw [h2]; simp [eFp])
end
/-- What a method leaves, what it answers. -/
def WtPost (M : WM) (p : Nat) (S : WS) (v : Value) (w : World) : Ending → World → Prop := fun e w' => ∃ M' : WM, e = .returned v ∧ Only (M.fp p) w w' ∧ WAt w' p M' ∧ M'.abs = S ∧ ∀ y ∈ M'.fp p, y < w'.heap.size ∧ (y ∈ M.fp p ∨ w.heap.size ≤ y)
def FewW (M : WM) : Prop := ∀ x ∈ M.opens, x.2.l.length ≤ 1000000
theorem FewW.at {M : WM} (h : FewW M) (s : Int) : ((lookA s M.opens).getD ⟨none, 0, []⟩).l.length ≤ 1000000 := by
  cases e : lookA s M.opens with
  | none => simp
  | some o => exact h _ (lookA_mem e)
theorem by_ms {n : Nat} (h : n ≤ 1000000) : (n + 1) * Tryz.prog.bytesOf 36 ≤ 140737488355328 := by
  have e : Tryz.prog.bytesOf 36 = 96 := by kernel_rfl
  rw [e]; omega
/-- What becomes of a watch: of opens one entry, of ends one entry may be others. -/
theorem WAt.put {w w' : World} {p : Nat} {M M' : WM} {L : List Nat} (h : WAt w p M) (O : Only L w w') (s k : Int) (e1 : M'.ob = M.ob) (e2 : M'.eb = M.eb) (e3 : M'.nb = M.nb)
    (blk : Blk w' p 55 M'.cells) (mo : MapM (kI .u32) w' M.ob (mapA OS.val M'.opens)) (me : MapM (kI .u32) w' M.eb (mapA (fun x => ptrV x.1) M'.ends)) (mn : MapM (kI .u32) w' M.nb (mapA u32V M'.nums)) (kn : KeysA M'.nums)
    (ho : (M'.opens = M.opens ∧ ∀ o, lookA s M.opens = some o → ∀ y ∈ o.fp, y ∉ L) ∨ ∃ o, M'.opens = setA s o M.opens ∧ o.at w' ∧ ∀ y ∈ o.fp, (∃ o', lookA s M.opens = some o' ∧ y ∈ o'.fp) ∨ w.heap.size ≤ y)
    (he : (M'.ends = M.ends ∧ ∀ x, lookA k M.ends = some x → x.1 ∉ L) ∨ (∃ x, M'.ends = setA k x M.ends ∧ Blk w' x.1 49 x.2.cells ∧ ∃ x', lookA k M.ends = some x' ∧ x.1 = x'.1) ∨ ∃ x, M'.ends = setA k x M.ends ∧ Blk w' x.1 49 x.2.cells ∧ w.heap.size ≤ x.1 ∧ ∀ y ∈ fpA OS.fp M'.opens, y ≠ x.1)
    (hL : ∀ y ∈ L, y ∈ [p, M.ob, M.eb, M.nb] ∨ (∃ o, lookA s M.opens = some o ∧ y ∈ o.fp) ∨ ∃ x, lookA k M.ends = some x ∧ y = x.1) (v : Value) (S : WS) (hS : M'.abs = S) : WtPost M p S v w (.returned v) w' := by
  have A := apartW h.nd
  have hlt := h.lt
  have hos := h.osOnly O (s := s) (fun y hy => by
    rcases hL y hy with h1 | h1 | ⟨x, h1, h2⟩
    · exact .inl h1
    · exact .inr (.inl h1)
    · exact .inr (.inr (fpA_mem h1 (by rw [h2]; simp [eFp]))))
  have hes := h.esOnly O (s := k) (fun y hy => by
    rcases hL y hy with h1 | ⟨o, h1, h2⟩ | h1
    · exact .inl h1
    · exact .inr (.inl (fpA_mem h1 h2))
    · exact .inr (.inr h1))
  have hLf : ∀ y ∈ L, y ∈ M.fp p := fun y hy => by
    simp only [WM.fp, List.mem_append]
    rcases hL y hy with h1 | ⟨o, h1, h2⟩ | ⟨x, h1, h2⟩
    · exact .inl h1
    · exact .inr (.inl (fpA_mem h1 h2))
    · exact .inr (.inr (fpA_mem h1 (by rw [h2]; simp [eFp])))
  obtain ⟨ob, eb, nb, opens, glob, ends, nums, dead⟩ := M
  obtain ⟨ob', eb', nb', opens', glob', ends', nums', dead'⟩ := M'
  dsimp only at *
  subst e1; subst e2; subst e3
  -- the opens
  obtain ⟨hos', ko', A1, hfo⟩ : (∀ x ∈ opens', x.2.at w') ∧ KeysA opens' ∧ ApartW ⟨ob', eb', nb', opens', glob', ends, nums', dead'⟩ p ∧ ∀ y ∈ fpA OS.fp opens', y < w'.heap.size ∧ (y ∈ fpA OS.fp opens ∨ w.heap.size ≤ y) := by
    rcases ho with ⟨rfl, hno⟩ | ⟨o, rfl, hoa, hof⟩
    · refine ⟨fun x hx => ?_, h.ko, ⟨A.four, A.o, A.e, A.fo, A.fe, A.oe⟩, fun y hy => ⟨Nat.lt_of_lt_of_le (hlt y (by simp only [WM.fp, List.mem_append]; exact .inr (.inl hy))) O.size, .inl hy⟩⟩
      by_cases hk : x.1 = s
      · have hx2 := h.os x hx
        refine OS.at_st w w' O.size (fun y hy => O.block y (OS.lt hx2 y hy) fun hm => ?_) hx2
        have hy2 : y ∈ fpA OS.fp opens' := List.mem_flatMap.2 ⟨x, hx, hy⟩
        rcases hL y hm with h1 | ⟨o, h1, h2⟩ | ⟨x', h1, h2⟩
        · exact A.fo y hy2 h1
        · exact hno o h1 y h2 hm
        · exact A.oe y hy2 (fpA_mem h1 (by rw [h2]; simp [eFp]))
      · exact hos x hx hk
    · have hin : ∀ y ∈ fpA OS.fp (setA s o opens), y < w'.heap.size ∧ (y ∈ fpA OS.fp opens ∨ w.heap.size ≤ y) := fun y hy => by
        rcases fpA_set hy with h1 | h1
        · refine ⟨OS.lt hoa y h1, ?_⟩
          rcases hof y h1 with ⟨o', h2, h3⟩ | h2
          · exact .inl (fpA_mem h2 h3)
          · exact .inr h2
        · exact ⟨Nat.lt_of_lt_of_le (hlt y (by simp only [WM.fp, List.mem_append]; exact .inr (.inl h1))) O.size, .inl h1⟩
      refine ⟨fun x hx => ?_, h.ko.set, ?_, hin⟩
      · rcases h.ko.other hx with rfl | ⟨h1, h2⟩
        · exact hoa
        · exact hos x h1 h2
      · have := A.setO s o (fun y hy => by
          rcases hof y hy with h1 | h1
          · exact .inl h1
          · exact .inr fun hm => by have := hlt y hm; omega)
        exact ⟨this.four, this.o, this.e, this.fo, this.fe, this.oe⟩
  have hA2 : ApartW ⟨ob', eb', nb', opens', glob', ends', nums', dead'⟩ p ∧ (∀ x ∈ ends', Blk w' x.2.1 49 x.2.2.cells) ∧ KeysA ends' ∧ ∀ y ∈ fpA eFp ends', y < w'.heap.size ∧ (y ∈ fpA eFp ends ∨ w.heap.size ≤ y) := by
    rcases he with ⟨rfl, hno⟩ | ⟨x, rfl, hxb, x', hx1, hx2⟩ | ⟨x, rfl, hxb, hxn, hxo⟩
    · refine ⟨A1, fun x hx => ?_, h.ke, fun y hy => ⟨Nat.lt_of_lt_of_le (hlt y (by simp only [WM.fp, List.mem_append]; exact .inr (.inr hy))) O.size, .inl hy⟩⟩
      by_cases hk : x.1 = k
      · refine Blk.only (L := L) (h.es x hx) O fun hm => ?_
        have hy2 : x.2.1 ∈ fpA eFp ends' := List.mem_flatMap.2 ⟨x, hx, by simp [eFp]⟩
        rcases hL _ hm with h1 | ⟨o, h1, h2⟩ | ⟨x', h1, h2⟩
        · exact A.fe _ hy2 h1
        · exact A.oe _ (fpA_mem h1 h2) hy2
        · exact hno x' h1 (by rw [← h2]; exact hm)
      · exact hes x hx hk
    · refine ⟨?_, fun z hz => ?_, h.ke.set, fun y hy => ?_⟩
      · have := A1.setE k x (.inl ⟨x', hx1, hx2⟩)
        exact ⟨this.four, this.o, this.e, this.fo, this.fe, this.oe⟩
      · rcases h.ke.other hz with rfl | ⟨h1, h2⟩
        · exact hxb
        · exact hes z h1 h2
      · rcases fpA_set hy with h1 | h1
        · simp only [eFp, List.mem_singleton] at h1
          subst h1
          exact ⟨Blk.lt hxb, .inl (fpA_mem hx1 (by rw [hx2]; simp [eFp]))⟩
        · exact ⟨Nat.lt_of_lt_of_le (hlt y (by simp only [WM.fp, List.mem_append]; exact .inr (.inr h1))) O.size, .inl h1⟩
    · refine ⟨?_, fun z hz => ?_, h.ke.set, fun y hy => ?_⟩
      · have := A1.setE k x (.inr fun hm => by
          simp only [WM.fp, List.mem_append] at hm
          rcases hm with h1 | h1 | h1
          · have := hlt x.1 (by simp only [WM.fp, List.mem_append]; exact .inl h1); omega
          · exact hxo _ h1 rfl
          · have := hlt x.1 (by simp only [WM.fp, List.mem_append]; exact .inr (.inr h1)); omega)
        exact ⟨this.four, this.o, this.e, this.fo, this.fe, this.oe⟩
      · rcases h.ke.other hz with rfl | ⟨h1, h2⟩
        · exact hxb
        · exact hes z h1 h2
      · rcases fpA_set hy with h1 | h1
        · simp only [eFp, List.mem_singleton] at h1
          subst h1
          exact ⟨Blk.lt hxb, .inr hxn⟩
        · exact ⟨Nat.lt_of_lt_of_le (hlt y (by simp only [WM.fp, List.mem_append]; exact .inr (.inr h1))) O.size, .inl h1⟩
  obtain ⟨A2, hes', ke', hfe⟩ := hA2
  refine ⟨⟨ob', eb', nb', opens', glob', ends', nums', dead'⟩, rfl, O.mono hLf, ⟨blk, mo, me, mn, hos', hes', A2.nd, ko', ke', kn⟩, hS, fun y hy => ?_⟩
  simp only [WM.fp, List.mem_append] at hy ⊢
  rcases hy with h1 | h1 | h1
  · exact ⟨Nat.lt_of_lt_of_le (hlt y (by simp only [WM.fp, List.mem_append]; exact .inl h1)) O.size, .inl (.inl h1)⟩
  · exact ⟨(hfo y h1).1, (hfo y h1).2.imp (fun h => .inr (.inl h)) id⟩
  · exact ⟨(hfe y h1).1, (hfe y h1).2.imp (fun h => .inr (.inr h)) id⟩
theorem says_open (M : WM) (p : Nat) (m : MD) (w : World) (h : WAt w p M) (hf : FewW M) (hk : m.kind = 90) : Calls Tryz.prog 8 #[ptrV p, m.val] w (WtPost M p (saysS M.abs m) (.tuple #[]) w) := by
  obtain ⟨o, ho⟩ : ∃ o, (lookA m.sender M.opens).getD ⟨none, 0, []⟩ = o := ⟨_, rfl⟩
  have hfo := hf.at m.sender
  rw [ho] at hfo
  have hoo : o.at w := by
    cases e : lookA m.sender M.opens with
    | none => rw [e] at ho; subst ho; exact OwnO.none_
    | some o' => rw [e] at ho; subst ho; exact h.os _ (lookA_mem e)
  have hofp : ∀ y ∈ o.fp, ∃ o', lookA m.sender M.opens = some o' ∧ y ∈ o'.fp := fun y hy => by
    cases e : lookA m.sender M.opens with
    | none => rw [e] at ho; subst ho; simp [OS.fp, bkO] at hy
    | some o' => rw [e] at ho; subst ho; exact ⟨_, rfl, hy⟩
  have hlook : (lookM m.sender (mapA OS.val M.opens)).getD (.slice none 0 0) = o.val := by
    rw [lookM_A]
    cases e : lookA m.sender M.opens with
    | none => rw [e] at ho; subst ho; rfl
    | some o' => rw [e] at ho; subst ho; rfl
  have hA := apartW h.nd
  have hmo := h.mo
  have hb := h.blk
  obtain ⟨ob, eb, nb, opens, glob, ends, nums, dead⟩ := M
  obtain ⟨oA, oc, ol⟩ := o
  obtain ⟨k, chan, sender, window, packet, code, name, lang, want, dA, dc, data⟩ := m
  dsimp only at *
  subst hk
  have key : sender = sender := rfl
  have hnd : (bks [p, ob, 0] [.b true 55 [.v (.map (some ob)), .v (.int .i64 glob), .v (.map (some eb)), .v (.map (some nb)), .v (.bool dead)], HB.mp (kI .u32) ob (mapA OS.val opens), HB.oo cOp 36 10 oA oc ol]).Nodup := by
    have h4 := hA.four
    show (p :: ob :: ((bkO oA) ++ [])).Nodup
    rw [List.append_nil]
    simp only [List.nodup_cons, List.mem_cons, List.not_mem_nil, or_false, not_or] at h4 ⊢
    refine ⟨⟨h4.1.1, fun hm => ?_⟩, fun hm => ?_, bkO_nodup _⟩
    · obtain ⟨o', h1, h2⟩ := hofp p hm
      exact hA.fo p (fpA_mem h1 h2) (by simp)
    · obtain ⟨o', h1, h2⟩ := hofp ob hm
      exact hA.fo ob (fpA_mem h1 h2) (by simp)
  refine Hs.enter Tryz.func8 _ [p, ob, 0] [.b true 55 [.v (.map (some ob)), .v (.int .i64 glob), .v (.map (some eb)), .v (.map (some nb)), .v (.bool dead)], HB.mp (kI .u32) ob (mapA OS.val opens), HB.oo cOp 36 10 oA oc ol] [.c (.p 0 0), .g (mdS ⟨90, chan, sender, window, packet, code, name, lang, want, dA, dc, data⟩)] (Mem.startN rfl hnd ⟨hb, ⟨hmo, fun a ha => by injection ha with ha; subst ha; exact hmo.lt⟩, ⟨hoo, hoo.lt⟩, trivial⟩) (by kernel_rfl) (by kernel_rfl) ?_
  refine Hs.run1 300 (fun _ => by kernel_rfl) fun b0 => ?_
  refine Hs.condF (by kernel_rfl) ?_
  refine Hs.run0 300 (fun _ => by kernel_rfl) ?_
  refine Hs.condT (by kernel_rfl) ?_
  refine Hs.any [0, 1, 3, 1020] (by kernel_rfl) ?_
  refine Hs.run0 300 (fun _ => by kernel_rfl) ?_
  refine Hs.takeGet (rd := [0, 1, 3]) 12 1 keyOp (r := ob) (es := mapA OS.val opens) sender false (OS.val ⟨oA, oc, ol⟩) hlook (by kernel_rfl) (by kernel_rfl) (by kernel_rfl) ?_
  refine Hs.run1 300 (fun _ => by kernel_rfl) fun q1 => ?_
  refine Hs.appO (c := 1) (ty := 28) (b := q1) (o := 0) (A := oA) (cap := oc) 2 elemMs ol [(window, packet)] ol.length 1 rfl rfl cOp_one cOp_len (by kernel_rfl) (by kernel_rfl) (by kernel_rfl) (by decide) (fun w' H => H.rdB (gs := [(window, packet)]) 4 (wr := true) (T := 36) (cs := (cOp (window, packet)).map SC.v) (by kernel_rfl) rfl) (by unfold maxLen; omega) (by_ms hfo) fun A' c' => ?_
  refine Hs.run0 300 (fun _ => by kernel_rfl) ?_
  refine Hs.setM 1 keyOp (r := ob) (es := mapA OS.val opens) sender (OS.val ⟨A', c', ol ++ [(window, packet)]⟩) (by rw [show OS.val ⟨A', c', ol ++ [(window, packet)]⟩ = .slice A' (ol.length + 1) c' by simp [OS.val]]; kernel_rfl) (by kernel_rfl) (by kernel_rfl) ?_
  refine Hs.run0 300 (fun _ => by kernel_rfl) ?_
  refine Hs.ret (v := .tuple #[]) Tryz.func8 (by kernel_rfl) fun w' H => ?_
  have hB : Blk w' p 55 _ := H.at 0 (wr := true) (T := 55) (cs := [.v (.map (some ob)), .v (.int .i64 glob), .v (.map (some eb)), .v (.map (some nb)), .v (.bool dead)]) (by kernel_rfl)
  have hM := H.mapM 1 (r := ob) (ke := kI .u32) (es := setE sender (OS.val ⟨A', c', ol ++ [(window, packet)]⟩) (mapA OS.val opens)) (by kernel_rfl)
  have hO : OwnO cOp 36 10 w' A' c' (ol ++ [(window, packet)]) := H.atQ 2 (wr := true) (A := A') (Q := fun w => OwnO cOp 36 10 w A' c' (ol ++ [(window, packet)])) (st := OwnO.stq) (by kernel_rfl)
  have hfr := (H.sub [0, 1, 2] (by decide) (hp' := [.b true 55 [.v (.map (some ob)), .v (.int .i64 glob), .v (.map (some eb)), .v (.map (some nb)), .v (.bool dead)], HB.mp (kI .u32) ob (setE sender (OS.val ⟨A', c', ol ++ [(window, packet)]⟩) (mapA OS.val opens)), HB.oo cOp 36 10 A' c' (ol ++ [(window, packet)])]) (by kernel_rfl)).bks rfl
  obtain ⟨hnd2, hfr⟩ := hfr
  have hnew : ∀ y ∈ bkO A', (∃ o', lookA sender opens = some o' ∧ y ∈ o'.fp) ∨ w.heap.size ≤ y := fun y hy => by
    have hnd3 : (p :: ob :: (bkO A' ++ [])).Nodup := hnd2
    rw [List.append_nil] at hnd3
    simp only [List.nodup_cons, List.mem_cons, not_or] at hnd3
    have h1 := (hfr y (show y ∈ p :: ob :: (bkO A' ++ []) by simp [hy])).1
    rcases h1 with h1 | h1
    · have h2 : y ∈ p :: ob :: (bkO oA ++ []) := h1
      rw [List.append_nil] at h2
      simp only [List.mem_cons] at h2
      rcases h2 with rfl | rfl | h2
      · exact absurd hy hnd3.1.2
      · exact absurd hy hnd3.2.1
      · exact .inl (hofp y h2)
    · exact .inr h1
  have hL : ∀ y ∈ bks [p, ob, 0] [.b true 55 [.v (.map (some ob)), .v (.int .i64 glob), .v (.map (some eb)), .v (.map (some nb)), .v (.bool dead)], HB.mp (kI .u32) ob (mapA OS.val opens), HB.oo cOp 36 10 oA oc ol], y = p ∨ y = ob ∨ ∃ o', lookA sender opens = some o' ∧ y ∈ o'.fp := fun y hy => by
    have h2 : y ∈ p :: ob :: (bkO oA ++ []) := hy
    rw [List.append_nil] at h2
    simp only [List.mem_cons] at h2
    exact h2.imp id (Or.imp id (hofp y))
  refine WAt.put (M' := ⟨ob, eb, nb, setA sender ⟨A', c', ol ++ [(window, packet)]⟩ opens, glob, ends, nums, dead⟩) h H.only sender sender rfl rfl rfl hB (by rw [← setE_A]; exact hM) (h.me.only H.only fun hm => ?_) (h.mn.only H.only fun hm => ?_) h.kn (.inr ⟨_, rfl, hO, hnew⟩) (.inl ⟨rfl, fun x hx hm => ?_⟩) (fun y hy => ?_) _ _ ?_
  · rcases hL _ hm with h1 | h1 | ⟨o', h1, h2⟩
    · exact absurd h1 (by have := hA.four; simp at this; intro e; exact this.1.2.1 e.symm)
    · exact absurd h1 (by have := hA.four; simp at this; intro e; exact this.2.1.1 e.symm)
    · exact hA.fo _ (fpA_mem h1 h2) (by simp)
  · rcases hL _ hm with h1 | h1 | ⟨o', h1, h2⟩
    · exact absurd h1 (by have := hA.four; simp at this; intro e; exact this.1.2.2 e.symm)
    · exact absurd h1 (by have := hA.four; simp at this; intro e; exact this.2.1.2 e.symm)
    · exact hA.fo _ (fpA_mem h1 h2) (by simp)
  · have hx2 : x.1 ∈ fpA eFp ends := fpA_mem hx (by simp [eFp])
    rcases hL _ hm with h1 | h1 | ⟨o', h1, h2⟩
    · exact hA.fe _ hx2 (by simp [h1])
    · exact hA.fe _ hx2 (by simp [h1])
    · exact hA.oe _ (fpA_mem h1 h2) hx2
  · rcases hL _ hy with h1 | h1 | h1
    · exact .inl (by simp [h1])
    · exact .inl (by simp [h1])
    · exact .inr (.inl h1)
  · unfold saysS WM.abs
    rw [if_pos rfl]
    dsimp only
    rw [lookA_map, ← setA_map]
    have e : ((lookA sender opens).map OS.l).getD [] = ol := by
      have this : OS.l ((lookA sender opens).getD ⟨none, 0, []⟩) = ol := congrArg OS.l ho
      rw [← this]
      cases lookA sender opens <;> rfl
    rw [e]
end Go.Proofs.YtkgikodiecmakaaGreatDoor

namespace Go.Proofs.YtkgikodiecmakaaGreatDoor
set_option linter.all false
set_option maxRecDepth 100000
open Go.RowKit Go.MapKept

theorem setA_same {α γ : Type} (f : α → γ) {k : Int} {v v' : α} : ∀ {l : List (Int × α)}, lookA k l = some v → f v' = f v → mapA f (setA k v' l) = mapA f l
  | [], h, _ => by cases h
  | q :: l, h, e => by
    unfold lookA at h
    unfold setA
    split at h
    · rename_i hk
      injection h with h
      subst h
      rw [if_pos hk]
      unfold mapA
      rw [List.map_cons, List.map_cons]
      simp [e, hk]
    · rename_i hk
      rw [if_neg hk]
      have ih := setA_same f h e
      unfold mapA at ih ⊢
      rw [List.map_cons, List.map_cons, ih]
theorem WM.by_abs (M : WM) (n : Int) : byS M.abs n = (M.by n).map fun x => (x.1, x.2.2) := by
  unfold byS WM.by WM.abs
  dsimp only
  cases lookA n M.nums with
  | none => rfl
  | some k =>
    dsimp only
    rw [lookA_map]
    cases lookA k M.ends <;> rfl
theorem WM.by_at {M : WM} {n k : Int} {x : Nat × EN} (h : M.by n = some (k, x)) : lookA k M.ends = some x := by
  unfold WM.by at h
  split at h
  · cases h
  · rename_i k' _
    cases e : lookA k' M.ends with
    | none => rw [e] at h; cases h
    | some y =>
      rw [e] at h
      injection h with h
      injection h with h1 h2
      subst h1; subst h2
      exact e
/-- Nothing turns. -/
theorem WAt.keep {w w' : World} {p : Nat} {M : WM} (h : WAt w p M) (O : Only [] w w') (v : Value) : WtPost M p M.abs v w (.returned v) w' :=
  ⟨M, rfl, O.mono (by simp), WAt.st w w' O.size (fun x hx => O.block x (h.lt x hx) (by simp)) h, rfl, fun y hy => ⟨Nat.lt_of_lt_of_le (h.lt y hy) O.size, .inl hy⟩⟩
/-- An end turns. -/
theorem WAt.putE {w w' : World} {p b : Nat} {M : WM} {k : Int} {x x' : EN} (h : WAt w p M) (O : Only [p, b] w w') (hk : lookA k M.ends = some (b, x)) (hp : Blk w' p 55 M.cells) (hb : Blk w' b 49 x'.cells) (v : Value) : WtPost M p { M.abs with ends := setA k x' M.abs.ends } v w (.returned v) w' := by
  have A := apartW h.nd
  have hbm : b ∈ fpA eFp M.ends := fpA_mem hk (by simp [eFp])
  have h4 := A.four
  simp only [List.nodup_cons, List.mem_cons, List.not_mem_nil, or_false, not_or] at h4
  have hb4 := A.fe b hbm
  simp only [List.mem_cons, List.not_mem_nil, or_false, not_or] at hb4
  refine WAt.put (M' := { M with ends := setA k (b, x') M.ends }) h O 0 k rfl rfl rfl hp (h.mo.only O (by simp only [List.mem_cons, List.not_mem_nil, or_false, not_or]; exact ⟨fun e => h4.1.1 e.symm, fun e => hb4.2.1 e.symm⟩)) ?_ (h.mn.only O (by simp only [List.mem_cons, List.not_mem_nil, or_false, not_or]; exact ⟨fun e => h4.1.2.2 e.symm, fun e => hb4.2.2.2 e.symm⟩)) h.kn (.inl ⟨rfl, fun o ho y hy hm => ?_⟩) (.inr (.inl ⟨(b, x'), rfl, hb, _, hk, rfl⟩)) (fun y hy => ?_) v _ ?_
  · have := h.me.only O (by simp only [List.mem_cons, List.not_mem_nil, or_false, not_or]; exact ⟨fun e => h4.1.2.1 e.symm, fun e => hb4.2.2.1 e.symm⟩)
    dsimp only
    rw [setA_same (v' := (b, x')) (fun x => ptrV x.1) hk rfl]
    exact this
  · have hy2 := fpA_mem (f := OS.fp) ho hy
    simp only [List.mem_cons, List.not_mem_nil, or_false] at hm
    rcases hm with rfl | rfl
    · exact A.fo _ hy2 (by simp)
    · exact A.oe _ hy2 hbm
  · simp only [List.mem_cons, List.not_mem_nil, or_false] at hy
    rcases hy with rfl | rfl
    · exact .inl (by simp)
    · exact .inr (.inr ⟨_, hk, rfl⟩)
  · unfold WM.abs
    dsimp only
    rw [← setA_map]
/-- The watch's own cells turn. -/
theorem WAt.putP {w w' : World} {p : Nat} {M : WM} {g : Int} {d : Bool} (h : WAt w p M) (O : Only [p] w w') (hp : Blk w' p 55 (WM.cells { M with glob := g, dead := d })) (v : Value) : WtPost M p { M.abs with glob := g, dead := d } v w (.returned v) w' := by
  have A := apartW h.nd
  have h4 := A.four
  simp only [List.nodup_cons, List.mem_cons, List.not_mem_nil, or_false, not_or] at h4
  refine WAt.put (M' := { M with glob := g, dead := d }) h O 0 0 rfl rfl rfl hp (h.mo.only O (by simp only [List.mem_singleton]; exact fun e => h4.1.1 e.symm)) (h.me.only O (by simp only [List.mem_singleton]; exact fun e => h4.1.2.1 e.symm)) (h.mn.only O (by simp only [List.mem_singleton]; exact fun e => h4.1.2.2 e.symm)) h.kn (.inl ⟨rfl, fun o ho y hy hm => ?_⟩) (.inl ⟨rfl, fun x hx hm => ?_⟩) (fun y hy => ?_) v _ rfl
  · rw [List.mem_singleton] at hm; subst hm
    exact A.fo _ (fpA_mem ho hy) (by simp)
  · rw [List.mem_singleton] at hm
    exact A.fe x.1 (fpA_mem hx (by simp [eFp])) (by simp [hm])
  · rw [List.mem_singleton] at hy; subst hy
    exact .inl (by simp)
def wS (M : WM) : List SC := [.v (.map (some M.ob)), .v (.int .i64 M.glob), .v (.map (some M.eb)), .v (.map (some M.nb)), .v (.bool M.dead)]
theorem says_global (M : WM) (p : Nat) (m : MD) (w : World) (h : WAt w p M) (hk : m.kind = 80) : Calls Tryz.prog 8 #[ptrV p, m.val] w (WtPost M p (saysS M.abs m) (.tuple #[]) w) := by
  have hb := h.blk
  have eS : saysS M.abs m = { M.abs with glob := IntKind.i64.wrap (M.glob + b01 m.want) } := by unfold saysS; rw [if_neg (by rw [hk]; decide), if_pos hk]; rfl
  rw [eS]
  obtain ⟨ob, eb, nb, opens, glob, ends, nums, dead⟩ := M
  obtain ⟨k, chan, sender, window, packet, code, name, lang, want, dA, dc, data⟩ := m
  dsimp only at *
  subst hk
  refine Hs.enter Tryz.func8 [p] [p] [.b true 55 (wS ⟨ob, eb, nb, opens, glob, ends, nums, dead⟩)] [.c (.p 0 0), .g (mdS ⟨80, chan, sender, window, packet, code, name, lang, want, dA, dc, data⟩)] (Mem.one w p hb) (by kernel_rfl) (by kernel_rfl) ?_
  refine Hs.run1 300 (fun _ => by kernel_rfl) fun b0 => ?_
  refine Hs.condF (by kernel_rfl) ?_
  refine Hs.run0 300 (fun _ => by kernel_rfl) ?_
  refine Hs.condF (by kernel_rfl) ?_
  refine Hs.run0 300 (fun _ => by kernel_rfl) ?_
  refine Hs.condT (by kernel_rfl) ?_
  refine Hs.any [0, 1, 1010] (by kernel_rfl) ?_
  refine Hs.run0 300 (fun _ => by kernel_rfl) ?_
  refine Hs.callV (fun w' H => one_any want w') (by kernel_rfl) ?_
  refine Hs.run0 300 (fun _ => by kernel_rfl) ?_
  exact Hs.ret (v := .tuple #[]) Tryz.func8 (by kernel_rfl) fun w' H => h.putP (d := dead) H.only (H.at 0 (wr := true) (T := 55) (cs := wS ⟨ob, eb, nb, opens, IntKind.i64.wrap (glob + b01 want), ends, nums, dead⟩) (by kernel_rfl)) _
theorem says_none (M : WM) (p : Nat) (m : MD) (w : World) (h : WAt w p M) (h1 : m.kind ≠ 90) (h2 : m.kind ≠ 80) (h3 : m.kind ≠ 93) (h4 : m.kind ≠ 98) : Calls Tryz.prog 8 #[ptrV p, m.val] w (WtPost M p (saysS M.abs m) (.tuple #[]) w) := by
  have eS : saysS M.abs m = M.abs := by unfold saysS; rw [if_neg h1, if_neg h2, if_neg h3, if_neg h4]
  rw [eS]
  refine Hs.enter Tryz.func8 [] [] [] [.c (.v (ptrV p)), .g (mdS m)] (Mem.start0 w) (by kernel_rfl) (by kernel_rfl) ?_
  refine Hs.run1 300 (fun _ => by kernel_rfl) fun b0 => ?_
  refine Hs.condF (by kernel_rfl) ?_
  refine Hs.run0 300 (fun _ => by kernel_rfl) ?_
  refine Hs.condP (m.kind = 90) (by kernel_rfl) (fun h => absurd h h1) (fun _ => ?_)
  refine Hs.run0 300 (fun _ => by kernel_rfl) ?_
  refine Hs.condP (m.kind = 80) (by kernel_rfl) (fun h => absurd h h2) (fun _ => ?_)
  refine Hs.run0 300 (fun _ => by kernel_rfl) ?_
  refine Hs.condP (m.kind = 93) (by kernel_rfl) (fun h => absurd h h3) (fun _ => ?_)
  refine Hs.run0 300 (fun _ => by kernel_rfl) ?_
  refine Hs.condP (m.kind = 98) (by kernel_rfl) (fun h => absurd h h4) (fun _ => ?_)
  refine Hs.run0 300 (fun _ => by kernel_rfl) ?_
  exact Hs.ret (v := .tuple #[]) Tryz.func8 (by kernel_rfl) fun w' H => h.keep H.only _
theorem says_none2 (M : WM) (p : Nat) (m : MD) (w : World) (h : WAt w p M) (h1 : m.kind = 93 ∨ m.kind = 98) (hn : M.by m.chan = none) : Calls Tryz.prog 8 #[ptrV p, m.val] w (WtPost M p (saysS M.abs m) (.tuple #[]) w) := by
  have eS : saysS M.abs m = M.abs := by
    have hS : byS M.abs m.chan = none := by rw [WM.by_abs, hn]; rfl
    unfold saysS
    rw [hS]
    rcases h1 with h1 | h1
    · rw [if_neg (by rw [h1]; decide), if_neg (by rw [h1]; decide), if_pos h1]
    · rw [if_neg (by rw [h1]; decide), if_neg (by rw [h1]; decide), if_neg (by rw [h1]; decide), if_pos h1]
  rw [eS]
  refine Hs.enter Tryz.func8 [] [] [] [.c (.v (ptrV p)), .g (mdS m)] (Mem.start0 w) (by kernel_rfl) (by kernel_rfl) ?_
  refine Hs.run1 300 (fun _ => by kernel_rfl) fun b0 => ?_
  refine Hs.condF (by kernel_rfl) ?_
  refine Hs.run0 300 (fun _ => by kernel_rfl) ?_
  refine Hs.condP (m.kind = 90) (by kernel_rfl) (fun h => by rcases h1 with h1 | h1 <;> rw [h1] at h <;> cases h) (fun _ => ?_)
  refine Hs.run0 300 (fun _ => by kernel_rfl) ?_
  refine Hs.condP (m.kind = 80) (by kernel_rfl) (fun h => by rcases h1 with h1 | h1 <;> rw [h1] at h <;> cases h) (fun _ => ?_)
  refine Hs.run0 300 (fun _ => by kernel_rfl) ?_
  refine Hs.condP (m.kind = 93) (by kernel_rfl) (fun _ => ?_) (fun _ => ?_)
  · refine Hs.run0 300 (fun _ => by kernel_rfl) ?_
    refine Hs.callV (v := .pointer none) (fun w' H => (by_any M p m.chan w' (Blk.only (L := []) h.blk H.only (by simp)) (h.mn.only H.only (by simp)) (h.me.only H.only (by simp))).mono fun e w2 h => by rw [hn] at h; exact h) (by kernel_rfl) ?_
    refine Hs.run0 300 (fun _ => by kernel_rfl) ?_
    refine Hs.condF (by kernel_rfl) ?_
    refine Hs.run0 300 (fun _ => by kernel_rfl) ?_
    exact Hs.ret (v := .tuple #[]) Tryz.func8 (by kernel_rfl) fun w' H => h.keep H.only _
  · refine Hs.run0 300 (fun _ => by kernel_rfl) ?_
    refine Hs.condP (m.kind = 98) (by kernel_rfl) (fun _ => ?_) (fun h => by rcases h1 with h1 | h1 <;> contradiction)
    refine Hs.run0 300 (fun _ => by kernel_rfl) ?_
    refine Hs.callV (v := .pointer none) (fun w' H => (by_any M p m.chan w' (Blk.only (L := []) h.blk H.only (by simp)) (h.mn.only H.only (by simp)) (h.me.only H.only (by simp))).mono fun e w2 h => by rw [hn] at h; exact h) (by kernel_rfl) ?_
    refine Hs.run0 300 (fun _ => by kernel_rfl) ?_
    refine Hs.condF (by kernel_rfl) ?_
    refine Hs.run0 300 (fun _ => by kernel_rfl) ?_
    exact Hs.ret (v := .tuple #[]) Tryz.func8 (by kernel_rfl) fun w' H => h.keep H.only _
theorem says_end (M : WM) (p : Nat) (m : MD) (w : World) (h : WAt w p M) (h1 : m.kind = 93 ∨ m.kind = 98) (hm : U32 m.window) {k : Int} {b : Nat} {x : EN} (hn : M.by m.chan = some (k, (b, x))) : Calls Tryz.prog 8 #[ptrV p, m.val] w (WtPost M p (saysS M.abs m) (.tuple #[]) w) := by
  have hl := WM.by_at hn
  have A := apartW h.nd
  have hbm : b ∈ fpA eFp M.ends := fpA_mem hl (by simp [eFp])
  have hb4 := A.fe b hbm
  simp only [List.mem_cons, List.not_mem_nil, or_false, not_or] at hb4
  have h4 := A.four
  simp only [List.nodup_cons, List.mem_cons, List.not_mem_nil, or_false, not_or] at h4
  have hB := h.blk
  have hE : Blk w b 49 x.cells := h.es _ (lookA_mem hl)
  have eS : saysS M.abs m = { M.abs with ends := setA k (if m.kind = 93 then { x with granted := IntKind.u64.wrap (x.granted + m.window) } else { x with wants := IntKind.i64.wrap (x.wants + b01 m.want) }) M.abs.ends } := by
    have hS : byS M.abs m.chan = some (k, x) := by rw [WM.by_abs, hn]; rfl
    unfold saysS
    rw [hS]
    rcases h1 with h1 | h1
    · rw [if_neg (by rw [h1]; decide), if_neg (by rw [h1]; decide), if_pos h1, if_pos h1]
    · rw [if_neg (by rw [h1]; decide), if_neg (by rw [h1]; decide), if_neg (by rw [h1]; decide), if_pos h1, if_neg (by rw [h1]; decide)]
  rw [eS]
  have hmn := h.mn
  have hme := h.me
  have hby : ∀ w', Only [p, b] w w' → Blk w' p 55 M.cells → Calls Tryz.prog 18 #[ptrV p, .int .u32 m.chan] w' fun e w2 => e = .returned (ptrV b) ∧ Only [] w' w2 := fun w' O hb' =>
    (by_any M p m.chan w' hb' (hmn.only O (by simp only [List.mem_cons, List.not_mem_nil, or_false, not_or]; exact ⟨fun e => h4.1.2.2 e.symm, fun e => hb4.2.2.2 e.symm⟩)) (hme.only O (by simp only [List.mem_cons, List.not_mem_nil, or_false, not_or]; exact ⟨fun e => h4.1.2.1 e.symm, fun e => hb4.2.2.1 e.symm⟩))).mono fun e w2 h => by rw [hn] at h; exact h
  have hput := fun (w' : World) (x' : EN) (O : Only [p, b] w w') hp hb => h.putE (x' := x') O hl hp hb (.tuple #[])
  have hnd : [p, b].Nodup := by simp only [List.nodup_cons, List.mem_cons, List.not_mem_nil, or_false, not_or, List.nodup_nil, not_false_eq_true, and_true]; exact fun e => hb4.1 e.symm
  clear hl hbm A eS
  obtain ⟨ob, eb, nb, opens, glob, ends, nums, dead⟩ := M
  obtain ⟨mk, chan, sender, window, packet, code, name, lang, want, dA, dc, data⟩ := m
  obtain ⟨xc, xg, xs, xp, xe, xd, xt, xw⟩ := x
  dsimp only at *
  refine Hs.enter Tryz.func8 [p, b] [p, b] [.b true 55 (wS ⟨ob, eb, nb, opens, glob, ends, nums, dead⟩), .b true 49 (EN.sc ⟨xc, xg, xs, xp, xe, xd, xt, xw⟩)] [.c (.p 0 0), .g (mdS ⟨mk, chan, sender, window, packet, code, name, lang, want, dA, dc, data⟩)] (Mem.startN (β := [p, b]) (hp := [.b true 55 (wS ⟨ob, eb, nb, opens, glob, ends, nums, dead⟩), .b true 49 (EN.sc ⟨xc, xg, xs, xp, xe, xd, xt, xw⟩)]) rfl hnd ⟨hB, hE, trivial⟩) (by kernel_rfl) (by kernel_rfl) ?_
  refine Hs.run1 300 (fun _ => by kernel_rfl) fun b0 => ?_
  refine Hs.condF (by kernel_rfl) ?_
  refine Hs.run0 300 (fun _ => by kernel_rfl) ?_
  refine Hs.condP (mk = 90) (by kernel_rfl) (fun h => by rcases h1 with h1 | h1 <;> rw [h1] at h <;> cases h) (fun _ => ?_)
  refine Hs.run0 300 (fun _ => by kernel_rfl) ?_
  refine Hs.condP (mk = 80) (by kernel_rfl) (fun h => by rcases h1 with h1 | h1 <;> rw [h1] at h <;> cases h) (fun _ => ?_)
  refine Hs.run0 300 (fun _ => by kernel_rfl) ?_
  refine Hs.condP (mk = 93) (by kernel_rfl) (fun hk => ?_) (fun hk => ?_)
  · rw [if_pos hk]
    refine Hs.run0 300 (fun _ => by kernel_rfl) ?_
    refine Hs.callV (v := ptrV b) (fun w' H => hby w' H.only (H.at 0 (wr := true) (T := 55) (cs := wS ⟨ob, eb, nb, opens, glob, ends, nums, dead⟩) (by kernel_rfl))) (by kernel_rfl) ?_
    refine Hs.slot 49 (.c (.p 1 0)) (by kernel_rfl) (by kernel_rfl) ?_
    refine Hs.run0 300 (fun _ => by kernel_rfl) ?_
    refine Hs.condT (by kernel_rfl) ?_
    refine Hs.any [1, 2, 1010] (by kernel_rfl) ?_
    refine Hs.run0 300 (fun _ => by kernel_rfl) ?_
    have hw : IntKind.u64.wrap window = window := by rw [IntKind.wrap_u64]; unfold U32 at hm; omega
    refine Hs.ret (v := .tuple #[]) Tryz.func8 (by kernel_rfl) fun w' H => ?_
    refine hput w' _ H.only (H.at 0 (wr := true) (T := 55) (cs := wS ⟨ob, eb, nb, opens, glob, ends, nums, dead⟩) (by kernel_rfl)) ?_
    have := H.at 1 (wr := true) (T := 49) (cs := EN.sc ⟨xc, IntKind.u64.wrap (xg + IntKind.u64.wrap window), xs, xp, xe, xd, xt, xw⟩) (by kernel_rfl)
    rw [hw] at this
    exact this
  · have hk98 : mk = 98 := h1.resolve_left hk
    rw [if_neg hk]
    refine Hs.run0 300 (fun _ => by kernel_rfl) ?_
    refine Hs.condP (mk = 98) (by kernel_rfl) (fun _ => ?_) (fun h => absurd hk98 h)
    refine Hs.run0 300 (fun _ => by kernel_rfl) ?_
    refine Hs.callV (v := ptrV b) (fun w' H => hby w' H.only (H.at 0 (wr := true) (T := 55) (cs := wS ⟨ob, eb, nb, opens, glob, ends, nums, dead⟩) (by kernel_rfl))) (by kernel_rfl) ?_
    refine Hs.slot 67 (.c (.p 1 0)) (by kernel_rfl) (by kernel_rfl) ?_
    refine Hs.run0 300 (fun _ => by kernel_rfl) ?_
    refine Hs.condT (by kernel_rfl) ?_
    refine Hs.any [1, 2, 1010] (by kernel_rfl) ?_
    refine Hs.run0 300 (fun _ => by kernel_rfl) ?_
    refine Hs.callV (fun w' H => one_any want w') (by kernel_rfl) ?_
    refine Hs.run0 300 (fun _ => by kernel_rfl) ?_
    exact Hs.ret (v := .tuple #[]) Tryz.func8 (by kernel_rfl) fun w' H => hput w' _ H.only (H.at 0 (wr := true) (T := 55) (cs := wS ⟨ob, eb, nb, opens, glob, ends, nums, dead⟩) (by kernel_rfl)) (H.at 1 (wr := true) (T := 49) (cs := EN.sc ⟨xc, xg, xs, xp, xe, xd, xt, IntKind.i64.wrap (xw + b01 want)⟩) (by kernel_rfl))
/-- Says. -/
theorem says_any (M : WM) (p : Nat) (m : MD) (w : World) (h : WAt w p M) (hf : FewW M) (hm : U32 m.window) : Calls Tryz.prog 8 #[ptrV p, m.val] w (WtPost M p (saysS M.abs m) (.tuple #[]) w) := by
  by_cases h90 : m.kind = 90
  · exact says_open M p m w h hf h90
  by_cases h80 : m.kind = 80
  · exact says_global M p m w h h80
  by_cases hh : m.kind = 93 ∨ m.kind = 98
  · cases e : M.by m.chan with
    | none => exact says_none2 M p m w h hh e
    | some x => exact says_end M p m w h hh hm e
  · exact says_none M p m w h h90 h80 (fun e => hh (.inl e)) (fun e => hh (.inr e))
end Go.Proofs.YtkgikodiecmakaaGreatDoor

namespace Go.Proofs.YtkgikodiecmakaaGreatDoor
set_option linter.all false
set_option maxRecDepth 100000
open Go.RowKit
theorem putR_pf0 (k : Nat) (h1 : 1 ≤ k) (h2 : k ≤ 10) {fs gs : List FD} (hk : fs.map (fun f => f.pf.kind) = rkinds k) (h : fs.map FD.pf = gs.map FD.pf) : SameR (putR (firstR k) k fs) (putR (firstR k) k gs) := by
  have T : ∀ {x y : FD}, y.pf = x.pf → strOfNums y.text = strOfNums x.text := fun {x y} e => by rw [show y.text = x.text from congrArg PF.text e]
  have N : ∀ {x y : FD}, y.pf = x.pf → y.n = x.n := fun e => congrArg PF.n e
  have B : ∀ {x y : FD}, y.pf = x.pf → decide (y.n = 1) = decide (x.n = 1) := fun {x y} e => by rw [show y.n = x.n from congrArg PF.n e]
  rcases k10 h1 h2 with rfl | rfl | rfl | rfl | rfl | rfl | rfl | rfl | rfl | rfl
  · obtain ⟨a, b, c, d, e, f, rfl, _⟩ := ks6 hk
    obtain ⟨a', b', c', d', e', f', rfl, ha, hb, hc, hd, he, hf⟩ := fs6 h.symm
    exact ⟨rfl, T ha, rfl, rfl, N hb, N hc, N hd, N he, rfl, rfl, congrArg PF.text hf⟩
  · obtain ⟨a, b, rfl, _⟩ := ks2 hk
    obtain ⟨a', b', rfl, ha, hb⟩ := fs2 h.symm
    exact ⟨rfl, T ha, T hb, rfl, rfl, rfl, rfl, rfl, rfl, rfl, rfl⟩
  · exact SameR.refl _
  · obtain ⟨a, rfl, _⟩ := ks1 hk
    obtain ⟨a', rfl, ha⟩ := fs1 h.symm
    exact ⟨rfl, T ha, rfl, rfl, rfl, rfl, rfl, rfl, rfl, rfl, rfl⟩
  · obtain ⟨a, rfl, _⟩ := ks1 hk
    obtain ⟨a', rfl, ha⟩ := fs1 h.symm
    exact ⟨rfl, T ha, rfl, rfl, rfl, rfl, rfl, rfl, rfl, rfl, rfl⟩
  · obtain ⟨b, c, d, e, rfl, _⟩ := ks4 hk
    obtain ⟨b', c', d', e', rfl, hb, hc, hd, he⟩ := fs4 h.symm
    exact ⟨rfl, rfl, rfl, rfl, N hb, N hc, N hd, N he, rfl, rfl, rfl⟩
  · obtain ⟨a, rfl, _⟩ := ks1 hk
    obtain ⟨a', rfl, ha⟩ := fs1 h.symm
    exact ⟨rfl, rfl, rfl, rfl, rfl, rfl, rfl, rfl, B ha, rfl, rfl⟩
  · obtain ⟨a, rfl, _⟩ := ks1 hk
    obtain ⟨a', rfl, ha⟩ := fs1 h.symm
    exact ⟨rfl, T ha, rfl, rfl, rfl, rfl, rfl, rfl, rfl, rfl, rfl⟩
  · obtain ⟨a, rfl, _⟩ := ks1 hk
    obtain ⟨a', rfl, ha⟩ := fs1 h.symm
    exact ⟨rfl, rfl, rfl, rfl, rfl, rfl, rfl, rfl, rfl, N ha, rfl⟩
  · obtain ⟨a, b, c, d, rfl, _⟩ := ks4 hk
    obtain ⟨a', b', c', d', rfl, ha, hb, hc, hd⟩ := fs4 h.symm
    exact ⟨rfl, T ha, T hc, T hd, rfl, rfl, rfl, rfl, B hb, rfl, rfl⟩
theorem decR_same0 {s : ByteArray} {l : List Int} (hl : InB l) {a b : RQ} {E F : Int} (h : DecR s l a E) (g : DecR s l b F) : F = E ∧ SameR a b := by
  unfold DecR at h g
  cases hk : kindL s.data.toList with
  | none =>
    rw [hk] at h g
    exact ⟨g.1.trans h.1.symm, by rw [h.2, g.2]; exact SameR.refl _⟩
  | some k =>
    rw [hk] at h g
    obtain ⟨h1, h2, _⟩ := kindL_range hk
    dsimp only at h g
    unfold DecK at h g
    by_cases h0 : (readP (rkinds k) l).1 ≠ 0
    · rw [if_pos h0] at h g
      exact ⟨g.1.trans h.1.symm, by rw [h.2, g.2]; exact SameR.refl _⟩
    · rw [if_neg h0] at h g
      obtain ⟨fs, e1, h⟩ := h
      obtain ⟨gs, e2, g⟩ := g
      have hkk : fs.map (fun f => f.pf.kind) = rkinds k := by
        have := (readP_good (rkinds k) l hl (by simpa using h0)).1
        rw [← e1, List.map_map] at this
        exact this
      have hs := putR_pf0 k h1 h2 hkk (e1.trans e2.symm)
      have ha := askR_same hs k h1 h2
      rw [ha] at g
      split at h
      · rename_i hf
        rw [if_pos hf] at g
        exact ⟨g.1.trans h.1.symm, by rw [h.2, g.2]; exact hs⟩
      · rename_i hf
        rw [if_neg hf] at g
        exact ⟨g.1.trans h.1.symm, by rw [h.2, g.2]; exact SameR.refl _⟩

end Go.Proofs.YtkgikodiecmakaaGreatDoor

namespace Go.Proofs.YtkgikodiecmakaaGreatDoor
set_option linter.all false
open Go.RowKit

/-- A literal that is built, its cells named. -/
theorem wpList_built {P : Program} {ops : Array Oper} {rest : List Oper} {o : Oper} {a : Act} {w : World} {Q : Exit → Act → World → Prop} (d : Tmp) (hd : o.dst = some d) (hg : o.guard = none) (t : TypeId) (parts : Array (Nat × Operand)) (ho : o.op = .build t parts)
    (cells : Array Value) (hf : P.built t (parts.map fun (i, x) => (i, a.eval x)).toList = some cells)
    (h : wpList P ops Q rest (a.put (some d) (.agg cells)) w) : wpList P ops Q (o :: rest) a w := by
  refine wpList_build hg t parts ho (by rw [hf]; rfl) ?_
  rw [hf, hd]
  exact h
/-- Which of the kinds' blocks. -/
def kidx : Nat → Nat
  | 1 => 1
  | 2 => 2
  | 4 => 3
  | 5 => 4
  | 6 => 5
  | 7 => 6
  | 8 => 7
  | 9 => 8
  | 10 => 9
  | _ => 0
def kaddr (q k : Nat) : Option Addr := match kidx k with
  | 0 => none
  | i + 1 => some ⟨q + (i + 1), 0, none⟩
/-- What gets. -/
def rget : Nat → FuncId
  | 1 => 70
  | 2 => 73
  | 3 => 76
  | 4 => 79
  | 5 => 79
  | 6 => 83
  | 7 => 85
  | 8 => 79
  | 9 => 87
  | _ => 89
/-- What puts. -/
def rput : Nat → FuncId
  | 1 => 71
  | 2 => 74
  | 3 => 77
  | 4 => 80
  | 5 => 80
  | 6 => 84
  | 7 => 86
  | 8 => 80
  | 9 => 88
  | _ => 90
/-- What asks. -/
def rask : Nat → FuncId
  | 1 => 72
  | 2 => 75
  | 3 => 78
  | 4 => 81
  | 5 => 82
  | 6 => 78
  | 7 => 78
  | 8 => 82
  | 9 => 78
  | _ => 91
def rfn (f : FuncId) : Value := .func (Fn.func f) #[] #[]
/-- A rule's cells. -/
def rcells (q k : Nat) : List Value := [.string (rname k), .slice (kaddr q k) (rkinds k).length (rkinds k).length, rfn (rget k), rfn (rput k), rfn (rask k)]
def rcellsA (q k : Nat) : Array Value := (rcells q k).toArray
def zcells : List Value := [.string ⟨#[]⟩, .slice none 0 0, .nilFunc, .nilFunc, .nilFunc]
/-- The rules' cells, their kinds from block q + 1 on. -/
def rtab (q : Nat) : Array Value := (zcells ++ (rcells q 1 ++ (rcells q 2 ++ (rcells q 3 ++ (rcells q 4 ++ (rcells q 5 ++ (rcells q 6 ++ (rcells q 7 ++ (rcells q 8 ++ (rcells q 9 ++ rcells q 10)))))))))).toArray
def ztab : Array Value := (zcells ++ (zcells ++ (zcells ++ (zcells ++ (zcells ++ (zcells ++ (zcells ++ (zcells ++ (zcells ++ (zcells ++ zcells)))))))))).toArray
def rworld (w : World) : World := ((((((((((w.alloc (.cells ztab 114)).alloc (.cells #[.int .i64 4, .int .i64 3, .int .i64 3, .int .i64 3, .int .i64 3, .int .i64 4] 3)).alloc (.cells #[.int .i64 4, .int .i64 4] 3)).alloc (.cells #[.int .i64 4] 3)).alloc (.cells #[.int .i64 4] 3)).alloc (.cells #[.int .i64 3, .int .i64 3, .int .i64 3, .int .i64 3] 3)).alloc (.cells #[.int .i64 2] 3)).alloc (.cells #[.int .i64 4] 3)).alloc (.cells #[.int .i64 3] 3)).alloc (.cells #[.int .i64 4, .int .i64 2, .int .i64 4, .int .i64 4] 3))
theorem rworld_size (w : World) : (rworld w).heap.size = w.heap.size + 10 := by unfold rworld; simp
theorem rworld_tab (w : World) : Blk (rworld w) w.heap.size 114 ztab.toList := (((((((((Blk.new w 114 ztab.toList).alloc _).alloc _).alloc _).alloc _).alloc _).alloc _).alloc _).alloc _).alloc _
theorem rworld_only (w : World) : Only [] w (rworld w) := ((((((((((Only.refl [] w).alloc _).alloc _).alloc _).alloc _).alloc _).alloc _).alloc _).alloc _).alloc _).alloc _
theorem rworld_1 (w : World) : Blk (rworld w) (w.heap.size + 1) 3 [.int .i64 4, .int .i64 3, .int .i64 3, .int .i64 3, .int .i64 3, .int .i64 4] := by
  have h := Blk.new (w.alloc (.cells ztab 114)) 3 [.int .i64 4, .int .i64 3, .int .i64 3, .int .i64 3, .int .i64 3, .int .i64 4]
  rw [show (w.alloc (.cells ztab 114)).heap.size = w.heap.size + 1 by simp] at h
  exact ((((((((h).alloc _).alloc _).alloc _).alloc _).alloc _).alloc _).alloc _).alloc _
theorem rworld_2 (w : World) : Blk (rworld w) (w.heap.size + 2) 3 [.int .i64 4, .int .i64 4] := by
  have h := Blk.new ((w.alloc (.cells ztab 114)).alloc (.cells #[.int .i64 4, .int .i64 3, .int .i64 3, .int .i64 3, .int .i64 3, .int .i64 4] 3)) 3 [.int .i64 4, .int .i64 4]
  rw [show ((w.alloc (.cells ztab 114)).alloc (.cells #[.int .i64 4, .int .i64 3, .int .i64 3, .int .i64 3, .int .i64 3, .int .i64 4] 3)).heap.size = w.heap.size + 2 by simp] at h
  exact (((((((h).alloc _).alloc _).alloc _).alloc _).alloc _).alloc _).alloc _
theorem rworld_4 (w : World) : Blk (rworld w) (w.heap.size + 3) 3 [.int .i64 4] := by
  have h := Blk.new (((w.alloc (.cells ztab 114)).alloc (.cells #[.int .i64 4, .int .i64 3, .int .i64 3, .int .i64 3, .int .i64 3, .int .i64 4] 3)).alloc (.cells #[.int .i64 4, .int .i64 4] 3)) 3 [.int .i64 4]
  rw [show (((w.alloc (.cells ztab 114)).alloc (.cells #[.int .i64 4, .int .i64 3, .int .i64 3, .int .i64 3, .int .i64 3, .int .i64 4] 3)).alloc (.cells #[.int .i64 4, .int .i64 4] 3)).heap.size = w.heap.size + 3 by simp] at h
  exact ((((((h).alloc _).alloc _).alloc _).alloc _).alloc _).alloc _
theorem rworld_5 (w : World) : Blk (rworld w) (w.heap.size + 4) 3 [.int .i64 4] := by
  have h := Blk.new ((((w.alloc (.cells ztab 114)).alloc (.cells #[.int .i64 4, .int .i64 3, .int .i64 3, .int .i64 3, .int .i64 3, .int .i64 4] 3)).alloc (.cells #[.int .i64 4, .int .i64 4] 3)).alloc (.cells #[.int .i64 4] 3)) 3 [.int .i64 4]
  rw [show ((((w.alloc (.cells ztab 114)).alloc (.cells #[.int .i64 4, .int .i64 3, .int .i64 3, .int .i64 3, .int .i64 3, .int .i64 4] 3)).alloc (.cells #[.int .i64 4, .int .i64 4] 3)).alloc (.cells #[.int .i64 4] 3)).heap.size = w.heap.size + 4 by simp] at h
  exact (((((h).alloc _).alloc _).alloc _).alloc _).alloc _
theorem rworld_6 (w : World) : Blk (rworld w) (w.heap.size + 5) 3 [.int .i64 3, .int .i64 3, .int .i64 3, .int .i64 3] := by
  have h := Blk.new (((((w.alloc (.cells ztab 114)).alloc (.cells #[.int .i64 4, .int .i64 3, .int .i64 3, .int .i64 3, .int .i64 3, .int .i64 4] 3)).alloc (.cells #[.int .i64 4, .int .i64 4] 3)).alloc (.cells #[.int .i64 4] 3)).alloc (.cells #[.int .i64 4] 3)) 3 [.int .i64 3, .int .i64 3, .int .i64 3, .int .i64 3]
  rw [show (((((w.alloc (.cells ztab 114)).alloc (.cells #[.int .i64 4, .int .i64 3, .int .i64 3, .int .i64 3, .int .i64 3, .int .i64 4] 3)).alloc (.cells #[.int .i64 4, .int .i64 4] 3)).alloc (.cells #[.int .i64 4] 3)).alloc (.cells #[.int .i64 4] 3)).heap.size = w.heap.size + 5 by simp] at h
  exact ((((h).alloc _).alloc _).alloc _).alloc _
theorem rworld_7 (w : World) : Blk (rworld w) (w.heap.size + 6) 3 [.int .i64 2] := by
  have h := Blk.new ((((((w.alloc (.cells ztab 114)).alloc (.cells #[.int .i64 4, .int .i64 3, .int .i64 3, .int .i64 3, .int .i64 3, .int .i64 4] 3)).alloc (.cells #[.int .i64 4, .int .i64 4] 3)).alloc (.cells #[.int .i64 4] 3)).alloc (.cells #[.int .i64 4] 3)).alloc (.cells #[.int .i64 3, .int .i64 3, .int .i64 3, .int .i64 3] 3)) 3 [.int .i64 2]
  rw [show ((((((w.alloc (.cells ztab 114)).alloc (.cells #[.int .i64 4, .int .i64 3, .int .i64 3, .int .i64 3, .int .i64 3, .int .i64 4] 3)).alloc (.cells #[.int .i64 4, .int .i64 4] 3)).alloc (.cells #[.int .i64 4] 3)).alloc (.cells #[.int .i64 4] 3)).alloc (.cells #[.int .i64 3, .int .i64 3, .int .i64 3, .int .i64 3] 3)).heap.size = w.heap.size + 6 by simp] at h
  exact (((h).alloc _).alloc _).alloc _
theorem rworld_8 (w : World) : Blk (rworld w) (w.heap.size + 7) 3 [.int .i64 4] := by
  have h := Blk.new (((((((w.alloc (.cells ztab 114)).alloc (.cells #[.int .i64 4, .int .i64 3, .int .i64 3, .int .i64 3, .int .i64 3, .int .i64 4] 3)).alloc (.cells #[.int .i64 4, .int .i64 4] 3)).alloc (.cells #[.int .i64 4] 3)).alloc (.cells #[.int .i64 4] 3)).alloc (.cells #[.int .i64 3, .int .i64 3, .int .i64 3, .int .i64 3] 3)).alloc (.cells #[.int .i64 2] 3)) 3 [.int .i64 4]
  rw [show (((((((w.alloc (.cells ztab 114)).alloc (.cells #[.int .i64 4, .int .i64 3, .int .i64 3, .int .i64 3, .int .i64 3, .int .i64 4] 3)).alloc (.cells #[.int .i64 4, .int .i64 4] 3)).alloc (.cells #[.int .i64 4] 3)).alloc (.cells #[.int .i64 4] 3)).alloc (.cells #[.int .i64 3, .int .i64 3, .int .i64 3, .int .i64 3] 3)).alloc (.cells #[.int .i64 2] 3)).heap.size = w.heap.size + 7 by simp] at h
  exact ((h).alloc _).alloc _
theorem rworld_9 (w : World) : Blk (rworld w) (w.heap.size + 8) 3 [.int .i64 3] := by
  have h := Blk.new ((((((((w.alloc (.cells ztab 114)).alloc (.cells #[.int .i64 4, .int .i64 3, .int .i64 3, .int .i64 3, .int .i64 3, .int .i64 4] 3)).alloc (.cells #[.int .i64 4, .int .i64 4] 3)).alloc (.cells #[.int .i64 4] 3)).alloc (.cells #[.int .i64 4] 3)).alloc (.cells #[.int .i64 3, .int .i64 3, .int .i64 3, .int .i64 3] 3)).alloc (.cells #[.int .i64 2] 3)).alloc (.cells #[.int .i64 4] 3)) 3 [.int .i64 3]
  rw [show ((((((((w.alloc (.cells ztab 114)).alloc (.cells #[.int .i64 4, .int .i64 3, .int .i64 3, .int .i64 3, .int .i64 3, .int .i64 4] 3)).alloc (.cells #[.int .i64 4, .int .i64 4] 3)).alloc (.cells #[.int .i64 4] 3)).alloc (.cells #[.int .i64 4] 3)).alloc (.cells #[.int .i64 3, .int .i64 3, .int .i64 3, .int .i64 3] 3)).alloc (.cells #[.int .i64 2] 3)).alloc (.cells #[.int .i64 4] 3)).heap.size = w.heap.size + 8 by simp] at h
  exact (h).alloc _
theorem rworld_10 (w : World) : Blk (rworld w) (w.heap.size + 9) 3 [.int .i64 4, .int .i64 2, .int .i64 4, .int .i64 4] := by
  have h := Blk.new (((((((((w.alloc (.cells ztab 114)).alloc (.cells #[.int .i64 4, .int .i64 3, .int .i64 3, .int .i64 3, .int .i64 3, .int .i64 4] 3)).alloc (.cells #[.int .i64 4, .int .i64 4] 3)).alloc (.cells #[.int .i64 4] 3)).alloc (.cells #[.int .i64 4] 3)).alloc (.cells #[.int .i64 3, .int .i64 3, .int .i64 3, .int .i64 3] 3)).alloc (.cells #[.int .i64 2] 3)).alloc (.cells #[.int .i64 4] 3)).alloc (.cells #[.int .i64 3] 3)) 3 [.int .i64 4, .int .i64 2, .int .i64 4, .int .i64 4]
  rw [show (((((((((w.alloc (.cells ztab 114)).alloc (.cells #[.int .i64 4, .int .i64 3, .int .i64 3, .int .i64 3, .int .i64 3, .int .i64 4] 3)).alloc (.cells #[.int .i64 4, .int .i64 4] 3)).alloc (.cells #[.int .i64 4] 3)).alloc (.cells #[.int .i64 4] 3)).alloc (.cells #[.int .i64 3, .int .i64 3, .int .i64 3, .int .i64 3] 3)).alloc (.cells #[.int .i64 2] 3)).alloc (.cells #[.int .i64 4] 3)).alloc (.cells #[.int .i64 3] 3)).heap.size = w.heap.size + 9 by simp] at h
  exact h
theorem rdI_blk {w : World} {g : Nat} {t : TypeId} {ks : List Int} (h : Blk w g t (ks.map (.int .i64))) : RdI w (some ⟨g, 0, none⟩) ks := fun _ => ⟨g, 0, rfl, h.lt, fun i v hi => by
  have : w.cell? ⟨g, 0 + i, none⟩ = (ks.map (Value.int .i64))[0 + i]? := h.cell _
  rw [this, Nat.zero_add, List.getElem?_map, hi]
  rfl⟩
theorem rworld_kinds (w : World) (k : Nat) (h1 : 1 ≤ k) (h2 : k ≤ 10) : RdI (rworld w) (kaddr w.heap.size k) (rkinds k) := by
  rcases k10 h1 h2 with rfl | rfl | rfl | rfl | rfl | rfl | rfl | rfl | rfl | rfl
  · exact rdI_blk (rworld_1 w)
  · exact rdI_blk (rworld_2 w)
  · exact RdG.nil
  · exact rdI_blk (rworld_4 w)
  · exact rdI_blk (rworld_5 w)
  · exact rdI_blk (rworld_6 w)
  · exact rdI_blk (rworld_7 w)
  · exact rdI_blk (rworld_8 w)
  · exact rdI_blk (rworld_9 w)
  · exact rdI_blk (rworld_10 w)
set_option maxRecDepth 100000 in
set_option maxHeartbeats 3200000 in
theorem rules_any (w : World) : Calls Tryz.prog 55 #[] w fun e w' => e = .returned (.agg (rtab w.heap.size)) ∧ Only [] w w' ∧ w'.heap.size = w.heap.size + 10 ∧ ∀ k, 1 ≤ k → k ≤ 10 → RdI w' (kaddr w.heap.size k) (rkinds k) := by
  have hz : (rworld w).heap[w.heap.size]? = some (.cells ztab 114 (0, 0)) := rworld_tab w
  have hfin : Only [] w ((rworld w).setRow w.heap.size (rtab w.heap.size)) ∧ ((rworld w).setRow w.heap.size (rtab w.heap.size)).heap.size = w.heap.size + 10 ∧ ∀ k, 1 ≤ k → k ≤ 10 → RdI ((rworld w).setRow w.heap.size (rtab w.heap.size)) (kaddr w.heap.size k) (rkinds k) := by
    refine ⟨(rworld_only w).trans (only_setRow _ _ _) (by simp), by rw [setRow_size, rworld_size], fun k h1 h2 => ?_⟩
    refine RdG.onlyL (rworld_kinds w k h1 h2) (only_setRow _ _ _) (fun a ha h0 => ?_)
    unfold kaddr at ha
    split at ha
    · cases ha
    · injection ha with ha
      rw [← ha]
      simp
  have hbl : Blk ((rworld w).setRow w.heap.size (rtab w.heap.size)) w.heap.size 114 (rtab w.heap.size).toList := blk_setRow (rworld_tab w) (rtab w.heap.size).toList
  replace hfin := hide hfin
  replace hbl := hide hbl
  unfold rworld at hz
  replace hz := hide hz
  go_enter Tryz.func55, Tryz.ntmps55
  go_wp2_with (first | (refine wpList_built 2 rfl rfl 113 _ rfl (rcellsA w.heap.size 1) (by kernel_rfl) ?_) | (refine wpList_built 4 rfl rfl 113 _ rfl (rcellsA w.heap.size 2) (by kernel_rfl) ?_) | (refine wpList_built 5 rfl rfl 113 _ rfl (rcellsA w.heap.size 3) (by kernel_rfl) ?_) | (refine wpList_built 7 rfl rfl 113 _ rfl (rcellsA w.heap.size 4) (by kernel_rfl) ?_) | (refine wpList_built 9 rfl rfl 113 _ rfl (rcellsA w.heap.size 5) (by kernel_rfl) ?_) | (refine wpList_built 11 rfl rfl 113 _ rfl (rcellsA w.heap.size 6) (by kernel_rfl) ?_) | (refine wpList_built 13 rfl rfl 113 _ rfl (rcellsA w.heap.size 7) (by kernel_rfl) ?_) | (refine wpList_built 15 rfl rfl 113 _ rfl (rcellsA w.heap.size 8) (by kernel_rfl) ?_) | (refine wpList_built 17 rfl rfl 113 _ rfl (rcellsA w.heap.size 9) (by kernel_rfl) ?_) | (refine wpList_built 19 rfl rfl 113 _ rfl (rcellsA w.heap.size 10) (by kernel_rfl) ?_) | (refine wpList_built 20 rfl rfl 114 _ rfl (rtab w.heap.size) (by kernel_rfl) ?_) | (refine wpList_store_row rfl 114 (.tmp 0) (.tmp 20) rfl w.heap.size (rtab w.heap.size) rfl rfl 114 ztab hz.out (by kernel_rfl) (by kernel_rfl) (by kernel_rfl) ?_))
  (try simp only [Exit.inBlock, Exit.then])
  refine bodyPost_ret (results_cell_row rfl _ _ w.heap.size 114 (rtab w.heap.size) (0, 0) _ (by rfl) hbl.out Tryz.underlying114 rfl (by kernel_rfl)) (by rfl) ⟨rfl, hfin.out⟩
end Go.Proofs.YtkgikodiecmakaaGreatDoor

namespace Go.Proofs.YtkgikodiecmakaaGreatDoor
set_option linter.all false
open Go.RowKit

/-- Fields that are read. -/
structure RdF (w : World) (A : Option Addr) (fs : List FD) : Prop where
  cells : 0 < fs.length → ∃ b off, A = some ⟨b, off, none⟩ ∧ b < w.heap.size ∧ ∀ i f, fs[i]? = some f →
    w.cell? ⟨b, off + i * 4, none⟩ = some (.int .i64 f.kind) ∧ w.cell? ⟨b, off + i * 4 + 1, none⟩ = some (.int .u32 f.n) ∧ w.cell? ⟨b, off + i * 4 + 2, none⟩ = some (.slice f.tA f.text.length f.tc) ∧ w.cell? ⟨b, off + i * 4 + 3, none⟩ = some (.slice f.lA f.list.length f.lc)
  ok : ∀ f ∈ fs, f.ok w ∧ 0 ≤ f.n ∧ f.n ≤ 4294967295
theorem RdF.only {w w' : World} {A : Option Addr} {fs : List FD} (h : RdF w A fs) (hb : Only [] w w') : RdF w' A fs := by
  refine ⟨fun h0 => ?_, fun f hf => ⟨(h.ok f hf).1.only hb, (h.ok f hf).2⟩⟩
  obtain ⟨b, off, rfl, hlt, hc⟩ := h.cells h0
  refine ⟨b, off, rfl, Nat.lt_of_lt_of_le hlt hb.size, fun i f hi => ?_⟩
  obtain ⟨c0, c1, c2, c3⟩ := hc i f hi
  exact ⟨cellL hb hlt (by simp) c0, cellL hb hlt (by simp) c1, cellL hb hlt (by simp) c2, cellL hb hlt (by simp) c3⟩

def ints (l : List Int) : List Value := l.map (.int .i64)
theorem intInfo : (Tryz.prog.info? 3).map (fun i => (i.zero, i.size, i.bytes)) = some (some (.int .i64 0), 1, 8) := by kernel_rfl
theorem make_ints (k : Nat) (hk : k ≤ 1000) (W : World) : (Instr.makeSlice 81 (.int .i64 (k : Int)) (.int .i64 (k : Int))).run Tryz.prog W = .ok (.slice (some ⟨W.heap.size, 0, none⟩) k k) (W.alloc (.cells (ints (List.replicate k 0)).toArray 3)) := by
  have h := run_make_row' (P := Tryz.prog) 81 3 (.int .i64 0) 8 Tryz.underlying81 intInfo rfl .i64 .i64 k (by omega) (by omega) W
  have e : madeCells #[.int .i64 0] k = (ints (List.replicate k 0)).toArray := by
    apply Array.ext
    · simp [madeCells, ints]
    · intro i h1 h2
      simp [madeCells, ints, Nat.mod_one]
  rw [e] at h
  exact h
theorem take_set {cs : List Int} {k : Nat} (x : Int) (h : k < cs.length) : (cs.set k x).take (k + 1) = cs.take k ++ [x] := by
  rw [List.take_add_one, List.getElem?_set_self h, List.take_set_of_le (Nat.le_refl _)]
  rfl

def WritePost (w : World) (res : Int × List Int) : Ending → World → Prop := fun E w' =>
  Only [] w w' ∧ ∃ v, E = .returned (.tuple #[v, .int .i64 res.1]) ∧ OwnB w' w.heap.size v res.2
theorem writePost_none (w w' : World) (e : Int) (h : Only [] w w') : WritePost w (e, []) (.returned (.tuple #[.slice none 0 0, .int .i64 e])) w' := ⟨h, _, rfl, ownB_nil _ _⟩

/-- Where Write's loop stands: k fields are written, as acc. -/
structure WL (w wr : World) (q : Nat) (fs : List FD) (res : Int × List Int) (k : Nat) (v : Value) (acc : List Int) : Prop where
  res : res = writeFrom ((fs.drop k).map FD.pf) acc
  own : WrV wr (q + 1) (q + 2) v acc
  few : acc.length ≤ 33792
  tab : Blk wr q 142 tab.toList
  only : Only [] w wr
  low : w.heap.size ≤ q

end Go.Proofs.YtkgikodiecmakaaGreatDoor

namespace Go.Proofs.YtkgikodiecmakaaGreatDoor
set_option linter.all false
open Go.RowKit

theorem fcells_at : ∀ (fs : List FD) (i : Nat) (f : FD) (j : Nat), fs[i]? = some f → j < 4 → (fcells fs)[i * 4 + j]? = f.cells[j]?
  | [], i, f, j, h, _ => by simp at h
  | g :: fs, 0, f, j, h, hj => by
    simp at h
    subst h
    unfold fcells
    rw [List.flatMap_cons, Nat.zero_mul, Nat.zero_add, List.getElem?_append_left (by simpa [FD.cells] using hj)]
  | g :: fs, i + 1, f, j, h, hj => by
    simp at h
    have := fcells_at fs i f j h hj
    unfold fcells at this ⊢
    rw [List.flatMap_cons, List.getElem?_append_right (by simp [FD.cells]; omega), ← this]
    congr 1
    simp [FD.cells]
    omega
/-- Fields in a row of a block. -/
theorem rdF_of {w : World} {b off : Nat} {fs : List FD} (hb : b < w.heap.size) (hc : ∀ j u, (fcells fs)[j]? = some u → w.cell? ⟨b, off + j, none⟩ = some u) (ok : ∀ f ∈ fs, f.ok w ∧ 0 ≤ f.n ∧ f.n ≤ 4294967295) : RdF w (some ⟨b, off, none⟩) fs := by
  refine ⟨fun _ => ⟨b, off, rfl, hb, fun i f hi => ?_⟩, ok⟩
  have h := fun j hj => fcells_at fs i f j hi hj
  have h0 := h 0 (by decide); have h1 := h 1 (by decide); have h2 := h 2 (by decide); have h3 := h 3 (by decide)
  refine ⟨hc _ _ h0, ?_, ?_, ?_⟩
  · rw [Nat.add_assoc]; exact hc _ _ h1
  · rw [Nat.add_assoc]; exact hc _ _ h2
  · rw [Nat.add_assoc]; exact hc _ _ h3
theorem rdF_new (w : World) (fs : List FD) (cs : Array Value) (h : cs = (fcells fs).toArray) (ok : ∀ f ∈ fs, f.ok w ∧ 0 ≤ f.n ∧ f.n ≤ 4294967295) : RdF (w.alloc (.cells cs 86)) (some ⟨w.heap.size, 0, none⟩) fs :=
  rdF_of (by simp) (fun j u hj => by rw [h, Nat.zero_add, World.cell?_alloc_mark]; simpa using hj) (fun f hf => ⟨(ok f hf).1.only ((Only.refl _ _).alloc _), (ok f hf).2⟩)
theorem OwnF.rdF {w : World} {base : Nat} {A : Option Addr} {n cap : Nat} {fs : List FD} (h : OwnF w base (.slice A n cap) fs) (ok : ∀ f ∈ fs, f.ok w ∧ 0 ≤ f.n ∧ f.n ≤ 4294967295) : RdF w A fs := by
  obtain ⟨A', cap', e, _, _, hc⟩ := h.form
  injection e with e1 e2 e3
  subst e1
  by_cases h0 : 0 < fs.length
  · obtain ⟨b, rfl, _, hb, hcell⟩ := hc h0
    exact rdF_of hb (fun j u hj => by rw [Nat.zero_add]; exact hcell j u hj) ok
  · exact ⟨fun h => absurd h h0, ok⟩
theorem rd_mark (w : World) (cs : Array Value) (fr : Nat × Nat) (l : List Int) (h : cs = (u8s l).toArray) : Rd (w.alloc (.cells cs 5 fr)) (some ⟨w.heap.size, 0, none⟩) l := fun _ => ⟨w.heap.size, 0, rfl, by simp, fun i v hi => by
  rw [h, World.cell?_alloc_mark]
  simp [u8s, hi]⟩
theorem rdI_new (w : World) (cs : Array Value) (l : List Int) (h : cs = (ints l).toArray) : RdI (w.alloc (.cells cs 3)) (some ⟨w.heap.size, 0, none⟩) l := fun _ => ⟨w.heap.size, 0, rfl, by simp, fun i v hi => by
  rw [h, World.cell?_alloc_mark]
  simp [ints, hi]⟩
theorem rdS_new (w : World) (cs : Array Value) (l : List ByteArray) (t : TypeId) (h : cs = (l.map Value.string).toArray) : RdS (w.alloc (.cells cs t)) (some ⟨w.heap.size, 0, none⟩) l := fun _ => ⟨w.heap.size, 0, rfl, by simp, fun i v hi => by
  rw [h, World.cell?_alloc_mark]
  simp [hi]⟩

theorem exA : writeP [⟨2, 1, [], []⟩, ⟨3, 258, [], []⟩, ⟨4, 0, [97, 98], []⟩] = (0, [1, 0, 0, 1, 2, 0, 0, 0, 2, 97, 98]) := by decide +kernel
theorem exB : writeP [⟨5, 0, [], [⟨#[97]⟩, ⟨#[98]⟩]⟩] = (0, [0, 0, 0, 3, 97, 44, 98]) := by decide +kernel
theorem exC : readP [2] [7] = (0, [⟨2, 1, [], []⟩]) := by rfl
theorem exD : readP [4] [0, 0, 0, 5, 97] = (3, []) := by rfl
end Go.Proofs.YtkgikodiecmakaaGreatDoor

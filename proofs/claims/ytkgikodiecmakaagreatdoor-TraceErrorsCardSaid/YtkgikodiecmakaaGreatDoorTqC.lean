/- Layer 4: the getters and the putters, by the kind; no condition but the sizes · Layer 4: a kind's rule, its name; no condition · Layer 4: what is asked of a request; no condition · Layer 4: Decode; no condition but the number of bytes · Layer 29: what is heard of a channel; for all ends and messages; no condition but that the message is right · The machine: a run up to the end of a region, several ways brought together; over any program; no condition · The machine: what is only read, from world to world; over any program; no condition · The machine: regions that draw, several ways in them brought together; over any program; no condition · A machine of symbols: a struct is equal to itself. Over any program; no condition · The machine: an operation of two numbers taken by hand, a shift; over any program; no condition · The machine: a call that turns a block and a slice of ours at once; over any program; no condition · The machine: facts that stay, calls that turn a block of ours and answer some thing, calls that are deferred; over any program; no condition · Layer 29: what is heard of a channel's end; for all ends and messages; no condition but that the message lies in memory. -/
import Derived.Test.YtkgikodiecmakaaGreatDoorTqA
import Derived.Test.YtkgikodiecmakaaGreatDoorTqB
import Derived.Test.YtkgikodiecmakaaGreatDoorShelf
import Derived.Test.YtkgikodiecmakaaGreatDoorEngL
import Derived.Test.YtkgikodiecmakaaGreatDoorEngF
import Derived.Laws.StructEq
namespace Go.Proofs.YtkgikodiecmakaaGreatDoor
set_option linter.all false
open Go.RowKit

/-- What gets, of a kind. -/
theorem rget_any (k : Nat) (h1 : 1 ≤ k) (h2 : k ≤ 10) : ∃ F : FuncId, rget k = F ∧ (∀ (args : Array Value) (w : World), (callFunc F args).run Tryz.prog w = .ok (.enter F args) w) ∧
    ∀ (w : World) (m : RQ) (g : Nat), Blk w g 120 m.cells → m.ok w → m.text.size ≤ 140737488355328 → m.value.size ≤ 140737488355328 → m.lang.size ≤ 140737488355328 → Calls Tryz.prog F #[.pointer (some ⟨g, 0, none⟩)] w (GetsPost w (partsR m k)) := by
  rcases k10 h1 h2 with rfl | rfl | rfl | rfl | rfl | rfl | rfl | rfl | rfl | rfl
  · exact ⟨_, rfl, fun args w => by kernel_rfl, fun w m g hg hm hs hv hl => getPtyR_any m g w hg hm hs⟩
  · exact ⟨_, rfl, fun args w => by kernel_rfl, fun w m g hg hm hs hv hl => getEnvR_any m g w hg hs hv⟩
  · exact ⟨_, rfl, fun args w => by kernel_rfl, fun w m g hg hm hs hv hl => getNoneR_any m g w hg⟩
  · exact ⟨_, rfl, fun args w => by kernel_rfl, fun w m g hg hm hs hv hl => getTextR_any m g w hg hs⟩
  · exact ⟨_, rfl, fun args w => by kernel_rfl, fun w m g hg hm hs hv hl => getTextR_any m g w hg hs⟩
  · exact ⟨_, rfl, fun args w => by kernel_rfl, fun w m g hg hm hs hv hl => getSizeR_any m g w hg hm.nums⟩
  · exact ⟨_, rfl, fun args w => by kernel_rfl, fun w m g hg hm hs hv hl => getOnR_any m g w hg⟩
  · exact ⟨_, rfl, fun args w => by kernel_rfl, fun w m g hg hm hs hv hl => getTextR_any m g w hg hs⟩
  · exact ⟨_, rfl, fun args w => by kernel_rfl, fun w m g hg hm hs hv hl => getCodeR_any m g w hg hm.nums.2.2.2.2⟩
  · exact ⟨_, rfl, fun args w => by kernel_rfl, fun w m g hg hm hs hv hl => getDeathR_any m g w hg hs hv hl⟩
def PutsPost (g : Nat) (w : World) (m : RQ) : Ending → World → Prop := fun e w' => e = .returned (.tuple #[]) ∧ Only [g] w w' ∧ Blk w' g 120 m.cells
theorem len_kinds {fs : List FD} {k : Nat} (h : fs.map (fun f => f.pf.kind) = rkinds k) : fs.length = (rkinds k).length := by rw [← h, List.length_map]
/-- What puts, of a kind. -/
theorem rput_any (k : Nat) (h1 : 1 ≤ k) (h2 : k ≤ 10) : ∃ F : FuncId, rput k = F ∧ (∀ (args : Array Value) (w : World), (callFunc F args).run Tryz.prog w = .ok (.enter F args) w) ∧
    ∀ (m : RQ) (g : Nat) (w0 w : World) (A : Option Addr) (fs : List FD) (n c : Nat), fs.length = n → fs.map (fun f => f.pf.kind) = rkinds k → n ≤ c → c ≤ maxLen → RdF w0 A fs → Only [] w0 w → w0.heap.size ≤ g → Blk w g 120 m.cells → Calls Tryz.prog F #[.pointer (some ⟨g, 0, none⟩), .slice A n c] w (PutsPost g w (putR m k fs)) := by
  rcases k10 h1 h2 with rfl | rfl | rfl | rfl | rfl | rfl | rfl | rfl | rfl | rfl
  · refine ⟨_, rfl, fun args w => by kernel_rfl, fun m g w0 w A fs n c hn hk hc hcm hF hO hlt hg => ?_⟩
    obtain ⟨x1, x2, x3, x4, x5, x6, rfl, _⟩ := ks6 hk
    subst hn
    exact putPtyR_any m g w0 w A x1 x2 x3 x4 x5 x6 [] c hF hO hlt hg hc hcm
  · refine ⟨_, rfl, fun args w => by kernel_rfl, fun m g w0 w A fs n c hn hk hc hcm hF hO hlt hg => ?_⟩
    obtain ⟨x1, x2, rfl, _⟩ := ks2 hk
    subst hn
    exact putEnvR_any m g w0 w A x1 x2 [] c hF hO hlt hg
  · refine ⟨_, rfl, fun args w => by kernel_rfl, fun m g w0 w A fs n c hn hk hc hcm hF hO hlt hg => ?_⟩
    obtain rfl : fs = [] := List.eq_nil_of_length_eq_zero (len_kinds hk)
    subst hn
    exact putNoneR_any m g w _ hg
  · refine ⟨_, rfl, fun args w => by kernel_rfl, fun m g w0 w A fs n c hn hk hc hcm hF hO hlt hg => ?_⟩
    obtain ⟨x1, rfl, _⟩ := ks1 hk
    subst hn
    exact putTextR_any m g w0 w A x1 [] c hF hO hlt hg
  · refine ⟨_, rfl, fun args w => by kernel_rfl, fun m g w0 w A fs n c hn hk hc hcm hF hO hlt hg => ?_⟩
    obtain ⟨x1, rfl, _⟩ := ks1 hk
    subst hn
    exact putTextR_any m g w0 w A x1 [] c hF hO hlt hg
  · refine ⟨_, rfl, fun args w => by kernel_rfl, fun m g w0 w A fs n c hn hk hc hcm hF hO hlt hg => ?_⟩
    obtain ⟨x1, x2, x3, x4, rfl, _⟩ := ks4 hk
    subst hn
    exact putSizeR_any m g w0 w A x1 x2 x3 x4 [] c hF hO hlt hg
  · refine ⟨_, rfl, fun args w => by kernel_rfl, fun m g w0 w A fs n c hn hk hc hcm hF hO hlt hg => ?_⟩
    obtain ⟨x1, rfl, _⟩ := ks1 hk
    subst hn
    exact putOnR_any m g w0 w A x1 [] c hF hO hlt hg
  · refine ⟨_, rfl, fun args w => by kernel_rfl, fun m g w0 w A fs n c hn hk hc hcm hF hO hlt hg => ?_⟩
    obtain ⟨x1, rfl, _⟩ := ks1 hk
    subst hn
    exact putTextR_any m g w0 w A x1 [] c hF hO hlt hg
  · refine ⟨_, rfl, fun args w => by kernel_rfl, fun m g w0 w A fs n c hn hk hc hcm hF hO hlt hg => ?_⟩
    obtain ⟨x1, rfl, _⟩ := ks1 hk
    subst hn
    exact putCodeR_any m g w0 w A x1 [] c hF hO hlt hg
  · refine ⟨_, rfl, fun args w => by kernel_rfl, fun m g w0 w A fs n c hn hk hc hcm hF hO hlt hg => ?_⟩
    obtain ⟨x1, x2, x3, x4, rfl, _⟩ := ks4 hk
    subst hn
    exact putDeathR_any m g w0 w A x1 x2 x3 x4 [] c hF hO hlt hg
end Go.Proofs.YtkgikodiecmakaaGreatDoor

namespace Go.Proofs.YtkgikodiecmakaaGreatDoor
set_option linter.all false
open Go.RowKit

/-- Two results, the first one in memory. -/
theorem ret_row_tmp {P : Program} {fn : Func} {p t : Tmp} {T : TypeId} {R : Ending → World → Prop} {a : Act} {w : World} {g : Nat} {d : TypeDesc} (cs : Array Value) (h : fn.results = #[.cell p T, .tmp t]) (hp : a.tmps.getD p undef = .pointer (some ⟨g, 0, none⟩)) (hd : a.defers = [])
    (hg : w.heap[g]? = some (.cells cs T (0, 0))) (hu : P.underlying T = some d) (hk : (match d with | .struct _ | .array _ _ => true | _ => false) = true) (hs : (P.info? T).map (·.size) = some cs.size)
    (hR : R (.returned (.tuple #[.agg cs, a.tmps.getD t undef])) w) : bodyPost P fn R .ret a w := by
  refine bodyPost_ret (v := .tuple #[.agg cs, a.tmps.getD t undef]) ?_ hd hR
  have hp' : a.tmps[p]?.getD undef = .pointer (some ⟨g, 0, none⟩) := by simpa using hp
  simp [results, h, hp', asAddr, run_loadVar_row (P := P) w g T T cs (0, 0) d hg hu hk hs]
def ruleV (k : Nat) (KA : Option Addr) : Value := .agg #[.string (rname k), .slice KA (rkinds k).length (rkinds k).length, rfn (rget k), rfn (rput k), rfn (rask k)]
/-- A rule handed on. -/
def RulePost (w : World) (k : Nat) : Ending → World → Prop := fun e w' => Only [] w w' ∧ ∃ KA : Option Addr, e = .returned (.tuple #[ruleV k KA, .bool true]) ∧ RdI w' KA (rkinds k)
theorem rule_index (q k : Nat) (h1 : 1 ≤ k) (h2 : k ≤ 10) (w : World) : (Instr.index 114 (.agg (rtab q)) (.int .i64 (k : Int))).run Tryz.prog w = .ok (ruleV k (kaddr q k)) w := by
  rcases k10 h1 h2 with rfl | rfl | rfl | rfl | rfl | rfl | rfl | rfl | rfl | rfl <;> kernel_rfl
def zrule : Array Value := #[.string ⟨#[]⟩, .slice none 0 0, .nilFunc, .nilFunc, .nilFunc]
theorem rule_row {w : World} {g : Nat} {t : TypeId} {a0 a1 a2 a3 a4 b0 b1 b2 b3 b4 : Value} (h : Blk w g t [a0, a1, a2, a3, a4]) : Blk (((((w.setCell ⟨g, 0, none⟩ b0).setCell ⟨g, 1, none⟩ b1).setCell ⟨g, 2, none⟩ b2).setCell ⟨g, 3, none⟩ b3).setCell ⟨g, 4, none⟩ b4) g t [b0, b1, b2, b3, b4] := (((((h.set_ 0 b0).set_ 1 b1).set_ 2 b2).set_ 3 b3).set_ 4 b4)
theorem rule_only {L : List Nat} {w0 w : World} {g : Nat} {b0 b1 b2 b3 b4 : Value} (hg : g ∈ L ∨ w0.heap.size ≤ g) (h : Only L w0 w) : Only L w0 (((((w.setCell ⟨g, 0, none⟩ b0).setCell ⟨g, 1, none⟩ b1).setCell ⟨g, 2, none⟩ b2).setCell ⟨g, 3, none⟩ b3).setCell ⟨g, 4, none⟩ b4) :=
  (((((h.setCell (p := ⟨g, 0, none⟩) hg _).setCell (p := ⟨g, 1, none⟩) hg _).setCell (p := ⟨g, 2, none⟩) hg _).setCell (p := ⟨g, 3, none⟩) hg _).setCell (p := ⟨g, 4, none⟩) hg _)
end Go.Proofs.YtkgikodiecmakaaGreatDoor

namespace Go.Proofs.YtkgikodiecmakaaGreatDoor
set_option linter.all false
open Go.RowKit

theorem index_mem (c : UInt8) : ∀ l : List UInt8, decide (0 ≤ Lib.indexByte l c) = decide (c ∈ l)
  | [] => by simp [Lib.indexByte]
  | b :: l => by
    have ih := index_mem c l
    have hge := Lib.indexByte_ge l c
    unfold Lib.indexByte
    by_cases hb : b = c
    · subst hb; simp
    · have hcb : ¬ c = b := fun e => hb e.symm
      rw [if_neg (by simpa using hb)]
      by_cases h1 : Lib.indexByte l c = -1
      · rw [h1] at ih ⊢
        simp [hcb] at ih ⊢
        exact ih
      · rw [if_neg (by simpa using h1)]
        have h0 : 0 ≤ Lib.indexByte l c := by omega
        rw [decide_eq_true h0] at ih
        rw [decide_eq_true (show 0 ≤ Lib.indexByte l c + 1 by omega)]
        have := of_decide_eq_true ih.symm
        simp [this]
theorem rhas_any (s : ByteArray) (w : World) : Calls Tryz.prog 105 #[.string s, .string ⟨#[61]⟩] w fun e w' => e = .returned (.bool (hasEq s)) ∧ w = w' :=
  (Tryz.strings_Contains_one s 61 w).mono fun e w' ⟨h1, h2⟩ => ⟨by rw [h1, index_mem]; rfl, h2.symm⟩
section
variable (m : RQ) (g : Nat) (w : World)
theorem askNoneR_any : Calls Tryz.prog 78 #[.pointer (some ⟨g, 0, none⟩)] w fun e w' => e = .returned (.int .i64 0) ∧ Only [] w w' := by
  go_enter Tryz.func78, Tryz.ntmps78
  go_wp2
  go_ret
  exact ⟨rfl, Only.refl _ _⟩
set_option maxRecDepth 100000 in
set_option maxHeartbeats 1600000 in
theorem askWordR_any (hg : Blk w g 120 m.cells) (hm : m.ok w) : Calls Tryz.prog 82 #[.pointer (some ⟨g, 0, none⟩)] w fun e w' => e = .returned (.int .i64 (wordE m.text 1)) ∧ Only [] w w' := by
  have c1 : w.cell? ⟨g, 1, none⟩ = some (.string m.text) := hg.cell 1
  have T := rword_any m.text 1 w hm.text
  go_enter Tryz.func82, Tryz.ntmps82
  go_wp2_with fail
  go_call T as e x ⟨rfl, rfl⟩
  clear T
  go_wp2_with fail
  go_ret
  exact ⟨rfl, Only.refl _ _⟩
set_option maxRecDepth 100000 in
set_option maxHeartbeats 1600000 in
theorem askExecR_any (hg : Blk w g 120 m.cells) (hm : m.ok w) : Calls Tryz.prog 81 #[.pointer (some ⟨g, 0, none⟩)] w fun e w' => e = .returned (.int .i64 (longE m.text.size)) ∧ Only [] w w' := by
  have c1 : w.cell? ⟨g, 1, none⟩ = some (.string m.text) := hg.cell 1
  have T := rlong_any m.text.size w
  go_enter Tryz.func81, Tryz.ntmps81
  go_wp2_with fail
  go_call T as e x ⟨rfl, rfl⟩
  clear T
  go_wp2_with fail
  go_ret
  exact ⟨rfl, Only.refl _ _⟩
set_option maxRecDepth 100000 in
set_option maxHeartbeats 1600000 in
theorem askPtyR_any (hg : Blk w g 120 m.cells) (hm : m.ok w) : Calls Tryz.prog 72 #[.pointer (some ⟨g, 0, none⟩)] w fun e w' => e = .returned (.int .i64 (firstE [wordE m.text 0, longE m.modes.length])) ∧ Only [] w w' := by
  have hlt := hg.lt
  go_enter Tryz.func72, Tryz.ntmps72
  go_wp2_with fail
  have hI : (fun w' : World => Blk w' g 120 m.cells) { w with drawn := w.drawn + 1 } := hg
  refine wp_region_E (fun w' : World => Blk w' g 120 m.cells) [] (by kernel_rfl) ?_
  refine wpAnyE_take 0 (v := (.pointer (some ⟨g, 0, none⟩))) rfl (by kernel_rfl) (fun _ _ _ h => h) hI (fun w' hw' => Or.inl ⟨by kernel_rfl, Or.inl (by go_simp)⟩) ?_
  refine wpAnyE_take 1 (v := (.pointer (some ⟨g, 0, none⟩))) rfl (by kernel_rfl) (fun _ _ _ h => h) hI (fun w' hw' => Or.inl ⟨by kernel_rfl, Or.inl (by go_simp)⟩) ?_
  refine wpAnyE_take 2 (v := (.pointer (some ⟨g, 0, none⟩))) rfl (by kernel_rfl) (fun _ _ _ h => h) hI (fun w' hw' => Or.inl ⟨by kernel_rfl, Or.inl (by go_simp)⟩) ?_
  refine wpAnyE_take 3 (v := (.pointer (some ⟨g, 1, none⟩))) rfl (by kernel_rfl) (fun _ _ _ h => h) hI (fun w' hw' => Or.inl ⟨by kernel_rfl, Or.inl (by go_simp)⟩) ?_
  refine wpAnyE_take 4 (v := (.string m.text)) rfl (by kernel_rfl) (fun _ _ _ h => h) hI (fun w' hw' => Or.inl ⟨by kernel_rfl, Or.inl (by have y0 : w'.cell? ⟨g, 1, none⟩ = some (.string m.text) := hw'.cell 1; go_simp)⟩) ?_
  refine wpAnyE_take 6 (v := (.pointer (some ⟨g, 0, none⟩))) rfl (by kernel_rfl) (fun _ _ _ h => h) hI (fun w' hw' => Or.inl ⟨by kernel_rfl, Or.inl (by go_simp)⟩) ?_
  refine wpAnyE_take 7 (v := (.pointer (some ⟨g, 0, none⟩))) rfl (by kernel_rfl) (fun _ _ _ h => h) hI (fun w' hw' => Or.inl ⟨by kernel_rfl, Or.inl (by go_simp)⟩) ?_
  refine wpAnyE_take 8 (v := (.pointer (some ⟨g, 0, none⟩))) rfl (by kernel_rfl) (fun _ _ _ h => h) hI (fun w' hw' => Or.inl ⟨by kernel_rfl, Or.inl (by go_simp)⟩) ?_
  refine wpAnyE_take 9 (v := (.pointer (some ⟨g, 8, none⟩))) rfl (by kernel_rfl) (fun _ _ _ h => h) hI (fun w' hw' => Or.inl ⟨by kernel_rfl, Or.inl (by go_simp)⟩) ?_
  refine wpAnyE_take 10 (v := (.slice m.mA m.modes.length m.mc)) rfl (by kernel_rfl) (fun _ _ _ h => h) hI (fun w' hw' => Or.inl ⟨by kernel_rfl, Or.inl (by have y0 : w'.cell? ⟨g, 8, none⟩ = some (.slice m.mA m.modes.length m.mc) := hw'.cell 8; go_simp)⟩) ?_
  refine wpAnyE_take 11 (v := (.int .i64 (m.modes.length : Int))) rfl (by kernel_rfl) (fun _ _ _ h => h) hI (fun w' hw' => Or.inl ⟨by kernel_rfl, Or.inl (by go_simp)⟩) ?_
  have T := rword_any m.text 0 w.drew hm.text
  refine wpAnyE_one 5 rfl (by kernel_rfl) hI (fun K hK => ?_)
  rw [if_pos (by kernel_rfl)]
  go_simp
  go_call T as e x ⟨rfl, rfl⟩
  clear T
  refine hK _ _ ?_
  clear hK K
  have T := rlong_any (m.modes.length) w.drew
  refine wpAnyE_one 12 rfl (by kernel_rfl) hI (fun K hK => ?_)
  rw [if_pos (by kernel_rfl)]
  go_simp
  go_call T as e x ⟨rfl, rfl⟩
  clear T
  refine hK _ _ ?_
  clear hK K
  refine wpAnyE_one 13 rfl (by kernel_rfl) hI (fun K hK => ?_)
  rw [if_pos (by kernel_rfl)]
  go_simp
  refine hK _ _ ?_
  clear hK K
  have PL : Only [] w ((w.alloc (.cells #[.int .i64 (wordE m.text 0), .int .i64 (longE m.modes.length)] 40)).drew) := ((Only.refl [] w).alloc _).drew
  have hIL : (fun w' : World => Blk w' g 120 m.cells) ((w.alloc (.cells #[.int .i64 (wordE m.text 0), .int .i64 (longE m.modes.length)] 40)).drew) := hg.only PL (by simp)
  have RL : RdI ((w.alloc (.cells #[.int .i64 (wordE m.text 0), .int .i64 (longE m.modes.length)] 40)).drew) (some ⟨w.heap.size, 0, none⟩) [(wordE m.text 0), (longE m.modes.length)] := rdI_blk (Blk.new w 40 ([(wordE m.text 0), (longE m.modes.length)].map (.int .i64)))
  have T := rfirst_any (some ⟨w.heap.size, 0, none⟩) [(wordE m.text 0), (longE m.modes.length)] 2 _ RL (by simp [maxLen])
  refine wpAnyE_one 14 rfl (by kernel_rfl) hIL (fun K hK => ?_)
  rw [if_pos (by kernel_rfl)]
  go_simp
  go_call T as e x ⟨rfl, rfl⟩
  clear T
  refine hK _ _ ?_
  clear hK K
  refine wpAnyE_take 15 (v := (.int .i64 (firstE [(wordE m.text 0), (longE m.modes.length)]))) rfl (by kernel_rfl) (fun _ _ _ h => h) hIL (fun w' hw' => Or.inl ⟨by kernel_rfl, Or.inl (by go_simp)⟩) ?_
  refine wpAnyE_end (by kernel_rfl) hIL ?_
  simp only [Exit.then]
  go_wp2_with fail
  go_ret
  exact ⟨rfl, PL⟩
set_option maxRecDepth 100000 in
set_option maxHeartbeats 1600000 in
theorem askDeathR_any (hg : Blk w g 120 m.cells) (hm : m.ok w) : Calls Tryz.prog 91 #[.pointer (some ⟨g, 0, none⟩)] w fun e w' => e = .returned (.int .i64 (firstE [wordE m.text 1, wordE m.lang 0, longE m.value.size])) ∧ Only [] w w' := by
  have hlt := hg.lt
  go_enter Tryz.func91, Tryz.ntmps91
  go_wp2_with fail
  have hI : (fun w' : World => Blk w' g 120 m.cells) { w with drawn := w.drawn + 1 } := hg
  refine wp_region_E (fun w' : World => Blk w' g 120 m.cells) [] (by kernel_rfl) ?_
  refine wpAnyE_take 0 (v := (.pointer (some ⟨g, 0, none⟩))) rfl (by kernel_rfl) (fun _ _ _ h => h) hI (fun w' hw' => Or.inl ⟨by kernel_rfl, Or.inl (by go_simp)⟩) ?_
  refine wpAnyE_take 1 (v := (.pointer (some ⟨g, 0, none⟩))) rfl (by kernel_rfl) (fun _ _ _ h => h) hI (fun w' hw' => Or.inl ⟨by kernel_rfl, Or.inl (by go_simp)⟩) ?_
  refine wpAnyE_take 2 (v := (.pointer (some ⟨g, 0, none⟩))) rfl (by kernel_rfl) (fun _ _ _ h => h) hI (fun w' hw' => Or.inl ⟨by kernel_rfl, Or.inl (by go_simp)⟩) ?_
  refine wpAnyE_take 3 (v := (.pointer (some ⟨g, 1, none⟩))) rfl (by kernel_rfl) (fun _ _ _ h => h) hI (fun w' hw' => Or.inl ⟨by kernel_rfl, Or.inl (by go_simp)⟩) ?_
  refine wpAnyE_take 4 (v := (.string m.text)) rfl (by kernel_rfl) (fun _ _ _ h => h) hI (fun w' hw' => Or.inl ⟨by kernel_rfl, Or.inl (by have y0 : w'.cell? ⟨g, 1, none⟩ = some (.string m.text) := hw'.cell 1; go_simp)⟩) ?_
  refine wpAnyE_take 6 (v := (.pointer (some ⟨g, 0, none⟩))) rfl (by kernel_rfl) (fun _ _ _ h => h) hI (fun w' hw' => Or.inl ⟨by kernel_rfl, Or.inl (by go_simp)⟩) ?_
  refine wpAnyE_take 7 (v := (.pointer (some ⟨g, 0, none⟩))) rfl (by kernel_rfl) (fun _ _ _ h => h) hI (fun w' hw' => Or.inl ⟨by kernel_rfl, Or.inl (by go_simp)⟩) ?_
  refine wpAnyE_take 8 (v := (.pointer (some ⟨g, 0, none⟩))) rfl (by kernel_rfl) (fun _ _ _ h => h) hI (fun w' hw' => Or.inl ⟨by kernel_rfl, Or.inl (by go_simp)⟩) ?_
  refine wpAnyE_take 9 (v := (.pointer (some ⟨g, 3, none⟩))) rfl (by kernel_rfl) (fun _ _ _ h => h) hI (fun w' hw' => Or.inl ⟨by kernel_rfl, Or.inl (by go_simp)⟩) ?_
  refine wpAnyE_take 10 (v := (.string m.lang)) rfl (by kernel_rfl) (fun _ _ _ h => h) hI (fun w' hw' => Or.inl ⟨by kernel_rfl, Or.inl (by have y0 : w'.cell? ⟨g, 3, none⟩ = some (.string m.lang) := hw'.cell 3; go_simp)⟩) ?_
  refine wpAnyE_take 12 (v := (.pointer (some ⟨g, 0, none⟩))) rfl (by kernel_rfl) (fun _ _ _ h => h) hI (fun w' hw' => Or.inl ⟨by kernel_rfl, Or.inl (by go_simp)⟩) ?_
  refine wpAnyE_take 13 (v := (.pointer (some ⟨g, 0, none⟩))) rfl (by kernel_rfl) (fun _ _ _ h => h) hI (fun w' hw' => Or.inl ⟨by kernel_rfl, Or.inl (by go_simp)⟩) ?_
  refine wpAnyE_take 14 (v := (.pointer (some ⟨g, 0, none⟩))) rfl (by kernel_rfl) (fun _ _ _ h => h) hI (fun w' hw' => Or.inl ⟨by kernel_rfl, Or.inl (by go_simp)⟩) ?_
  refine wpAnyE_take 15 (v := (.pointer (some ⟨g, 2, none⟩))) rfl (by kernel_rfl) (fun _ _ _ h => h) hI (fun w' hw' => Or.inl ⟨by kernel_rfl, Or.inl (by go_simp)⟩) ?_
  refine wpAnyE_take 16 (v := (.string m.value)) rfl (by kernel_rfl) (fun _ _ _ h => h) hI (fun w' hw' => Or.inl ⟨by kernel_rfl, Or.inl (by have y0 : w'.cell? ⟨g, 2, none⟩ = some (.string m.value) := hw'.cell 2; go_simp)⟩) ?_
  refine wpAnyE_take 17 (v := (.int .i64 (m.value.size : Int))) rfl (by kernel_rfl) (fun _ _ _ h => h) hI (fun w' hw' => Or.inl ⟨by kernel_rfl, Or.inl (by go_simp)⟩) ?_
  have T := rword_any m.text 1 w.drew hm.text
  refine wpAnyE_one 5 rfl (by kernel_rfl) hI (fun K hK => ?_)
  rw [if_pos (by kernel_rfl)]
  go_simp
  go_call T as e x ⟨rfl, rfl⟩
  clear T
  refine hK _ _ ?_
  clear hK K
  have T := rword_any m.lang 0 w.drew hm.lang
  refine wpAnyE_one 11 rfl (by kernel_rfl) hI (fun K hK => ?_)
  rw [if_pos (by kernel_rfl)]
  go_simp
  go_call T as e x ⟨rfl, rfl⟩
  clear T
  refine hK _ _ ?_
  clear hK K
  have T := rlong_any (m.value.size) w.drew
  refine wpAnyE_one 18 rfl (by kernel_rfl) hI (fun K hK => ?_)
  rw [if_pos (by kernel_rfl)]
  go_simp
  go_call T as e x ⟨rfl, rfl⟩
  clear T
  refine hK _ _ ?_
  clear hK K
  refine wpAnyE_one 19 rfl (by kernel_rfl) hI (fun K hK => ?_)
  rw [if_pos (by kernel_rfl)]
  go_simp
  refine hK _ _ ?_
  clear hK K
  have PL : Only [] w ((w.alloc (.cells #[.int .i64 (wordE m.text 1), .int .i64 (wordE m.lang 0), .int .i64 (longE m.value.size)] 40)).drew) := ((Only.refl [] w).alloc _).drew
  have hIL : (fun w' : World => Blk w' g 120 m.cells) ((w.alloc (.cells #[.int .i64 (wordE m.text 1), .int .i64 (wordE m.lang 0), .int .i64 (longE m.value.size)] 40)).drew) := hg.only PL (by simp)
  have RL : RdI ((w.alloc (.cells #[.int .i64 (wordE m.text 1), .int .i64 (wordE m.lang 0), .int .i64 (longE m.value.size)] 40)).drew) (some ⟨w.heap.size, 0, none⟩) [(wordE m.text 1), (wordE m.lang 0), (longE m.value.size)] := rdI_blk (Blk.new w 40 ([(wordE m.text 1), (wordE m.lang 0), (longE m.value.size)].map (.int .i64)))
  have T := rfirst_any (some ⟨w.heap.size, 0, none⟩) [(wordE m.text 1), (wordE m.lang 0), (longE m.value.size)] 3 _ RL (by simp [maxLen])
  refine wpAnyE_one 20 rfl (by kernel_rfl) hIL (fun K hK => ?_)
  rw [if_pos (by kernel_rfl)]
  go_simp
  go_call T as e x ⟨rfl, rfl⟩
  clear T
  refine hK _ _ ?_
  clear hK K
  refine wpAnyE_take 21 (v := (.int .i64 (firstE [(wordE m.text 1), (wordE m.lang 0), (longE m.value.size)]))) rfl (by kernel_rfl) (fun _ _ _ h => h) hIL (fun w' hw' => Or.inl ⟨by kernel_rfl, Or.inl (by go_simp)⟩) ?_
  refine wpAnyE_end (by kernel_rfl) hIL ?_
  simp only [Exit.then]
  go_wp2_with fail
  go_ret
  exact ⟨rfl, PL⟩
set_option maxRecDepth 100000 in
set_option maxHeartbeats 1600000 in
theorem askEnvR_any (hg : Blk w g 120 m.cells) (hm : m.ok w) : Calls Tryz.prog 75 #[.pointer (some ⟨g, 0, none⟩)] w fun e w' => e = .returned (.int .i64 (if hasEq m.text then 4 else firstE [wordE m.text 1, longE m.value.size])) ∧ Only [] w w' := by
  have c1 : w.cell? ⟨g, 1, none⟩ = some (.string m.text) := hg.cell 1
  have hlt := hg.lt
  have T := rhas_any m.text w
  obtain ⟨b, hb⟩ : ∃ b, hasEq m.text = b := ⟨_, rfl⟩
  rw [hb] at T ⊢
  replace hb := hide hb
  go_enter Tryz.func75, Tryz.ntmps75
  go_wp2_with fail
  go_call T as e x ⟨rfl, rfl⟩
  clear T
  cases b with
  | true =>
    go_wp2_with fail
    go_ret
    exact ⟨rfl, Only.refl _ _⟩
  | false =>
  go_wp2_with fail
  have hI : (fun w' : World => Blk w' g 120 m.cells) { w with drawn := w.drawn + 1 } := hg
  refine wp_region_E (fun w' : World => Blk w' g 120 m.cells) [] (by kernel_rfl) ?_
  refine wpAnyE_take 0 (v := (.pointer (some ⟨g, 0, none⟩))) rfl (by kernel_rfl) (fun _ _ _ h => h) hI (fun w' hw' => Or.inl ⟨by kernel_rfl, Or.inl (by go_simp)⟩) ?_
  refine wpAnyE_take 1 (v := (.pointer (some ⟨g, 0, none⟩))) rfl (by kernel_rfl) (fun _ _ _ h => h) hI (fun w' hw' => Or.inl ⟨by kernel_rfl, Or.inl (by go_simp)⟩) ?_
  refine wpAnyE_take 2 (v := (.pointer (some ⟨g, 0, none⟩))) rfl (by kernel_rfl) (fun _ _ _ h => h) hI (fun w' hw' => Or.inl ⟨by kernel_rfl, Or.inl (by go_simp)⟩) ?_
  refine wpAnyE_take 3 (v := (.pointer (some ⟨g, 1, none⟩))) rfl (by kernel_rfl) (fun _ _ _ h => h) hI (fun w' hw' => Or.inl ⟨by kernel_rfl, Or.inl (by go_simp)⟩) ?_
  refine wpAnyE_take 4 (v := (.string m.text)) rfl (by kernel_rfl) (fun _ _ _ h => h) hI (fun w' hw' => Or.inl ⟨by kernel_rfl, Or.inl (by have y0 : w'.cell? ⟨g, 1, none⟩ = some (.string m.text) := hw'.cell 1; go_simp)⟩) ?_
  refine wpAnyE_take 6 (v := (.pointer (some ⟨g, 0, none⟩))) rfl (by kernel_rfl) (fun _ _ _ h => h) hI (fun w' hw' => Or.inl ⟨by kernel_rfl, Or.inl (by go_simp)⟩) ?_
  refine wpAnyE_take 7 (v := (.pointer (some ⟨g, 0, none⟩))) rfl (by kernel_rfl) (fun _ _ _ h => h) hI (fun w' hw' => Or.inl ⟨by kernel_rfl, Or.inl (by go_simp)⟩) ?_
  refine wpAnyE_take 8 (v := (.pointer (some ⟨g, 0, none⟩))) rfl (by kernel_rfl) (fun _ _ _ h => h) hI (fun w' hw' => Or.inl ⟨by kernel_rfl, Or.inl (by go_simp)⟩) ?_
  refine wpAnyE_take 9 (v := (.pointer (some ⟨g, 2, none⟩))) rfl (by kernel_rfl) (fun _ _ _ h => h) hI (fun w' hw' => Or.inl ⟨by kernel_rfl, Or.inl (by go_simp)⟩) ?_
  refine wpAnyE_take 10 (v := (.string m.value)) rfl (by kernel_rfl) (fun _ _ _ h => h) hI (fun w' hw' => Or.inl ⟨by kernel_rfl, Or.inl (by have y0 : w'.cell? ⟨g, 2, none⟩ = some (.string m.value) := hw'.cell 2; go_simp)⟩) ?_
  refine wpAnyE_take 11 (v := (.int .i64 (m.value.size : Int))) rfl (by kernel_rfl) (fun _ _ _ h => h) hI (fun w' hw' => Or.inl ⟨by kernel_rfl, Or.inl (by go_simp)⟩) ?_
  have T := rword_any m.text 1 w.drew hm.text
  refine wpAnyE_one 5 rfl (by kernel_rfl) hI (fun K hK => ?_)
  rw [if_pos (by kernel_rfl)]
  go_simp
  go_call T as e x ⟨rfl, rfl⟩
  clear T
  refine hK _ _ ?_
  clear hK K
  have T := rlong_any (m.value.size) w.drew
  refine wpAnyE_one 12 rfl (by kernel_rfl) hI (fun K hK => ?_)
  rw [if_pos (by kernel_rfl)]
  go_simp
  go_call T as e x ⟨rfl, rfl⟩
  clear T
  refine hK _ _ ?_
  clear hK K
  refine wpAnyE_one 13 rfl (by kernel_rfl) hI (fun K hK => ?_)
  rw [if_pos (by kernel_rfl)]
  go_simp
  refine hK _ _ ?_
  clear hK K
  have PL : Only [] w ((w.alloc (.cells #[.int .i64 (wordE m.text 1), .int .i64 (longE m.value.size)] 40)).drew) := ((Only.refl [] w).alloc _).drew
  have hIL : (fun w' : World => Blk w' g 120 m.cells) ((w.alloc (.cells #[.int .i64 (wordE m.text 1), .int .i64 (longE m.value.size)] 40)).drew) := hg.only PL (by simp)
  have RL : RdI ((w.alloc (.cells #[.int .i64 (wordE m.text 1), .int .i64 (longE m.value.size)] 40)).drew) (some ⟨w.heap.size, 0, none⟩) [(wordE m.text 1), (longE m.value.size)] := rdI_blk (Blk.new w 40 ([(wordE m.text 1), (longE m.value.size)].map (.int .i64)))
  have T := rfirst_any (some ⟨w.heap.size, 0, none⟩) [(wordE m.text 1), (longE m.value.size)] 2 _ RL (by simp [maxLen])
  refine wpAnyE_one 14 rfl (by kernel_rfl) hIL (fun K hK => ?_)
  rw [if_pos (by kernel_rfl)]
  go_simp
  go_call T as e x ⟨rfl, rfl⟩
  clear T
  refine hK _ _ ?_
  clear hK K
  refine wpAnyE_take 15 (v := (.int .i64 (firstE [(wordE m.text 1), (longE m.value.size)]))) rfl (by kernel_rfl) (fun _ _ _ h => h) hIL (fun w' hw' => Or.inl ⟨by kernel_rfl, Or.inl (by go_simp)⟩) ?_
  refine wpAnyE_end (by kernel_rfl) hIL ?_
  simp only [Exit.then]
  go_wp2_with fail
  go_ret
  exact ⟨rfl, PL⟩
end
/-- What asks, of a kind. -/
theorem ask_any (k : Nat) (h1 : 1 ≤ k) (h2 : k ≤ 10) : ∃ F : FuncId, rask k = F ∧ (∀ (args : Array Value) (w : World), (callFunc F args).run Tryz.prog w = .ok (.enter F args) w) ∧
    ∀ (w : World) (m : RQ) (g : Nat), Blk w g 120 m.cells → m.ok w → Calls Tryz.prog F #[.pointer (some ⟨g, 0, none⟩)] w (fun e w' => e = .returned (.int .i64 (askR m k)) ∧ Only [] w w') := by
  rcases k10 h1 h2 with rfl | rfl | rfl | rfl | rfl | rfl | rfl | rfl | rfl | rfl
  · exact ⟨_, rfl, fun args w => by kernel_rfl, fun w m g hg hm => askPtyR_any m g w hg hm⟩
  · exact ⟨_, rfl, fun args w => by kernel_rfl, fun w m g hg hm => askEnvR_any m g w hg hm⟩
  · exact ⟨_, rfl, fun args w => by kernel_rfl, fun w m g hg hm => askNoneR_any g w⟩
  · exact ⟨_, rfl, fun args w => by kernel_rfl, fun w m g hg hm => askExecR_any m g w hg hm⟩
  · exact ⟨_, rfl, fun args w => by kernel_rfl, fun w m g hg hm => askWordR_any m g w hg hm⟩
  · exact ⟨_, rfl, fun args w => by kernel_rfl, fun w m g hg hm => askNoneR_any g w⟩
  · exact ⟨_, rfl, fun args w => by kernel_rfl, fun w m g hg hm => askNoneR_any g w⟩
  · exact ⟨_, rfl, fun args w => by kernel_rfl, fun w m g hg hm => askWordR_any m g w hg hm⟩
  · exact ⟨_, rfl, fun args w => by kernel_rfl, fun w m g hg hm => askNoneR_any g w⟩
  · exact ⟨_, rfl, fun args w => by kernel_rfl, fun w m g hg hm => askDeathR_any m g w hg hm⟩
end Go.Proofs.YtkgikodiecmakaaGreatDoor

namespace Go.Proofs.YtkgikodiecmakaaGreatDoor
set_option linter.all false
open Go.RowKit

/-- The result set. -/
def rset (w : World) (q : Nat) (m : RQ) : World := (((((((((((w.setCell ⟨q, 0, none⟩ (.int .i64 m.kind)).setCell ⟨q, 1, none⟩ (.string m.text)).setCell ⟨q, 2, none⟩ (.string m.value)).setCell ⟨q, 3, none⟩ (.string m.lang)).setCell ⟨q, 4, none⟩ (.int .u32 m.cols)).setCell ⟨q, 5, none⟩ (.int .u32 m.rows)).setCell ⟨q, 6, none⟩ (.int .u32 m.width)).setCell ⟨q, 7, none⟩ (.int .u32 m.height)).setCell ⟨q, 8, none⟩ (.slice m.mA m.modes.length m.mc)).setCell ⟨q, 9, none⟩ (.bool m.on)).setCell ⟨q, 10, none⟩ (.int .u32 m.code))
theorem rsetB {w : World} {q : Nat} {m0 : RQ} (m : RQ) (K : Blk w q 70 m0.cells) : Blk (rset w q m) q 70 m.cells := (((((((((((K.set_ 0 _).set_ 1 _).set_ 2 _).set_ 3 _).set_ 4 _).set_ 5 _).set_ 6 _).set_ 7 _).set_ 8 _).set_ 9 _).set_ 10 _)
theorem rsetO {L : List Nat} {w0 w : World} {q : Nat} (m : RQ) (hq : q ∈ L ∨ w0.heap.size ≤ q) (h : Only L w0 w) : Only L w0 (rset w q m) := (((((((((((h.setCell (p := ⟨q, 0, none⟩) hq _).setCell (p := ⟨q, 1, none⟩) hq _).setCell (p := ⟨q, 2, none⟩) hq _).setCell (p := ⟨q, 3, none⟩) hq _).setCell (p := ⟨q, 4, none⟩) hq _).setCell (p := ⟨q, 5, none⟩) hq _).setCell (p := ⟨q, 6, none⟩) hq _).setCell (p := ⟨q, 7, none⟩) hq _).setCell (p := ⟨q, 8, none⟩) hq _).setCell (p := ⟨q, 9, none⟩) hq _).setCell (p := ⟨q, 10, none⟩) hq _)
theorem ret_req {fn : Func} {p t : Tmp} {R : Ending → World → Prop} {a : Act} {w : World} {g : Nat} (m : RQ) (h : fn.results = #[.cell p 70, .tmp t]) (hp : a.tmps.getD p undef = .pointer (some ⟨g, 0, none⟩)) (hd : a.defers = [])
    (hg : Blk w g 70 m.cells) (hR : R (.returned (.tuple #[m.val, a.tmps.getD t undef])) w) : bodyPost Tryz.prog fn R .ret a w :=
  ret_row_tmp m.cells.toArray h hp hd hg Tryz.underlying70 rfl (by unfold RQ.cells; kernel_rfl) hR
/-- A request's modes can be written. -/
def RSoft (m : RQ) (w : World) : Prop := ∀ a, m.mA = some a → ∀ i, i < m.modes.length → w.frozen? (a.add i) = false
theorem RSoft.onlyL {w w' : World} {m : RQ} {L : List Nat} (h : RSoft m w) (ho : m.ok w) (hb : Only L w w') (hL : ∀ a, m.mA = some a → 0 < m.modes.length → a.block ∉ L) : RSoft m w' := by
  intro a ha i hi
  obtain ⟨b, off, e, hlt, _⟩ := ho.modes (by omega)
  rw [ha] at e
  injection e with e
  refine (World.frozen?_of_block (w := w) ?_).trans (h a ha i hi)
  rw [block_add]
  exact hb.block _ (by rw [e]; exact hlt) (hL a ha (by omega))
theorem RQ.ok.onlyL {w w' : World} {L : List Nat} {m : RQ} (h : m.ok w) (hb : Only L w w') (hn : ∀ a, m.mA = some a → 0 < m.modes.length → a.block ∉ L) : m.ok w' :=
  { h with modes := RdG.onlyL h.modes hb hn }
/-- What Decode hands on. -/
def RDecPost (w : World) (s : ByteArray) (l : List Int) : Ending → World → Prop := fun e w' => Only [] w w' ∧ ∃ (m : RQ) (E : Int), e = .returned (.tuple #[m.val, .int .i64 E]) ∧ m.ok w' ∧ (∀ a, m.mA = some a → w.heap.size ≤ a.block) ∧ RSoft m w' ∧ DecR s l m E
theorem zeroR_new (B : Nat) : ∀ a, zeroR.mA = some a → B ≤ a.block := fun a ha => by simp [zeroR] at ha
theorem zeroR_soft (w : World) : RSoft zeroR w := fun a ha => by simp [zeroR] at ha
structure PutOk (w : World) (B : Nat) (m : RQ) : Prop where
  ok : m.ok w
  new : ∀ a, m.mA = some a → B ≤ a.block
  soft : RSoft m w
theorem put_ok {w : World} {B : Nat} {fs : List FD} (k : Nat) (h1 : 1 ≤ k) (h2 : k ≤ 10) (hk : fs.map (fun f => f.pf.kind) = rkinds k) (hm : ∀ f ∈ fs, FD.mine w f B) (hn : ∀ f ∈ fs, U32 f.n ∧ InB f.text) : PutOk w B (putR (firstR k) k fs) := by
  have z0 : PutOk w B (firstR k) := ⟨firstR_ok w k, fun a ha => by simp [firstR, zeroR] at ha, fun a ha => by simp [firstR, zeroR] at ha⟩
  have hs : ∀ f ∈ fs, (strOfNums f.text).size ≤ maxLen := fun f hf => by rw [str_size]; exact Nat.le_trans (hm f hf).ok.tle (hm f hf).ok.tmax
  have z : U32 0 := ⟨by decide, by decide⟩
  rcases k10 h1 h2 with rfl | rfl | rfl | rfl | rfl | rfl | rfl | rfl | rfl | rfl
  · obtain ⟨x1, x2, x3, x4, x5, x6, rfl, _⟩ := ks6 hk
    exact ⟨{ z0.ok with text := hs x1 (by simp), nums := ⟨(hn x2 (by simp)).1, (hn x3 (by simp)).1, (hn x4 (by simp)).1, (hn x5 (by simp)).1, z⟩, modes := (hm x6 (by simp)).ok.text, mle := (hm x6 (by simp)).ok.tle, mmax := (hm x6 (by simp)).ok.tmax, bytes := (hn x6 (by simp)).2 }, (hm x6 (by simp)).new.1, (hm x6 (by simp)).soft⟩
  · obtain ⟨x1, x2, rfl, _⟩ := ks2 hk
    exact ⟨{ z0.ok with text := hs x1 (by simp), value := hs x2 (by simp) }, z0.new, z0.soft⟩
  · exact z0
  · obtain ⟨x1, rfl, _⟩ := ks1 hk
    exact ⟨{ z0.ok with text := hs x1 (by simp) }, z0.new, z0.soft⟩
  · obtain ⟨x1, rfl, _⟩ := ks1 hk
    exact ⟨{ z0.ok with text := hs x1 (by simp) }, z0.new, z0.soft⟩
  · obtain ⟨x1, x2, x3, x4, rfl, _⟩ := ks4 hk
    exact ⟨{ z0.ok with nums := ⟨(hn x1 (by simp)).1, (hn x2 (by simp)).1, (hn x3 (by simp)).1, (hn x4 (by simp)).1, z⟩ }, z0.new, z0.soft⟩
  · obtain ⟨x1, rfl, _⟩ := ks1 hk
    exact ⟨{ z0.ok with }, z0.new, z0.soft⟩
  · obtain ⟨x1, rfl, _⟩ := ks1 hk
    exact ⟨{ z0.ok with text := hs x1 (by simp) }, z0.new, z0.soft⟩
  · obtain ⟨x1, rfl, _⟩ := ks1 hk
    exact ⟨{ z0.ok with nums := ⟨z, z, z, z, (hn x1 (by simp)).1⟩ }, z0.new, z0.soft⟩
  · obtain ⟨x1, x2, x3, x4, rfl, _⟩ := ks4 hk
    exact ⟨{ z0.ok with text := hs x1 (by simp), value := hs x3 (by simp), lang := hs x4 (by simp) }, z0.new, z0.soft⟩
theorem str_ne {x y : ByteArray} (h : ¬ x = y) : (x.toList == y.toList) = false := by
  rw [beq_eq_false_iff_ne]
  intro e
  rw [ByteArray.toList_eq, ByteArray.toList_eq] at e
  exact h (bytes_ext e)
theorem rule_index0 (q : Nat) (w : World) : (Instr.index 114 (.agg (rtab q)) (.int .i64 ((0 : Nat) : Int))).run Tryz.prog w = .ok (.agg #[.string ⟨#[]⟩, .slice none 0 0, .nilFunc, .nilFunc, .nilFunc]) w := by kernel_rfl
theorem kinds_len (k : Nat) : (rkinds k).length ≤ 6 := by unfold rkinds; split <;> decide
theorem decR_none {s : ByteArray} (l : List Int) (h : ∀ j, 1 ≤ j → j < 11 → rname j ≠ s) : DecR s l zeroR 8 := by
  unfold DecR
  cases hk : kindL s.data.toList with
  | none => exact ⟨rfl, rfl⟩
  | some k =>
    obtain ⟨h1, h2, e⟩ := kindL_range hk
    exact absurd (bytes_ext (by rw [rname_data, e])) (h k h1 (by omega))
theorem decR_kind {k : Nat} (h1 : 1 ≤ k) (h2 : k ≤ 10) {l : List Int} {m : RQ} {E : Int} (h : DecK k l m E) : DecR (rname k) l m E := by
  unfold DecR
  rw [rname_data, kindL_name k h1 h2]
  exact h
set_option maxRecDepth 100000 in
set_option maxHeartbeats 6400000 in
theorem rdecode_anyP (s : ByteArray) (A : Option Addr) (l : List Int) (c : Nat) (i0 : Int) (w : World) (hm : w.cell? ⟨0, 0, none⟩ = some (.int .i64 i0)) (h : Rd w A l) (hl : ∀ x ∈ l, 0 ≤ x ∧ x < 256) (hln : l.length ≤ 140737488355000) (hlc : l.length ≤ c) (hlm : c ≤ maxLen) (hal : ∀ a, A = some a → 0 < l.length → a.block < w.heap.size) :
    Calls Tryz.prog 44 #[.string s, .slice A l.length c] w (RDecPost w s l) := by
  obtain ⟨ln, hn⟩ : ∃ ln, l.length = ln := ⟨_, rfl⟩
  have h0 : 0 < w.heap.size := Nat.pos_of_ne_zero (fun e => by
    have := block_lt_of_cell hm
    simp only at this
    omega)
  obtain ⟨w1, hw1⟩ : ∃ w1, w1 = w.alloc (.cells #[.int .i64 0, .string ⟨#[]⟩, .string ⟨#[]⟩, .string ⟨#[]⟩, .int .u32 0, .int .u32 0, .int .u32 0, .int .u32 0, .slice none 0 0, .bool false, .int .u32 0] 70) := ⟨_, rfl⟩
  have P1 : Only [] w w1 := by rw [hw1]; exact (Only.refl _ _).alloc _
  have K1 : Blk w1 w.heap.size 70 zeroR.cells := by rw [hw1]; exact Blk.new w _ _
  have RU := rules_any w1
  obtain ⟨tb, htb⟩ : ∃ tb, rtab w1.heap.size = tb := ⟨_, rfl⟩
  have hix := fun k h1 h2 w' => rule_index w1.heap.size k h1 h2 w'
  have hix0 := fun w' => rule_index0 w1.heap.size w'
  rw [htb] at RU hix0
  replace hix : ∀ k : Nat, 1 ≤ k → k ≤ 10 → ∀ w', (Instr.index 114 (.agg tb) (.int .i64 (k : Int))).run Tryz.prog w' = .ok (ruleV k (kaddr w1.heap.size k)) w' := fun k h1 h2 w' => by rw [← htb]; exact hix k h1 h2 w'
  rw [hn] at hln hlc ⊢
  replace hn := hide hn
  replace htb := hide htb
  replace hix := hide hix
  replace hix0 := hide hix0
  go_enter Tryz.func44, Tryz.ntmps44
  go_wp2_with fail
  rw [← hw1]
  replace hw1 := hide hw1
  go_call RU as e w2 ⟨rfl, P2, z2, R2⟩
  clear RU
  replace z2 := hide z2
  have K2 := K1.only P2 (by simp)
  have O2 : Only [] w w2 := P1.trans P2 (by simp)
  replace R2 := hide R2
  go_wp2_with fail
  go_loopw [13] (fun ii wr => ∃ i : Nat, i ≤ 11 ∧ ii = .int .i64 i ∧ Hid (∀ j, 1 ≤ j → j < i → rname j ≠ s) ∧ Only [] w2 wr) (fun ii _ => 11 - (intOf ii).toNat)
  case atStart => exact ⟨0, by omega, rfl, hide (fun j h1 h2 => by omega), Only.refl _ _⟩
  case round =>
    obtain ⟨wo, rfl⟩ : ∃ wo : World, wo = wr := ⟨_, rfl⟩
    obtain ⟨i, hi, rfl, hne, O⟩ := hrel
    by_cases hlt : i < 11
    · by_cases hi0 : i = 0
      · have hx : ∀ w', (Instr.index 114 (.agg tb) (.int .i64 (i : Int))).run Tryz.prog w' = .ok (.agg #[.string ⟨#[]⟩, .slice none 0 0, .nilFunc, .nilFunc, .nilFunc]) w' := fun w' => by rw [hi0]; exact hix0.out w'
        have ib : ((i : Int) == 0) = true := by simp [hi0]
        have hle : i ≤ 0 := by omega
        clear hi0
        go_wp2_with fail
        go_roundw
        case rel => exact ⟨i + 1, by omega, by go_num, hide (fun j h1 h2 => by omega), O.alloc _⟩
        case measure => simp [intOf]; omega
      · have h1 : 1 ≤ i := by omega
        have h2 : i ≤ 10 := by omega
        have hx := hix.out i h1 h2
        have RKi := R2.out i h1 h2
        obtain ⟨KA, hKA⟩ : ∃ KA, kaddr w1.heap.size i = KA := ⟨_, rfl⟩
        rw [hKA] at hx RKi
        unfold ruleV rfn at hx
        obtain ⟨F2, hF2, cF2, C2⟩ := rput_any i h1 h2
        obtain ⟨F3, hF3, cF3, C3⟩ := ask_any i h1 h2
        obtain ⟨F1, hF1⟩ : ∃ F, rget i = F := ⟨_, rfl⟩
        obtain ⟨n, hnk⟩ : ∃ n, (rkinds i).length = n := ⟨_, rfl⟩
        obtain ⟨nm, hnm⟩ : ∃ nm, rname i = nm := ⟨_, rfl⟩
        rw [hF1, hF2, hF3, hnk, hnm] at hx
        have ib : ((i : Int) == 0) = false := by simp; omega
        replace hKA := hide hKA
        replace hF1 := hide hF1
        replace hF2 := hide hF2
        replace hF3 := hide hF3
        replace C2 := hide C2
        replace C3 := hide C3
        by_cases hnn : nm = s
        · have s1 : (nm.toList == s.toList) = true := by rw [hnn]; simp
          have hsn : s = rname i := by rw [← hnn, ← hnm]
          replace hsn := hide hsn
          replace hnn := hide hnn
          replace hnm := hide hnm
          have B3 : Blk (wo.alloc (.cells #[.string nm, .slice KA n n, .func (Fn.func F1) #[] #[], .func (Fn.func F2) #[] #[], .func (Fn.func F3) #[] #[]] 113)) wo.heap.size 113 [.string nm, .slice KA n n, .func (Fn.func F1) #[] #[], .func (Fn.func F2) #[] #[], .func (Fn.func F3) #[] #[]] := Blk.new _ _ _
          have P3 : Only [] wo (wo.alloc (.cells #[.string nm, .slice KA n n, .func (Fn.func F1) #[] #[], .func (Fn.func F2) #[] #[], .func (Fn.func F3) #[] #[]] 113)) := (Only.refl _ _).alloc _
          obtain ⟨w3, hw3⟩ : ∃ w3, w3 = wo.alloc (.cells #[.string nm, .slice KA n n, .func (Fn.func F1) #[] #[], .func (Fn.func F2) #[] #[], .func (Fn.func F3) #[] #[]] 113) := ⟨_, rfl⟩
          rw [← hw3] at B3 P3
          have OO : Only [] w wo := O2.trans O (by simp)
          have O3 : Only [] w w3 := OO.trans P3 (by simp)
          have z3 := O3.size
          have RD := read_anyP w3 KA A (rkinds i) l n c i0 (cellL O3 h0 (by simp) hm) ((RKi.only O).only P3) (h.only O3) hl (by have := kinds_len i; omega) (by have := hn.out; omega) (by have := hn.out; omega) hlm (fun a ha h0 => by have := hal a ha h0; omega)
          obtain ⟨⟨E, ps⟩, hres⟩ : ∃ r, readP (rkinds i) l = r := ⟨_, rfl⟩
          rw [hnk, hn.out, hres] at RD
          have hgood := readP_good (rkinds i) l hl
          rw [hres] at hgood
          have K3 := (K2.only O (by simp)).only P3 (by simp)
          replace hnk := hide hnk
          replace hres := hide hres
          replace hgood := hide hgood
          go_wp2_with fail
          rw [← hw3]
          replace hw3 := hide hw3
          go_call RD as e w4 ⟨P4, Af, cf, fs, rfl, hfs, V4, H4⟩
          clear RD
          (try dsimp only at hfs)
          have K4 := K3.only P4 (by simp)
          have O4 := O3.trans P4 (by simp)
          have B4 := B3.only P4 (by simp)
          have x3 := B4.cell 3
          simp only [List.getElem?_cons_zero, List.getElem?_cons_succ] at x3
          (try dsimp only)
          by_cases hE : E = 0
          · obtain ⟨hg1, hg2⟩ := hgood.out hE
            (try dsimp only at hg1 hg2)
            have hk : fs.map (fun f => f.pf.kind) = rkinds i := by rw [← hg1, ← hfs, List.map_map]; rfl
            have hfl : fs.length = n := by rw [← hnk.out, ← hk, List.length_map]
            have hff : ∀ f ∈ fs, U32 f.n ∧ InB f.text := fun f hf => hg2 f.pf (by rw [← hfs]; exact List.mem_map_of_mem hf)
            have RF : RdF w4 Af fs := V4.rdF (fun f hf => ⟨(H4 f hf).1.ok, (hff f hf).1⟩)
            obtain ⟨_, _, e1, hcf, hcm, _⟩ := V4.form
            have e2 := (Value.slice.inj e1).2.2
            rw [← e2] at hcf hcm
            clear e1 e2
            have PM := put_ok i h1 h2 hk (fun f hf => (H4 f hf).1) hff
            have P5 : Only [] w4 (w4.alloc (.cells #[.int .i64 (i : Int), .string ⟨#[]⟩, .string ⟨#[]⟩, .string ⟨#[]⟩, .int .u32 0, .int .u32 0, .int .u32 0, .int .u32 0, .slice none 0 0, .bool false, .int .u32 0] 120)) := (Only.refl _ _).alloc _
            have K5 : Blk (w4.alloc (.cells #[.int .i64 (i : Int), .string ⟨#[]⟩, .string ⟨#[]⟩, .string ⟨#[]⟩, .int .u32 0, .int .u32 0, .int .u32 0, .int .u32 0, .slice none 0 0, .bool false, .int .u32 0] 120)) w4.heap.size 120 (firstR i).cells := Blk.new _ _ _
            have B5 := B4.only P5 (by simp)
            obtain ⟨w5, hw5⟩ : ∃ w5, w5 = w4.alloc (.cells #[.int .i64 (i : Int), .string ⟨#[]⟩, .string ⟨#[]⟩, .string ⟨#[]⟩, .int .u32 0, .int .u32 0, .int .u32 0, .int .u32 0, .slice none 0 0, .bool false, .int .u32 0] 120) := ⟨_, rfl⟩
            rw [← hw5] at P5 K5 B5
            have CZ := C2.out (firstR i) w4.heap.size w4 w5 Af fs n cf hfl hk (by omega) hcm RF P5 (Nat.le_refl _) K5
            obtain ⟨M, hM⟩ : ∃ M, putR (firstR i) i fs = M := ⟨_, rfl⟩
            rw [hM] at CZ PM
            rw [hfl]
            have hE2 : (E != 0) = false := by simpa using hE
            have hB4l := B4.lt
            have hne4 : ¬ wo.heap.size = w4.heap.size := by omega
            have x3' := B5.cell 3
            simp only [List.getElem?_cons_zero, List.getElem?_cons_succ] at x3'
            replace hE := hide hE
            replace hfl := hide hfl
            replace hk := hide hk
            replace hfs := hide hfs
            replace hg1 := hide hg1
            replace hM := hide hM
            clear hff hg2 V4 H4
            go_wp2_with fail
            rw [← hw5]
            replace hw5 := hide hw5
            go_call CZ as e w6 ⟨rfl, P6, K6⟩
            clear CZ x3 x3'
            have B6 := B5.only P6 (by simp; omega)
            have x4 := B6.cell 4
            simp only [List.getElem?_cons_zero, List.getElem?_cons_succ] at x4
            have P46 : Only [w4.heap.size] w4 w6 := (P5.mono (fun x hx => by simp at hx)).trans P6 (fun x hx => .inl hx)
            have hMb : ∀ a, M.mA = some a → 0 < M.modes.length → a.block ∉ [w4.heap.size] := fun a ha h0 => by
              have := RdG.lt (mk := .int .u8) PM.ok.modes h0 a ha
              simp
              omega
            have Mok := PM.ok.onlyL P46 hMb
            have Mso := PM.soft.onlyL PM.ok P46 hMb
            have CA := C3.out w6 M _ K6 Mok
            obtain ⟨E2, hE2x⟩ : ∃ E2, askR M i = E2 := ⟨_, rfl⟩
            rw [hE2x] at CA
            replace hE2x := hide hE2x
            go_wp2_with fail
            go_call CA as e w7 ⟨rfl, P7⟩
            clear CA x4
            have O7 : Only [] w w7 := (O4.trans P46 (fun x hx => .inr (by simp at hx; have := O4.size; omega))).trans P7 (by simp)
            have K7 := (K4.only P46 (by have := K4.lt; have := K1.lt; simp; omega)).only P7 (by simp)
            have KM := K6.only P7 (by simp)
            have Mok7 := Mok.only P7
            have Mso7 := Mso.onlyL Mok P7 (by simp)
            have g0 : w7.cell? ⟨w.heap.size, 0, none⟩ = some (.int .i64 0) := K7.cell 0
            have f0 := K7.frozen 0
            have g1 : w7.cell? ⟨w.heap.size, 1, none⟩ = some (.string ⟨#[]⟩) := K7.cell 1
            have f1 := K7.frozen 1
            have g2 : w7.cell? ⟨w.heap.size, 2, none⟩ = some (.string ⟨#[]⟩) := K7.cell 2
            have f2 := K7.frozen 2
            have g3 : w7.cell? ⟨w.heap.size, 3, none⟩ = some (.string ⟨#[]⟩) := K7.cell 3
            have f3 := K7.frozen 3
            have g4 : w7.cell? ⟨w.heap.size, 4, none⟩ = some (.int .u32 0) := K7.cell 4
            have f4 := K7.frozen 4
            have g5 : w7.cell? ⟨w.heap.size, 5, none⟩ = some (.int .u32 0) := K7.cell 5
            have f5 := K7.frozen 5
            have g6 : w7.cell? ⟨w.heap.size, 6, none⟩ = some (.int .u32 0) := K7.cell 6
            have f6 := K7.frozen 6
            have g7 : w7.cell? ⟨w.heap.size, 7, none⟩ = some (.int .u32 0) := K7.cell 7
            have f7 := K7.frozen 7
            have g8 : w7.cell? ⟨w.heap.size, 8, none⟩ = some (.slice none 0 0) := K7.cell 8
            have f8 := K7.frozen 8
            have g9 : w7.cell? ⟨w.heap.size, 9, none⟩ = some (.bool false) := K7.cell 9
            have f9 := K7.frozen 9
            have g10 : w7.cell? ⟨w.heap.size, 10, none⟩ = some (.int .u32 0) := K7.cell 10
            have f10 := K7.frozen 10
            by_cases hz : E2 = 0
            · have hzb : (E2 != 0) = false := by simpa using hz
              have hD : DecR s l M 0 := by
                rw [hsn.out]
                refine decR_kind h1 h2 ?_
                unfold DecK
                rw [hres.out, if_neg (by simpa using hE.out)]
                refine ⟨fs, hfs.out, ?_⟩
                rw [hM.out, hE2x.out, if_pos hz]
                exact ⟨rfl, rfl⟩
              replace hz := hide hz
              have b0 : w7.cell? ⟨w4.heap.size, 0, none⟩ = some (.int .i64 M.kind) := KM.cell 0
              have b1 : w7.cell? ⟨w4.heap.size, 1, none⟩ = some (.string M.text) := KM.cell 1
              have b2 : w7.cell? ⟨w4.heap.size, 2, none⟩ = some (.string M.value) := KM.cell 2
              have b3 : w7.cell? ⟨w4.heap.size, 3, none⟩ = some (.string M.lang) := KM.cell 3
              have b4 : w7.cell? ⟨w4.heap.size, 4, none⟩ = some (.int .u32 M.cols) := KM.cell 4
              have b5 : w7.cell? ⟨w4.heap.size, 5, none⟩ = some (.int .u32 M.rows) := KM.cell 5
              have b6 : w7.cell? ⟨w4.heap.size, 6, none⟩ = some (.int .u32 M.width) := KM.cell 6
              have b7 : w7.cell? ⟨w4.heap.size, 7, none⟩ = some (.int .u32 M.height) := KM.cell 7
              have b8 : w7.cell? ⟨w4.heap.size, 8, none⟩ = some (.slice M.mA M.modes.length M.mc) := KM.cell 8
              have b9 : w7.cell? ⟨w4.heap.size, 9, none⟩ = some (.bool M.on) := KM.cell 9
              have b10 : w7.cell? ⟨w4.heap.size, 10, none⟩ = some (.int .u32 M.code) := KM.cell 10
              go_wp2_with fail
              (try simp only [Exit.inBlock, Exit.then])
              refine ret_req (g := w.heap.size) M rfl (by rfl) (by rfl) (rsetB M K7) ?_
              have hx := rsetO M (L := [w.heap.size]) (w0 := w7) (w := w7) (q := w.heap.size) (.inl (by simp)) (Only.refl _ _)
              have hno : ∀ a, M.mA = some a → 0 < M.modes.length → a.block ∉ [w.heap.size] := fun a ha h0 => by
                have := PM.new a ha
                have := K3.lt
                simp
                omega
              exact ⟨rsetO M (.inr (Nat.le_refl _)) O7, M, 0, rfl, Mok7.onlyL hx hno, fun a ha => by have := PM.new a ha; omega, Mso7.onlyL Mok7 hx hno, hD⟩
            · have hzb : (E2 != 0) = true := by simpa using hz
              have hD : DecR s l zeroR E2 := by
                rw [hsn.out]
                refine decR_kind h1 h2 ?_
                unfold DecK
                rw [hres.out, if_neg (by simpa using hE.out)]
                refine ⟨fs, hfs.out, ?_⟩
                rw [hM.out, hE2x.out, if_neg hz]
                exact ⟨rfl, rfl⟩
              replace hz := hide hz
              go_wp2_with fail
              (try simp only [Exit.inBlock, Exit.then])
              refine ret_req (g := w.heap.size) zeroR rfl (by rfl) (by rfl) (rsetB zeroR K7) ?_
              exact ⟨rsetO zeroR (.inr (Nat.le_refl _)) O7, zeroR, E2, rfl, zeroR_ok _, zeroR_new _, zeroR_soft _, hD⟩
          · have hzb : (E != 0) = true := by simpa using hE
            have hD : DecR s l zeroR E := by
              rw [hsn.out]
              refine decR_kind h1 h2 ?_
              unfold DecK
              rw [hres.out, if_pos hE]
              exact ⟨rfl, rfl⟩
            replace hE := hide hE
            replace hfs := hide hfs
            have g0 : w4.cell? ⟨w.heap.size, 0, none⟩ = some (.int .i64 0) := K4.cell 0
            have f0 := K4.frozen 0
            have g1 : w4.cell? ⟨w.heap.size, 1, none⟩ = some (.string ⟨#[]⟩) := K4.cell 1
            have f1 := K4.frozen 1
            have g2 : w4.cell? ⟨w.heap.size, 2, none⟩ = some (.string ⟨#[]⟩) := K4.cell 2
            have f2 := K4.frozen 2
            have g3 : w4.cell? ⟨w.heap.size, 3, none⟩ = some (.string ⟨#[]⟩) := K4.cell 3
            have f3 := K4.frozen 3
            have g4 : w4.cell? ⟨w.heap.size, 4, none⟩ = some (.int .u32 0) := K4.cell 4
            have f4 := K4.frozen 4
            have g5 : w4.cell? ⟨w.heap.size, 5, none⟩ = some (.int .u32 0) := K4.cell 5
            have f5 := K4.frozen 5
            have g6 : w4.cell? ⟨w.heap.size, 6, none⟩ = some (.int .u32 0) := K4.cell 6
            have f6 := K4.frozen 6
            have g7 : w4.cell? ⟨w.heap.size, 7, none⟩ = some (.int .u32 0) := K4.cell 7
            have f7 := K4.frozen 7
            have g8 : w4.cell? ⟨w.heap.size, 8, none⟩ = some (.slice none 0 0) := K4.cell 8
            have f8 := K4.frozen 8
            have g9 : w4.cell? ⟨w.heap.size, 9, none⟩ = some (.bool false) := K4.cell 9
            have f9 := K4.frozen 9
            have g10 : w4.cell? ⟨w.heap.size, 10, none⟩ = some (.int .u32 0) := K4.cell 10
            have f10 := K4.frozen 10
            go_wp2_with fail
            (try simp only [Exit.inBlock, Exit.then])
            refine ret_req (g := w.heap.size) zeroR rfl (by rfl) (by rfl) (rsetB zeroR K4) ?_
            exact ⟨rsetO zeroR (.inr (Nat.le_refl _)) O4, zeroR, E, rfl, zeroR_ok _, zeroR_new _, zeroR_soft _, hD⟩
        · have s1 : (nm.toList == s.toList) = false := str_ne hnn
          have hne2 : ∀ j, 1 ≤ j → j < i + 1 → rname j ≠ s := fun j h1 h2 => by
            by_cases hj : j = i
            · rw [hj, hnm]; exact hnn
            · exact hne.out j h1 (by omega)
          replace hne2 := hide hne2
          replace hnm := hide hnm
          replace hnn := hide hnn
          go_wp2_with fail
          go_roundw
          case rel => exact ⟨i + 1, by omega, by go_num, hne2, O.alloc _⟩
          case measure => simp [intOf]; omega
    · obtain rfl : i = 11 := by omega
      have hD := decR_none l hne.out
      have KO := K2.only O (by simp)
      have g0 : wo.cell? ⟨w.heap.size, 0, none⟩ = some (.int .i64 0) := KO.cell 0
      have f0 := KO.frozen 0
      have g1 : wo.cell? ⟨w.heap.size, 1, none⟩ = some (.string ⟨#[]⟩) := KO.cell 1
      have f1 := KO.frozen 1
      have g2 : wo.cell? ⟨w.heap.size, 2, none⟩ = some (.string ⟨#[]⟩) := KO.cell 2
      have f2 := KO.frozen 2
      have g3 : wo.cell? ⟨w.heap.size, 3, none⟩ = some (.string ⟨#[]⟩) := KO.cell 3
      have f3 := KO.frozen 3
      have g4 : wo.cell? ⟨w.heap.size, 4, none⟩ = some (.int .u32 0) := KO.cell 4
      have f4 := KO.frozen 4
      have g5 : wo.cell? ⟨w.heap.size, 5, none⟩ = some (.int .u32 0) := KO.cell 5
      have f5 := KO.frozen 5
      have g6 : wo.cell? ⟨w.heap.size, 6, none⟩ = some (.int .u32 0) := KO.cell 6
      have f6 := KO.frozen 6
      have g7 : wo.cell? ⟨w.heap.size, 7, none⟩ = some (.int .u32 0) := KO.cell 7
      have f7 := KO.frozen 7
      have g8 : wo.cell? ⟨w.heap.size, 8, none⟩ = some (.slice none 0 0) := KO.cell 8
      have f8 := KO.frozen 8
      have g9 : wo.cell? ⟨w.heap.size, 9, none⟩ = some (.bool false) := KO.cell 9
      have f9 := KO.frozen 9
      have g10 : wo.cell? ⟨w.heap.size, 10, none⟩ = some (.int .u32 0) := KO.cell 10
      have f10 := KO.frozen 10
      go_wp2_with fail
      (try simp only [Exit.inBlock, Exit.then])
      refine ret_req (g := w.heap.size) zeroR rfl (by rfl) (by rfl) (rsetB zeroR KO) ?_
      exact ⟨rsetO zeroR (.inr (Nat.le_refl _)) (O2.trans O (by simp)), zeroR, 8, rfl, zeroR_ok _, zeroR_new _, zeroR_soft _, hD⟩
theorem rdecode_any (s : ByteArray) (A : Option Addr) (l : List Int) (c : Nat) (i0 : Int) (w : World) (hm : w.cell? ⟨0, 0, none⟩ = some (.int .i64 i0)) (h : Rd w A l) (hl : ∀ x ∈ l, 0 ≤ x ∧ x < 256) (hln : l.length ≤ 140737488355000) (hlc : l.length ≤ c) (hlm : c ≤ maxLen) (hal : ∀ a, A = some a → a.block < w.heap.size) :
    Calls Tryz.prog 44 #[.string s, .slice A l.length c] w (RDecPost w s l) := rdecode_anyP s A l c i0 w hm h hl hln hlc hlm (fun a ha _ => hal a ha)
end Go.Proofs.YtkgikodiecmakaaGreatDoor

namespace Go.Proofs.YtkgikodiecmakaaGreatDoor
set_option linter.all false
set_option maxRecDepth 100000
open Go.RowKit Go.MapKept

/-- What an end's method leaves, and answers. -/
def EnPost (b : Nat) (y : EN × Int) (w : World) : Ending → World → Prop := fun e w' => e = .returned (.int .i64 y.2) ∧ Only [b] w w' ∧ Blk w' b 49 y.1.cells
theorem xmore_any (x : EN) (b : Nat) (m : MD) (w : World) (hb : Blk w b 49 x.cells) : Calls Tryz.prog 31 #[ptrV b, m.val] w (EnPost b (x, 0) w) := by
  refine Hs.enter Tryz.func31 [b] [b] [.b true 49 x.sc] [.c (.p 0 0), .g (mdS m)] (Mem.one w b hb) (by kernel_rfl) (by kernel_rfl) ?_
  refine Hs.run1 300 (fun _ => by kernel_rfl) fun b0 => ?_
  exact Hs.ret (v := .int .i64 0) Tryz.func31 (by kernel_rfl) fun w' H => ⟨rfl, H.only, H.at 0 (wr := true) (T := 49) (cs := x.sc) (by kernel_rfl)⟩
theorem xclosed_any (x : EN) (b : Nat) (m : MD) (w : World) (hb : Blk w b 49 x.cells) : Calls Tryz.prog 33 #[ptrV b, m.val] w (EnPost b ({ x with closed := true }, 0) w) := by
  refine Hs.enter Tryz.func33 [b] [b] [.b true 49 x.sc] [.c (.p 0 0), .g (mdS m)] (Mem.one w b hb) (by kernel_rfl) (by kernel_rfl) ?_
  refine Hs.run1 300 (fun _ => by kernel_rfl) fun b0 => ?_
  exact Hs.ret (v := .int .i64 0) Tryz.func33 (by kernel_rfl) fun w' H => ⟨rfl, H.only, H.at 0 (wr := true) (T := 49) (cs := EN.sc { x with closed := true }) (by kernel_rfl)⟩
theorem xeof_any (x : EN) (b : Nat) (m : MD) (w : World) (hb : Blk w b 49 x.cells) : Calls Tryz.prog 32 #[ptrV b, m.val] w (EnPost b (if x.eof then (x, 9) else ({ x with eof := true }, 0)) w) := by
  refine Hs.enter Tryz.func32 [b] [b] [.b true 49 x.sc] [.c (.p 0 0), .g (mdS m)] (Mem.one w b hb) (by kernel_rfl) (by kernel_rfl) ?_
  refine Hs.run1 300 (fun _ => by kernel_rfl) fun b0 => ?_
  refine Hs.cond x.eof (by kernel_rfl) (fun h => ?_) (fun h => ?_)
  · rw [if_pos h]
    refine Hs.run0 300 (fun _ => by kernel_rfl) ?_
    exact Hs.ret (v := .int .i64 9) Tryz.func32 (by kernel_rfl) fun w' H => ⟨rfl, H.only, H.at 0 (wr := true) (T := 49) (cs := x.sc) (by kernel_rfl)⟩
  · rw [if_neg (by rw [h]; decide)]
    refine Hs.run0 300 (fun _ => by kernel_rfl) ?_
    exact Hs.ret (v := .int .i64 0) Tryz.func32 (by kernel_rfl) fun w' H => ⟨rfl, H.only, H.at 0 (wr := true) (T := 49) (cs := EN.sc { x with eof := true }) (by kernel_rfl)⟩
theorem xreply_any (x : EN) (b : Nat) (m : MD) (w : World) (hb : Blk w b 49 x.cells) : Calls Tryz.prog 35 #[ptrV b, m.val] w (EnPost b (if x.wants = 0 then (x, 9) else ({ x with wants := IntKind.i64.wrap (x.wants - 1) }, 0)) w) := by
  refine Hs.enter Tryz.func35 [b] [b] [.b true 49 x.sc] [.c (.p 0 0), .g (mdS m)] (Mem.one w b hb) (by kernel_rfl) (by kernel_rfl) ?_
  refine Hs.run1 300 (fun _ => by kernel_rfl) fun b0 => ?_
  refine Hs.condP (x.wants = 0) (by kernel_rfl) (fun h => ?_) (fun h => ?_)
  · rw [if_pos h]
    refine Hs.run0 300 (fun _ => by kernel_rfl) ?_
    exact Hs.ret (v := .int .i64 9) Tryz.func35 (by kernel_rfl) fun w' H => ⟨rfl, H.only, H.at 0 (wr := true) (T := 49) (cs := x.sc) (by kernel_rfl)⟩
  · rw [if_neg h]
    refine Hs.run0 300 (fun _ => by kernel_rfl) ?_
    exact Hs.ret (v := .int .i64 0) Tryz.func35 (by kernel_rfl) fun w' H => ⟨rfl, H.only, H.at 0 (wr := true) (T := 49) (cs := EN.sc { x with wants := IntKind.i64.wrap (x.wants - 1) }) (by kernel_rfl)⟩
/-- An end's numbers are right. -/
def ENok (x : EN) : Prop := U32 x.packet
theorem xdata_any (x : EN) (b : Nat) (m : MD) (w : World) (hb : Blk w b 49 x.cells) (hx : U32 x.packet) (hl : m.data.length ≤ maxLen) : Calls Tryz.prog 30 #[ptrV b, m.val] w (EnPost b (if x.eof then (x, 9) else if (m.data.length : Int) > x.packet ∨ (m.data.length : Int) > IntKind.u64.wrap (x.granted - x.sent) then (x, 5) else ({ x with sent := IntKind.u64.wrap (x.sent + m.data.length) }, 0)) w) := by
  obtain ⟨dl, hdl⟩ : ∃ dl, m.data.length = dl := ⟨_, rfl⟩
  have hw : IntKind.u64.wrap (dl : Int) = dl := by rw [IntKind.wrap_u64]; unfold maxLen at hl; omega
  have hp : IntKind.u64.wrap x.packet = x.packet := by rw [IntKind.wrap_u64]; unfold U32 at hx; omega
  have hmv : m.val = .agg (([.v (.int .i64 m.kind), .v (.int .u32 m.chan), .v (.int .u32 m.sender), .v (.int .u32 m.window), .v (.int .u32 m.packet), .v (.int .u32 m.code), .v (.string m.name), .v (.string m.lang), .v (.bool m.want), .v (.slice m.dA dl m.dc)] : List SC).map (SC.den [b])).toArray := by rw [← hdl]; rfl
  rw [hdl, hmv]
  refine Hs.enter Tryz.func30 [b] [b] [.b true 49 x.sc] [.c (.p 0 0), .g [.v (.int .i64 m.kind), .v (.int .u32 m.chan), .v (.int .u32 m.sender), .v (.int .u32 m.window), .v (.int .u32 m.packet), .v (.int .u32 m.code), .v (.string m.name), .v (.string m.lang), .v (.bool m.want), .v (.slice m.dA dl m.dc)]] (Mem.one w b hb) (by kernel_rfl) (by kernel_rfl) ?_
  refine Hs.run1 300 (fun _ => by kernel_rfl) fun b0 => ?_
  refine Hs.cond x.eof (by kernel_rfl) (fun h => ?_) (fun h => ?_)
  · rw [if_pos h]
    refine Hs.run0 300 (fun _ => by kernel_rfl) ?_
    exact Hs.ret (v := .int .i64 9) Tryz.func30 (by kernel_rfl) fun w' H => ⟨rfl, H.only, H.at 0 (wr := true) (T := 49) (cs := x.sc) (by kernel_rfl)⟩
  · rw [if_neg (by rw [h]; decide)]
    refine Hs.slot 5 (.c (.v (.int .u64 dl))) (by kernel_rfl) ((by kernel_rfl : _ = Value.int .u64 (IntKind.u64.wrap (dl : Int))).trans (by rw [hw]; rfl)) ?_
    refine Hs.run0 300 (fun _ => by kernel_rfl) ?_
    refine Hs.any [0, 1] (by kernel_rfl) ?_
    refine Hs.run0 300 (fun _ => by kernel_rfl) ?_
    refine Hs.bool 23 (decide ((dl : Int) > IntKind.u64.wrap x.packet)) (by kernel_rfl) (fun h1 => ?_) (fun h1 => ?_)
    · have h1 : (dl : Int) > IntKind.u64.wrap x.packet := of_decide_eq_true h1
      rw [hp] at h1
      rw [if_pos (.inl h1)]
      refine Hs.rung0 [7] 300 (fun _ => by kernel_rfl) ?_
      refine Hs.condT (by kernel_rfl) ?_
      refine Hs.run0 300 (fun _ => by kernel_rfl) ?_
      exact Hs.ret (v := .int .i64 5) Tryz.func30 (by kernel_rfl) fun w' H => ⟨rfl, H.only, H.at 0 (wr := true) (T := 49) (cs := x.sc) (by kernel_rfl)⟩
    · have h1 : ¬ (dl : Int) > IntKind.u64.wrap x.packet := of_decide_eq_false h1
      rw [hp] at h1
      refine Hs.rung0 [7] 300 (fun _ => by kernel_rfl) ?_
      refine Hs.condP ((dl : Int) > IntKind.u64.wrap (x.granted - x.sent)) (by kernel_rfl) (fun h2 => ?_) (fun h2 => ?_)
      · rw [if_pos (.inr h2)]
        refine Hs.run0 300 (fun _ => by kernel_rfl) ?_
        exact Hs.ret (v := .int .i64 5) Tryz.func30 (by kernel_rfl) fun w' H => ⟨rfl, H.only, H.at 0 (wr := true) (T := 49) (cs := x.sc) (by kernel_rfl)⟩
      · rw [if_neg (fun e => e.elim h1 h2)]
        refine Hs.run0 300 (fun _ => by kernel_rfl) ?_
        exact Hs.ret (v := .int .i64 0) Tryz.func30 (by kernel_rfl) fun w' H => ⟨rfl, H.only, H.at 0 (wr := true) (T := 49) (cs := EN.sc { x with sent := IntKind.u64.wrap (x.sent + dl) }) (by kernel_rfl)⟩
end Go.Proofs.YtkgikodiecmakaaGreatDoor

namespace Go.Proofs.YtkgikodiecmakaaGreatDoor
set_option linter.all false
set_option maxRecDepth 100000

/-- What is left to be done behind a region. -/
def afterL (id : Nat) : Code → List Item → List (List Item)
  | .seq a b, k => afterL id a (.code b :: k) ++ afterL id b k
  | .cond _ x y, k => afterL id x k ++ afterL id y k
  | .block i c, k => afterL id c (.inBlock i :: k)
  | .scope c, k => afterL id c (.inScope c :: k)
  | .loop c, k => afterL id c (.inLoop c :: k)
  | .region j _ _, k => match Nat.beq j id with
    | true => [k]
    | false => []
  | _, _ => []
def afterR (fn : Func) (id : Nat) : List Item := match afterL id (codeOf fn) [] with
  | k :: _ => k
  | [] => []
def stopAt (N : Nat) (m : SM) : Bool := match m.r with
  | .no => Nat.beq m.todo.length N
  | _ => false
section
variable (P : Program) (n : Nat) (β : List Nat)
def runU (N : Nat) (ge : List Nat) : Nat → SM → SM
  | 0, m => m
  | k + 1, m => match stopAt N m with
    | true => m
    | false => match oneStep P n β ge m with
      | some m' => runU N ge k m'
      | none => m
end
section
variable {P : Program} {f : FuncId} {R : Ending → World → Prop} {n : Nat} {w0 : World} {L : List Nat} {β : List Nat} {m : SM} {ge : List Nat} {N : Nat}

theorem runU_sound : ∀ (k : Nat) (β : List Nat) (m : SM) (w : World), Mem w0 L β m.hp w → m.wf = true → (∀ ν w', Mem w0 L (β ++ ν) (runU P n (β ++ ν) N ge k m).hp w' → (runU P n (β ++ ν) N ge k m).wf = true → Gs P f R n (β ++ ν) (runU P n (β ++ ν) N ge k m) w') → Gs P f R n β m w
  | 0, β, m, w, H, W, h => by
    have := h [] w
    simp only [List.append_nil] at this
    exact this H W
  | k + 1, β, m, w, H, W, h => by
    cases hst : stopAt N m with
    | true =>
      have := h [] w
      simp only [List.append_nil, runU, hst] at this
      exact this H W
    | false =>
      cases hs : oneStep P n β ge m with
      | none =>
        have := h [] w
        simp only [List.append_nil, runU, hst, hs] at this
        exact this H W
      | some m' =>
        refine oneStep_sound H W hs fun ν w' H' W' => ?_
        refine runU_sound k (β ++ ν) m' w' H' W' fun ν' w'' H'' W'' => ?_
        have e : oneStep P n (β ++ ν ++ ν') ge m = some m' := by
          rw [List.append_assoc, oneStep_app H.len W]; exact hs
        have := h (ν ++ ν') w''
        rw [← List.append_assoc] at this
        simp only [runU, hst, e] at this
        exact this H'' W''
theorem Hs.runUL (N : Nat) (ge : List Nat) (k j : Nat) (hj : ∀ ν, Nat.beq (runU P n (β ++ ν) N ge k m).hp.length (β.length + j) = true) (h : ∀ ν : List Nat, ν.length = j → Hs P f R n w0 L (β ++ ν) (runU P n (β ++ ν) N ge k m)) : Hs P f R n w0 L β m :=
  ⟨fun w H W => runU_sound (N := N) (ge := ge) k β m w H W fun ν w' H' W' => (h ν (by
    have h1 := H'.len
    have h2 := Nat.eq_of_beq_eq_true (hj ν)
    rw [h2, List.length_append] at h1
    omega)).go w' H' W'⟩
theorem Hs.runU0 (N : Nat) (ge : List Nat) (k : Nat) (hj : ∀ ν, Nat.beq (runU P n (β ++ ν) N ge k m).hp.length (β.length + 0) = true) (h : Hs P f R n w0 L β (runU P n β N ge k m)) : Hs P f R n w0 L β m :=
  Hs.runUL N ge k 0 hj fun ν hν => by
    have e := List.length_eq_zero_iff.1 hν
    subst e
    rw [List.append_nil]
    exact h
theorem Hs.runU1 (N : Nat) (ge : List Nat) (k : Nat) (hj : ∀ ν, Nat.beq (runU P n (β ++ ν) N ge k m).hp.length (β.length + 1) = true) (h : ∀ b0 : Nat, Hs P f R n w0 L (β ++ [b0]) (runU P n (β ++ [b0]) N ge k m)) : Hs P f R n w0 L β m :=
  Hs.runUL N ge k 1 hj fun ν hν => by
    match ν, hν with
    | [b0], _ => exact h b0
theorem Hs.runU2 (N : Nat) (ge : List Nat) (k : Nat) (hj : ∀ ν, Nat.beq (runU P n (β ++ ν) N ge k m).hp.length (β.length + 2) = true) (h : ∀ b0 b1 : Nat, Hs P f R n w0 L (β ++ [b0, b1]) (runU P n (β ++ [b0, b1]) N ge k m)) : Hs P f R n w0 L β m :=
  Hs.runUL N ge k 2 hj fun ν hν => by
    match ν, hν with
    | [b0, b1], _ => exact h b0 b1
theorem Hs.runU3 (N : Nat) (ge : List Nat) (k : Nat) (hj : ∀ ν, Nat.beq (runU P n (β ++ ν) N ge k m).hp.length (β.length + 3) = true) (h : ∀ b0 b1 b2 : Nat, Hs P f R n w0 L (β ++ [b0, b1, b2]) (runU P n (β ++ [b0, b1, b2]) N ge k m)) : Hs P f R n w0 L β m :=
  Hs.runUL N ge k 3 hj fun ν hν => by
    match ν, hν with
    | [b0, b1, b2], _ => exact h b0 b1 b2
end
/-! Up to a region. -/
def atL (id : Nat) : Code → List Item → List (List Item)
  | .seq a b, k => atL id a (.code b :: k) ++ atL id b k
  | .cond _ x y, k => atL id x k ++ atL id y k
  | .block i c, k => atL id c (.inBlock i :: k)
  | .scope c, k => atL id c (.inScope c :: k)
  | .loop c, k => atL id c (.inLoop c :: k)
  | .region j ops d, k => match Nat.beq j id with
    | true => [.code (.region j ops d) :: k]
    | false => []
  | _, _ => []
def atR (fn : Func) (id : Nat) : List Item := match atL id (codeOf fn) [] with
  | k :: _ => k
  | [] => []
def stopR (id : Nat) (m : SM) : Bool := match m.r with
  | .no => match m.todo with
    | .code (.region j _ _) :: _ => Nat.beq j id
    | _ => false
  | _ => false
section
variable (P : Program) (n : Nat) (β : List Nat)
def runR (N : Nat) (ge : List Nat) : Nat → SM → SM
  | 0, m => m
  | k + 1, m => match stopR N m with
    | true => m
    | false => match oneStep P n β ge m with
      | some m' => runR N ge k m'
      | none => m
end
section
variable {P : Program} {f : FuncId} {R : Ending → World → Prop} {n : Nat} {w0 : World} {L : List Nat} {β : List Nat} {m : SM} {ge : List Nat} {N : Nat}

theorem runR_sound : ∀ (k : Nat) (β : List Nat) (m : SM) (w : World), Mem w0 L β m.hp w → m.wf = true → (∀ ν w', Mem w0 L (β ++ ν) (runR P n (β ++ ν) N ge k m).hp w' → (runR P n (β ++ ν) N ge k m).wf = true → Gs P f R n (β ++ ν) (runR P n (β ++ ν) N ge k m) w') → Gs P f R n β m w
  | 0, β, m, w, H, W, h => by
    have := h [] w
    simp only [List.append_nil] at this
    exact this H W
  | k + 1, β, m, w, H, W, h => by
    cases hst : stopR N m with
    | true =>
      have := h [] w
      simp only [List.append_nil, runR, hst] at this
      exact this H W
    | false =>
      cases hs : oneStep P n β ge m with
      | none =>
        have := h [] w
        simp only [List.append_nil, runR, hst, hs] at this
        exact this H W
      | some m' =>
        refine oneStep_sound H W hs fun ν w' H' W' => ?_
        refine runR_sound k (β ++ ν) m' w' H' W' fun ν' w'' H'' W'' => ?_
        have e : oneStep P n (β ++ ν ++ ν') ge m = some m' := by
          rw [List.append_assoc, oneStep_app H.len W]; exact hs
        have := h (ν ++ ν') w''
        rw [← List.append_assoc] at this
        simp only [runR, hst, e] at this
        exact this H'' W''
theorem Hs.runRL (N : Nat) (ge : List Nat) (k j : Nat) (hj : ∀ ν, Nat.beq (runR P n (β ++ ν) N ge k m).hp.length (β.length + j) = true) (h : ∀ ν : List Nat, ν.length = j → Hs P f R n w0 L (β ++ ν) (runR P n (β ++ ν) N ge k m)) : Hs P f R n w0 L β m :=
  ⟨fun w H W => runR_sound (N := N) (ge := ge) k β m w H W fun ν w' H' W' => (h ν (by
    have h1 := H'.len
    have h2 := Nat.eq_of_beq_eq_true (hj ν)
    rw [h2, List.length_append] at h1
    omega)).go w' H' W'⟩
theorem Hs.runR0 (N : Nat) (ge : List Nat) (k : Nat) (hj : ∀ ν, Nat.beq (runR P n (β ++ ν) N ge k m).hp.length (β.length + 0) = true) (h : Hs P f R n w0 L β (runR P n β N ge k m)) : Hs P f R n w0 L β m :=
  Hs.runRL N ge k 0 hj fun ν hν => by
    have e := List.length_eq_zero_iff.1 hν
    subst e
    rw [List.append_nil]
    exact h
theorem Hs.runR1 (N : Nat) (ge : List Nat) (k : Nat) (hj : ∀ ν, Nat.beq (runR P n (β ++ ν) N ge k m).hp.length (β.length + 1) = true) (h : ∀ b0 : Nat, Hs P f R n w0 L (β ++ [b0]) (runR P n (β ++ [b0]) N ge k m)) : Hs P f R n w0 L β m :=
  Hs.runRL N ge k 1 hj fun ν hν => by
    match ν, hν with
    | [b0], _ => exact h b0
theorem Hs.runR2 (N : Nat) (ge : List Nat) (k : Nat) (hj : ∀ ν, Nat.beq (runR P n (β ++ ν) N ge k m).hp.length (β.length + 2) = true) (h : ∀ b0 b1 : Nat, Hs P f R n w0 L (β ++ [b0, b1]) (runR P n (β ++ [b0, b1]) N ge k m)) : Hs P f R n w0 L β m :=
  Hs.runRL N ge k 2 hj fun ν hν => by
    match ν, hν with
    | [b0, b1], _ => exact h b0 b1
theorem Hs.runR3 (N : Nat) (ge : List Nat) (k : Nat) (hj : ∀ ν, Nat.beq (runR P n (β ++ ν) N ge k m).hp.length (β.length + 3) = true) (h : ∀ b0 b1 b2 : Nat, Hs P f R n w0 L (β ++ [b0, b1, b2]) (runR P n (β ++ [b0, b1, b2]) N ge k m)) : Hs P f R n w0 L β m :=
  Hs.runRL N ge k 3 hj fun ν hν => by
    match ν, hν with
    | [b0, b1, b2], _ => exact h b0 b1 b2
/-- Several ways come to one state. -/
theorem Hs.cut {ι : Type} (S : ι → List Nat × SM) (h : (∀ i, Hs P f R n w0 L (S i).1 (S i).2) → Hs P f R n w0 L β m) (k : ∀ i, Hs P f R n w0 L (S i).1 (S i).2) : Hs P f R n w0 L β m := h k
section
variable {α : Type} {cf : α → List Value} {tS E size bytes : Nat}
theorem Hs.takeIdx (j : Nat) (ht : ElemT P tS E size bytes) {rd : List Nat} {b off len c i : Nat} (hi : i < len) (hs : semAt j n β m = some (valS (Instr.indexAt tS (.slice (some ⟨b, off, none⟩) len c) (.int .i64 i)), rd)) (h : Hs P f R n w0 L β (takeM j (.c (.v (.pointer (some ⟨b, off + i * size, none⟩)))) m)) : Hs P f R n w0 L β m :=
  Hs.takeV j (.c (.v (.pointer (some ⟨b, off + i * size, none⟩)))) hs rfl (fun w _ => run_idx ht hi w) h
theorem own_rd {w : World} {A : Option Addr} {cap nl : Nat} {l : List α} (hl : l.length = nl) (h : w.ownsRow 0 E size (.slice A nl cap) nl (l.flatMap cf)) : RdX cf w A l := by
  subst hl
  obtain ⟨A', cap', e, _, _, hr, _⟩ := (show OwnX cf E size w 0 (.slice A l.length cap) l from h).form
  injection e with e1
  subst e1
  exact hr
/-- An element of a row of ours, in a region that draws. -/
theorem Hs.takeLdS (j k : Nat) (hcl : ∀ x, (cf x).length = size) {E' : Nat} {rd : List Nat} {g i cap nl : Nat} {l : List α} {x : α} (v : SV) (hs : semAt j n β m = some (valS (Instr.loadAt E' (.pointer (some ⟨g, 0 + i * size, none⟩))), rd)) (hk : m.hp[k]? = some (.s (some ⟨g, 0, none⟩) cap nl E size (l.flatMap cf))) (hkr : rd.contains k = true) (hl : l.length = nl) (hx : l[i]? = some x) (ha : aggB P E' = some true) (hz : szB P E' = some size) (hv : v.den β = .agg (cf x).toArray) (hw : v.wf m.hp.length = true)
    (h : Hs P f R n w0 L β (takeM j v m)) : Hs P f R n w0 L β m :=
  Hs.takeV j v hs hw (fun w hI => by
    obtain ⟨d, hu, hd⟩ := aggB_row ha
    have hr : RdX cf w (some ⟨g, 0, none⟩) l := own_rd hl (hI k (by simpa using hkr) _ hk)
    rw [hv]
    exact run_loadAt_mid w g _ E' (cf x) d (rdX_range hcl hr hx) hu hd (by rw [szB_size hz, hcl])) h
end
end
end Go.Proofs.YtkgikodiecmakaaGreatDoor

namespace Go.Proofs.YtkgikodiecmakaaGreatDoor
set_option linter.all false
set_option maxRecDepth 100000

section
variable {P : Program} {f : FuncId} {R : Ending → World → Prop} {n : Nat} {w0 : World} {L : List Nat} {β : List Nat} {m : SM}
variable {α : Type} {cf : α → List Value} {tS E size bytes : Nat} {w w1 : World} {A : Option Addr} {l : List α}
/-- A slice that is read, and that none of L touches. -/
structure RdO (cf : α → List Value) (w : World) (L : List Nat) (A : Option Addr) (l : List α) : Prop where
  rd : RdX cf w A l
  out : ∀ a, A = some a → 0 < l.length → a.block ∉ L
theorem Mem.outL {hp : List HB} {a : Nat} (H : Mem w0 L β hp w) (h1 : a ∉ L) (h2 : a < w0.heap.size) : a ∉ wrN β hp := fun hx => by
  obtain ⟨k, h, b, e1, e2, e3, e4⟩ := wrN_mem.1 hx
  rcases H.own k h a e1 e3 (by rw [nm_get e2]; exact e4) with h | h
  · exact h1 h
  · omega
theorem RdO.now (h : RdO cf w0 L A l) {hp : List HB} (H : Mem w0 L β hp w) : RdX cf w A l := h.rd.far H.only fun a ha h0 => h.out a ha h0
theorem RdO.step (h : RdO cf w0 L A l) {hp : List HB} (H : Mem w0 L β hp w) : RdO cf w (wrN β hp) A l :=
  ⟨h.now H, fun a ha h0 => H.outL (h.out a ha h0) (by
    obtain ⟨b, off, e, hlt, _⟩ := h.rd h0
    rw [ha] at e; injection e with e; subst e; exact hlt)⟩
theorem RdO.only (h : RdO cf w L A l) (O : Only [] w w1) : RdO cf w1 L A l := ⟨h.rd.only O, h.out⟩
theorem RdO.new {L : List Nat} (h : RdX cf w1 A l) (hA : ∀ a, A = some a → w.heap.size ≤ a.block) (hL : ∀ y ∈ L, y < w.heap.size) : RdO cf w1 L A l :=
  ⟨h, fun a ha _ hm => by have := hL _ hm; have := hA a ha; omega⟩
theorem RdO.nil (h : RdX cf w A l) : RdO cf w [] A l := ⟨h, fun _ _ _ => by simp⟩
/-- One cell of an element that is only read. -/
theorem Hs.ldO {E' b off i j : Nat} {x : α} (hcl : ∀ x, (cf x).length = size) (h : RdO cf w0 L (some ⟨b, off, none⟩) l) (hx : l[i]? = some x) (v : Value) (hj : (cf x)[j]? = some v) (hs : semOf n β m = some (valS (Instr.loadAt E' (.pointer (some ⟨b, off + i * size + j, none⟩))))) (ha : aggB P E' = some false) (k : Hs P f R n w0 L β (m.put (dstOf m) (.c (.v v)) m.hp)) : Hs P f R n w0 L β m :=
  Hs.ldc v hs (fun w H => rdX_cell hcl (h.now H) hx hj) ha k
theorem RdO.stepL {L' : List Nat} {hp : List HB} (hL : L' = wrN β hp) (h : RdO cf w0 L A l) (H : Mem w0 L β hp w) : RdO cf w L' A l := by rw [hL]; exact h.step H
/-- A call whose answer is only read, as Hs.callE; what may be written is named. -/
theorem Hs.callF {X : Type} (v : X → Value) (Q : X → World → World → Prop) {F : FuncId} {args : Array Value} (hC : ∀ w, Mem w0 L β m.hp w → Calls P F args w fun e w' => ∃ x, e = .returned (v x) ∧ Only [] w w' ∧ Q x w w') (hc : callOf P n β m = some (F, args)) (hrd : rdOf m = [])
    (h : ∀ x w w1 L', L' = wrN β m.hp → Mem w0 L β m.hp w → Only [] w w1 → Q x w w1 → Back w0 L w1 L' → (∀ y ∈ L', y < w.heap.size) → Hs P f R n w1 L' β (m.put (dstOf m) (.c (.v (v x))) m.hp)) : Hs P f R n w0 L β m :=
  Hs.callE v Q hC hc hrd fun x w w1 H O q B hL => h x w w1 _ rfl H O q B hL
end
end Go.Proofs.YtkgikodiecmakaaGreatDoor

namespace Go.Proofs.YtkgikodiecmakaaGreatDoor
set_option linter.all false
set_option maxRecDepth 100000

def opsL (id : Nat) : Code → List (Array Oper)
  | .seq a b => opsL id a ++ opsL id b
  | .cond _ x y => opsL id x ++ opsL id y
  | .block _ c => opsL id c
  | .scope c => opsL id c
  | .loop c => opsL id c
  | .region j ops _ => match Nat.beq j id with
    | true => [ops]
    | false => []
  | _ => []
def opsOf (fn : Func) (id : Nat) : Array Oper := match opsL id (codeOf fn) with
  | o :: _ => o
  | [] => #[]
def anyAt (m : SM) : Option (Array Oper × Nat × Nat × List Nat × List Item) := match m.r with
  | .any ops f lm rd => match m.sl.ds with
    | [] => some (ops, f, lm, rd, m.todo)
    | _ => none
  | _ => none
section
variable {P : Program} {f : FuncId} {R : Ending → World → Prop} {n : Nat} {w0 : World} {L : List Nat} {β : List Nat} {m : SM}
theorem rdE_sub {ops : Array Oper} {lm : Nat} {rd : List Nat} {k : Nat} (h : k ∈ rdE ops lm rd) : k ∈ rdsOf rd := by
  unfold rdE at h
  split at h
  · cases h
  · exact h
/-- To a point within a region that draws. -/
theorem Hs.gotoA {ops : Array Oper} {fuel lm : Nat} {rd : List Nat} (T : List Item) (ks : List Nat) (hp' : List HB) (ps : List (Nat × SV)) (hT : anyAt m = some (ops, fuel, lm, rd, T)) (hn : ks.Nodup) (he : hp'.map (HB.val (ks.map (nm β))) = ks.map (hpAt β m.hp))
    (hs : ps.map (fun p => p.2.den (ks.map (nm β))) = ps.map (fun p => (m.sl.at p.1).den β)) (hw : ∀ u, (SM.wf ⟨.any ops fuel lm rd, T, pins ps (.vals u), hp'⟩) = true) (hk : ((rdsOf rd).all fun k => match ks[k]? with | some j => Nat.beq j k | none => false) = true) (h : ∀ u, Hs P f R n w0 L (ks.map (nm β)) ⟨.any ops fuel lm rd, T, pins ps (.vals u), hp'⟩) : Hs P f R n w0 L β m := by
  refine ⟨fun w H W => ?_⟩
  have g := (h fun i => (m.sl.at i).den β).go w (H.sub ks hn he) (hw _)
  obtain ⟨r, todo, sl, hp⟩ := m
  unfold anyAt at hT
  dsimp only at hT
  split at hT
  · rename_i ops0 f0 lm0 rd0
    split at hT
    rotate_left
    · cases hT
    rename_i hds
    injection hT with hT
    simp only [Prod.mk.injEq] at hT
    obtain ⟨rfl, rfl, rfl, rfl, rfl⟩ := hT
    have e : fr n (ks.map (nm β)) (pins ps (.vals fun i => (sl.at i).den β)) = fr n β sl := by
      unfold fr
      rw [pins_ds, hds]
      show Act.mk _ _ = Act.mk _ _
      congr 2
      refine List.map_congr_left fun i _ => ?_
      rw [pins_at]
      split
      · rename_i p hp
        have h1 := List.mem_of_find?_eq_some hp
        have h2 := List.find?_some hp
        simp only [decide_eq_true_eq] at h2
        have h3 := List.map_inj_left.1 hs p h1
        rw [h2]
        exact h3
      · rfl
    intro hcl hlm hns
    have g2 := g hcl hlm hns
    dsimp only at g2
    rw [e] at g2
    refine wpAnyE_turn (fun w2 hI k hkr b hb => ?_) g2
    have hkk := List.all_eq_true.1 hk k (rdE_sub hkr)
    split at hkk
    · rename_i j hj
      have hjk : j = k := Nat.eq_of_beq_eq_true hkk
      subst hjk
      have hlen : hp'.length = ks.length := by simpa using congrArg List.length he
      have hkl := (List.getElem?_eq_some_iff.1 hj).1
      have h1 := congrArg (·[j]?) he
      have hkp : j < hp'.length := by omega
      simp only [List.getElem?_map, List.getElem?_eq_getElem hkp, hj, Option.map_some, Option.some.injEq, hpAt, hb] at h1
      have h2 := hI j hkr _ (List.getElem?_eq_getElem hkp)
      have h3 : nm (ks.map (nm β)) j = nm β j := by
        simp [nm, List.getD, hj]
      rw [h3] at h2
      exact (HB.val_lies h1).1 h2
    · cases hkk
  · cases hT
theorem Hs.branch3 (i j k : Nat) (hc : rdyOf m = some [i, j, k]) (h1 : Hs P f R n w0 L β (selM i m)) (h2 : Hs P f R n w0 L β (selM j m)) (h3 : Hs P f R n w0 L β (selM k m)) : Hs P f R n w0 L β m :=
  Hs.branch _ hc (by simp) fun q hq => by
    simp at hq
    rcases hq with rfl | rfl | rfl
    · exact h1
    · exact h2
    · exact h3
theorem Hs.branch4 (i j k l : Nat) (hc : rdyOf m = some [i, j, k, l]) (h1 : Hs P f R n w0 L β (selM i m)) (h2 : Hs P f R n w0 L β (selM j m)) (h3 : Hs P f R n w0 L β (selM k m)) (h4 : Hs P f R n w0 L β (selM l m)) : Hs P f R n w0 L β m :=
  Hs.branch _ hc (by simp) fun q hq => by
    simp at hq
    rcases hq with rfl | rfl | rfl | rfl
    · exact h1
    · exact h2
    · exact h3
    · exact h4
end
end Go.Proofs.YtkgikodiecmakaaGreatDoor

namespace Go.Proofs.YtkgikodiecmakaaGreatDoor
set_option linter.all false

section
variable (P : Program)
def selfB : Nat → TypeId → Value → Bool
  | 0, _, _ => false
  | m + 1, t, v => match P.underlying t with
    | some .bool => match v with
      | .bool _ => true
      | _ => false
    | some (.int _) => match v with
      | .int _ _ => true
      | _ => false
    | some .string => match v with
      | .string _ => true
      | _ => false
    | some (.struct fs) => match v with
      | .agg xs => !P.stoodInHeld t && fs.toList.all fun f => f.name != "_" && (match partS P f.type (xs.toList.map .v) f.offset with
        | some u => selfB m f.type (u.den [])
        | none => false)
      | _ => false
    | _ => false
end
section
variable {P : Program}
theorem selfB_run : ∀ (m : Nat) (t : TypeId) (v : Value), selfB P m t v = true → ∀ (d : Nat) (w : World), (Op.equalIn (d + m) t v v).run P w = .ok true w
  | 0, t, v, h, d, w => by simp [selfB] at h
  | m + 1, t, v, h, d, w => by
    rw [show d + (m + 1) = (d + m) + 1 by omega]
    unfold selfB at h
    split at h
    · rename_i hu
      split at h
      · rename_i b; rw [run_equalIn_bool' w (d + m) t b b hu]; simp
      · cases h
    · rename_i k hu
      split at h
      · rename_i k' a; rw [run_equalIn_int w (d + m) t k' k a a hu]; simp
      · cases h
    · rename_i hu
      split at h
      · rename_i s; rw [run_equalIn_string w (d + m) t s s hu]; simp
      · cases h
    · rename_i fs hu
      split at h
      · rename_i xs
        simp only [Bool.and_eq_true, Bool.not_eq_true'] at h
        have hf : P.fieldsOf t = fs := by unfold Program.fieldsOf; rw [hu]
        rw [run_equalIn_struct w (d + m) t xs xs (by rw [hf]; exact hu) h.1, hf]
        have key : ∀ l : List Field, (l.all fun f => f.name != "_" && (match partS P f.type (xs.toList.map .v) f.offset with | some u => selfB P m f.type (u.den []) | none => false)) = true → (Op.eqFields (d + m) xs xs l).run P w = .ok true w := by
          intro l
          induction l with
          | nil => intro _; simp [Op.eqFields]
          | cons f l ih =>
            intro hl
            simp only [List.all_cons, Bool.and_eq_true] at hl
            obtain ⟨⟨h1, h2⟩, h3⟩ := hl
            split at h2
            · rename_i u hp
              have hpart : (part f.type xs f.offset).run P w = .ok (u.den []) w := by
                have := run_part_S (β := []) (w := w) hp
                rwa [dens_v, Array.toArray_toList] at this
              have hself := selfB_run m f.type (u.den []) h2 d w
              have hne : f.name ≠ "_" := by simpa using h1
              simp only [Op.eqFields, hne, ne_eq, not_false_eq_true, if_true, Sem.run_bind, hpart, Result.andThen_ok, hself, Bool.not_true, Bool.false_eq_true, if_false]
              exact ih h3
            · cases h2
        exact key fs.toList h.2
      · cases h
    · cases h
variable {f : FuncId} {R : Ending → World → Prop} {n : Nat} {w0 : World} {L : List Nat} {β : List Nat} {m : SM}
def sameOf (n : Nat) (β : List Nat) (m : SM) : Option (BinOp × TypeId × Value × Value) := match curOp m with
  | some o => match gOk m o with
    | true => match o.op with
      | .binOp op T x y _ => some (op, T, (evS n m.sl x).den β, (evS n m.sl y).den β)
      | _ => none
    | false => none
  | none => none
theorem run_same {op : BinOp} {T : TypeId} {xs : Array Value} {b : Bool} (ho : op = .eql ∧ b = true ∨ op = .neq ∧ b = false) (hm : P.eqGuardType P.depth T = false) (h : selfB P 100 T (.agg xs) = true) (x y : Operand) (w : World) : ((do eqGuard op T x y (.agg xs) (.agg xs); binOp op T (.agg xs) (.agg xs)) : Sem Value).run P w = .ok (.bool b) w := by
  have hr := selfB_run 100 T (.agg xs) h 9900 w
  rcases ho with ⟨rfl, rfl⟩ | ⟨rfl, rfl⟩
  · simp only [Sem.run_bind, run_eqGuard_agg w _ T x y xs xs hm, Result.andThen_ok, run_eql_struct]
    rw [show (10000 : Nat) = 9900 + 100 from rfl, hr]; rfl
  · simp only [Sem.run_bind, run_eqGuard_agg w _ T x y xs xs hm, Result.andThen_ok, run_neq_struct]
    rw [show (10000 : Nat) = 9900 + 100 from rfl, hr]; rfl
/-- A struct against itself. -/
theorem Hs.same {op : BinOp} {T : TypeId} (xs : Array Value) (b : Bool) (hc : sameOf n β m = some (op, T, .agg xs, .agg xs)) (ho : op = .eql ∧ b = true ∨ op = .neq ∧ b = false) (hm : (!P.eqGuardType P.depth T && selfB P 100 T (.agg xs)) = true) (h : Hs P f R n w0 L β (m.put (dstOf m) (.c (.v (.bool b))) m.hp)) : Hs P f R n w0 L β m := by
  simp only [Bool.and_eq_true, Bool.not_eq_true'] at hm
  refine ⟨fun w H W => ?_⟩
  unfold sameOf at hc
  split at hc
  · rename_i o hcur
    split at hc
    · rename_i hg
      split at hc
      · rename_i op' T' x y z hop
        simp only [Option.some.injEq, Prod.mk.injEq] at hc
        obtain ⟨rfl, rfl, hx, hy⟩ := hc
        have hd : dstOf m = o.dst := by unfold dstOf; rw [hcur]
        rw [hd] at h
        refine Gs.val (v := .c (.v (.bool b))) hcur hg ?_ (h.go w H ?_)
        · have hr := run_same (P := P) ho hm.1 hm.2 x y w
          simp only [execOp, hop, hx, hy, Sem.run_bind] at hr ⊢
          simp only [hr, Result.andThen_ok, Sem.run_pure]
          rfl
        · simp only [SM.wf, SM.put, Bool.and_eq_true]
          exact ⟨putS_wf (SM.wf_sl W) rfl, SM.wf_hp W⟩
      · cases hc
    · cases hc
  · cases hc
end
end Go.Proofs.YtkgikodiecmakaaGreatDoor

namespace Go.Proofs.YtkgikodiecmakaaGreatDoor
set_option linter.all false
set_option maxRecDepth 100000

section
variable {P : Program} {f : FuncId} {R : Ending → World → Prop} {n : Nat} {w0 : World} {L : List Nat} {β : List Nat} {m : SM}
theorem eqGuard_int {op : BinOp} {T : TypeId} {x y : Operand} {k k' : IntKind} {a b : Int} (w : World) : (eqGuard op T x y (.int k a) (.int k' b)).run P w = .ok () w := by
  cases op <;> rfl
/-- An operation of two numbers. -/
theorem Hs.bin {op : BinOp} {T : TypeId} {k k' : IntKind} {a b : Int} (v : Value) (hc : sameOf n β m = some (op, T, .int k a, .int k' b)) (hr : ∀ w, (binOp op T (.int k a) (.int k' b)).run P w = .ok v w) (h : Hs P f R n w0 L β (m.put (dstOf m) (.c (.v v)) m.hp)) : Hs P f R n w0 L β m := by
  refine ⟨fun w H W => ?_⟩
  unfold sameOf at hc
  split at hc
  · rename_i o hcur
    split at hc
    · rename_i hg
      split at hc
      · rename_i op' T' x y z hop
        simp only [Option.some.injEq, Prod.mk.injEq] at hc
        obtain ⟨rfl, rfl, hx, hy⟩ := hc
        have hd : dstOf m = o.dst := by unfold dstOf; rw [hcur]
        rw [hd] at h
        refine Gs.val (v := .c (.v v)) hcur hg ?_ (h.go w H ?_)
        · have hr := hr w
          simp only [execOp, hop, hx, hy, Sem.run_bind, eqGuard_int w, Result.andThen_ok, hr, Sem.run_pure]
          rfl
        · simp only [SM.wf, SM.put, Bool.and_eq_true]
          exact ⟨putS_wf (SM.wf_sl W) rfl, SM.wf_hp W⟩
      · cases hc
    · cases hc
  · cases hc
/-- A shift to the left, by no number below 0. -/
theorem run_shl {T : TypeId} {k yk : IntKind} {a b : Int} (hb : 0 ≤ b) (w : World) : (binOp .shl T (.int k a) (.int yk b)).run P w = .ok (.int k (k.wrap (a * 2 ^ (min b.toNat k.bits)))) w := by
  show (Op.shift .shl k a yk b).run P w = _
  unfold Op.shift
  rw [if_neg (by omega)]
  rfl
/-- An operation that does not ask the memory, worked out as it stands. -/
def pureV (P : Program) (n : Nat) (β : List Nat) (m : SM) : Option Value := match semOf n β m with
  | some s => match pureOut P s with
    | some (.value v) => some v
    | _ => none
  | none => none
theorem Hs.pure (v : SV) (hs : pureV P n β m = some (v.den β)) (hv : v.wf m.hp.length = true) (k : Hs P f R n w0 L β (m.put (dstOf m) v m.hp)) : Hs P f R n w0 L β m := by
  unfold pureV at hs
  split at hs
  · rename_i s hm
    split at hs
    · rename_i x hx
      injection hs with hs
      subst hs
      exact Hs.opN v hm hv (fun w _ => pureOut_run P _ _ hx w) k
    · cases hs
  · cases hs
end
end Go.Proofs.YtkgikodiecmakaaGreatDoor

namespace Go.Proofs.YtkgikodiecmakaaGreatDoor
set_option linter.all false
set_option maxRecDepth 100000

theorem Mem.swap2 {w0 w w' : World} {L L' β : List Nat} {hp : List HB} (H : Mem w0 L β hp w) (k j : Nat) (hne : k ≠ j) {T T' : TypeId} {cs cs' : List SC} {h0 h1 : HB} (hk : hp[k]? = some (.b true T cs)) (hj : hp[j]? = some h0) (O : Only L' w w') (hL' : ∀ x ∈ L', x = nm β k ∨ h0.blk (nm β j) = some x) (hw0 : h0.wr = true)
    (hB : Blk w' (nm β k) T' (dens β cs')) (hl : h1.lies w' β (nm β j)) (hb : ∀ x, h1.blk (nm β j) = some x → h0.blk (nm β j) = some x ∨ w.heap.size ≤ x) : Mem w0 L β ((hp.set k (.b true T' cs')).set j h1) w' := by
  have hkl := (List.getElem?_eq_some_iff.1 hk).1
  have hjl := (List.getElem?_eq_some_iff.1 hj).1
  have hsz := O.size
  have hsz0 := H.only.size
  have hown : ∀ x ∈ L', x ∈ L ∨ w0.heap.size ≤ x := fun x hx => by
    rcases hL' x hx with rfl | h
    · exact H.own k _ _ hk rfl rfl
    · exact H.own j h0 x hj hw0 h
  have hget : ∀ (i : Nat) (x : HB), ((hp.set k (.b true T' cs')).set j h1)[i]? = some x → (i = j ∧ x = h1) ∨ (i = k ∧ i ≠ j ∧ x = .b true T' cs') ∨ (i ≠ j ∧ i ≠ k ∧ hp[i]? = some x) := fun i x hi => by
    rw [List.getElem?_set] at hi
    split at hi
    · rename_i e
      subst e
      simp only [List.length_set, hjl, if_true, Option.some.injEq] at hi
      exact .inl ⟨rfl, hi.symm⟩
    · rename_i e
      rw [List.getElem?_set] at hi
      split at hi
      · rename_i e2
        subst e2
        simp only [hkl, if_true, Option.some.injEq] at hi
        exact .inr (.inl ⟨rfl, fun h => e h.symm, hi.symm⟩)
      · rename_i e2
        exact .inr (.inr ⟨fun h => e h.symm, fun h => e2 h.symm, hi⟩)
  have key : ∀ (i : Nat) (y : HB) (x : Nat), ((hp.set k (.b true T' cs')).set j h1)[i]? = some y → y.blk (nm β i) = some x → (∃ h : HB, hp[i]? = some h ∧ h.blk (nm β i) = some x) ∨ (i = j ∧ w.heap.size ≤ x) := fun i y x hi hx => by
    rcases hget i y hi with ⟨rfl, rfl⟩ | ⟨rfl, _, rfl⟩ | ⟨_, _, h⟩
    · rcases hb x hx with h2 | h2
      · exact .inl ⟨h0, hj, h2⟩
      · exact .inr ⟨rfl, h2⟩
    · exact .inl ⟨_, hk, hx⟩
    · exact .inl ⟨y, h, hx⟩
  refine ⟨H.only.trans O hown, by simp [H.len], fun i x hi => ?_, fun i x y hi hwr hy => ?_, fun i i' hi hi' x ei ei' li li' => ?_⟩
  · rcases hget i x hi with ⟨rfl, rfl⟩ | ⟨rfl, _, rfl⟩ | ⟨n1, n2, h⟩
    · exact hl
    · exact hB
    · refine HB.lies_only (H.lies i x h) O fun y hy hm => ?_
      rcases hL' y hm with e | e
      · exact n2 (H.inj i k x _ y h hk hy (by rw [e]; rfl))
      · exact n1 (H.inj i j x h0 y h hj hy e)
  · rcases hget i x hi with ⟨rfl, rfl⟩ | ⟨rfl, _, rfl⟩ | ⟨n1, n2, h⟩
    · rcases hb y hy with h2 | h2
      · exact H.own i h0 y hj hw0 h2
      · exact .inr (by omega)
    · exact H.own i _ y hk rfl hy
    · exact H.own i x y h hwr hy
  · rcases key i hi x ei li with ⟨a, ha, la⟩ | ⟨e, h2⟩ <;> rcases key i' hi' x ei' li' with ⟨c, hc, lc⟩ | ⟨e', h2'⟩
    · exact H.inj i i' a c x ha hc la lc
    · have := HB.lies_lt (H.lies i a ha) la
      omega
    · have := HB.lies_lt (H.lies i' c hc) lc
      omega
    · rw [e, e']

theorem wrap_nextJ {i n : Nat} (hn : n ≤ maxLen) (h : i < n := by assumption) : Value.int .i64 (IntKind.i64.wrap ((i : Int) + 1)) = (SV.c (.v (.int .i64 (i + 1 : Nat)))).den [] := by
  show Value.int .i64 _ = Value.int .i64 _
  rw [IntWalk.i64_in _ (by unfold maxLen at hn; omega)]
  rfl
/-- One block that is only read. -/
theorem Mem.rdB1 (w : World) (g : Nat) {T : Nat} {cs : List SC} (hg : Blk w g T (dens [g] cs)) : Mem w [] [g] [.b false T cs] w :=
  Mem.start _ _ _ _ rfl (fun k h hk => by
    cases k with
    | zero => simp at hk; subst hk; exact hg
    | succ k => simp at hk) (fun k h x hk hw _ => by
    cases k with
    | zero => simp at hk; subst hk; cases hw
    | succ k => simp at hk) (fun i j hi hj x ei ej _ _ => by
    cases i with
    | succ i => simp at ei
    | zero =>
      cases j with
      | succ j => simp at ej
      | zero => rfl)


section
variable {P : Program} {f : FuncId} {R : Ending → World → Prop} {n : Nat} {w0 : World} {L : List Nat} {β : List Nat} {m : SM}
variable {α : Type} {cf : α → List Value} {E size : Nat}
/-- A call that turns the block k and the slice j. -/
theorem Hs.callBS (k j : Nat) {T : TypeId} {cs0 : List SC} (v : Value) (cs : Option Addr → Nat → List SC) (l l' : List α) (nl nl' : Nat) (hl : l.length = nl) (hl' : l'.length = nl') {A : Option Addr} {cap : Nat} {F : FuncId} {args : Array Value} (hne : k ≠ j) (hk : m.hp[k]? = some (.b true T cs0)) (hj : m.hp[j]? = some (.s A cap nl E size (l.flatMap cf)))
    (hC : ∀ w, Mem w0 L β m.hp w → Blk w (nm β k) T (dens β cs0) → OwnX cf E size w 0 (.slice A nl cap) l → (∀ x, Value.ownBlock (.slice A nl cap) = some x → x ≠ nm β k) → Calls P F args w fun e w' => ∃ A' cap', e = .returned v ∧ Only (nm β k :: (Value.ownBlock (.slice A nl cap)).toList) w w' ∧ Blk w' (nm β k) T (dens β (cs A' cap')) ∧ OwnX cf E size w' 0 (.slice A' nl' cap') l' ∧ WhereG (.slice A nl cap) (.slice A' nl' cap') w.heap.size)
    (hc : callOf P n β m = some (F, args)) (hrd : ((rdOf m).contains k || (rdOf m).contains j) = false) (hwf : ∀ A' cap', (cs A' cap').all (SC.wf m.hp.length) = true)
    (h : ∀ A' cap', nl' ≤ cap' → cap' ≤ maxLen → Hs P f R n w0 L β (m.put (dstOf m) (.c (.v v)) ((m.hp.set k (.b true T (cs A' cap'))).set j (.s A' cap' nl' E size (l'.flatMap cf))))) : Hs P f R n w0 L β m := by
  subst hl
  refine ⟨fun w H W => ?_⟩
  refine (Hs.call hc (fun w H => ?_)).go w H W
  have hblk : ∀ x, Value.ownBlock (.slice A l.length cap) = some x → HB.blk (nm β j) (.s A cap l.length E size (l.flatMap cf)) = some x := fun x hx => by
    cases A with
    | none => cases hx
    | some a => simpa [Value.ownBlock, HB.blk] using hx
  refine Calls.mono (hC w H (H.at k hk) (H.ownX j rfl hj) (fun x hx e => hne (H.inj k j _ _ x hk hj (by rw [e]; rfl) (hblk x hx)))) ?_
  rintro e w' ⟨A', cap', rfl, O, hB, hO, hw⟩
  have h5 := hO
  unfold OwnX at h5
  rw [hl'] at h5
  obtain ⟨A1, cap1, e1, hc1, hc2, _, _⟩ := hO.form
  injection e1 with e1 e2 e3
  subst e1; subst e3
  rw [hl'] at hc1
  have hd := H.swap2 k j hne (T' := T) (cs' := cs A' cap') (h1 := .s A' cap' nl' E size (l'.flatMap cf)) hk hj O (fun x hx => by
    rcases List.mem_cons.1 hx with h | h
    · exact .inl h
    · exact .inr (hblk x (Option.mem_toList.1 h))) rfl hB h5 (fun x hx => by
    have hb : Value.ownBlock (.slice A' nl' cap') = some x := by
      cases A' with
      | none => cases hx
      | some a => simp only [HB.blk, Option.map_some] at hx; exact hx
    rcases hw x hb with h4 | h4
    · exact .inl (hblk x h4)
    · exact .inr h4)
  refine ⟨[], .c (.v v), (m.hp.set k (.b true T (cs A' cap'))).set j (.s A' cap' nl' E size (l'.flatMap cf)), rfl, by rw [List.append_nil]; exact hd, ?_, fun i hi b hb => ?_, by rw [List.append_nil]; exact h A' cap' hc1 hc2⟩
  · simp only [SV.wf, SC.wf, Bool.true_and, Bool.and_eq_true, Nat.ble_eq, List.length_set]
    refine ⟨Nat.le_refl _, List.all_eq_true.2 fun x hx => ?_⟩
    rcases List.mem_or_eq_of_mem_set hx with hx | rfl
    · rcases List.mem_or_eq_of_mem_set hx with hx | rfl
      · exact List.all_eq_true.1 (SM.wf_hp W) x hx
      · exact hwf A' cap'
    · rfl
  · simp only [Bool.or_eq_false_iff] at hrd
    have hi1 : i ≠ j := fun e => by subst e; have := hrd.2; simp at this; exact this hi
    have hi2 : i ≠ k := fun e => by subst e; have := hrd.1; simp at this; exact this hi
    rw [List.getElem?_set, if_neg (fun e => hi1 e.symm), List.getElem?_set, if_neg (fun e => hi2 e.symm)]
    exact hb
end
end Go.Proofs.YtkgikodiecmakaaGreatDoor

namespace Go.Proofs.YtkgikodiecmakaaGreatDoor
set_option linter.all false

/-- As long as none but L turns, Q holds. -/
def Keeps (w : World) (L : List Nat) (Q : World → Prop) : Prop := ∀ w', Only L w w' → Q w'
/-- Whatever stays with all of L stays with them anew. -/
def Turns (w w' : World) (g : Nat) (Q Q' : World → Prop) : Prop := ∀ L : List Nat, (∀ x ∈ L, x < w.heap.size) → g ∈ L → Keeps w L Q → Keeps w' L Q'
section
variable {w w0 w1 w2 w' : World} {L L1 L' β : List Nat} {hp : List HB} {g : Nat} {Q Q' Q'' F : World → Prop}
theorem Keeps.at (h : Keeps w L Q) : Q w := h w (Only.refl L w)
theorem Keeps.now (h : Keeps w0 L Q) (H : Mem w0 L β hp w) : Q w := h w H.only
theorem Keeps.back (h : Keeps w0 L Q) (B : Back w0 L w1 L1) : Keeps w1 L1 Q := fun w' O => h w' (B w' O)
theorem Keeps.step (h : Keeps w0 L Q) (H : Mem w0 L β hp w) : Keeps w (wrN β hp) Q := h.back H.back
theorem Keeps.mono (h : Keeps w L Q) (hs : ∀ x ∈ L', x ∈ L) : Keeps w L' Q := fun w' O => h w' (O.mono hs)
theorem Keeps.imp (h : Keeps w L Q) (f : ∀ w, Q w → Q' w) : Keeps w L Q' := fun w' O => f w' (h w' O)
theorem Keeps.go (h : Keeps w L Q) (O : Only L w w') : Keeps w' L Q := fun w2 O2 => h w2 (O.trans O2 (fun x hx => .inl hx))
/-- What none of what lies in w can touch. -/
theorem Keeps.goN (h : Keeps w L Q) (O : Only L' w w') (h1 : ∀ x ∈ L', x ∈ L ∨ w.heap.size ≤ x) (h2 : ∀ x ∈ L1, x ∈ L ∨ w.heap.size ≤ x) : Keeps w' L1 Q := fun w2 O2 => by
  have O1 : Only L w w' := (Only.refl L w).trans O h1
  exact h w2 (O1.trans O2 h2)
theorem Keeps.and (h : Keeps w L Q) (h' : Keeps w L Q') : Keeps w L (fun w => Q w ∧ Q' w) := fun w' O => ⟨h w' O, h' w' O⟩
theorem Turns.same (O : Only [g] w w') : Turns w w' g Q Q := fun L _ hg h => h.go (O.mono (by simpa using hg))
theorem Turns.trans (O : Only [g] w w1) (h : Turns w w1 g Q Q') (h' : Turns w1 w2 g Q' Q'') : Turns w w2 g Q Q'' := fun L hL hg hk => h' L (fun x hx => Nat.lt_of_lt_of_le (hL x hx) O.size) hg (h L hL hg hk)
theorem Turns.imp (h : Turns w w' g Q Q') (f : ∀ w, Q' w → Q'' w) : Turns w w' g Q Q'' := fun L hL hg hk => (h L hL hg hk).imp f
theorem Turns.pre (h : Turns w w' g Q Q') (f : ∀ w, Q'' w → Q w) : Turns w w' g Q'' Q' := fun L hL hg hk => h L hL hg (hk.imp f)
theorem Turns.andR (O : Only [g] w w') (h : Turns w w' g Q Q') : Turns w w' g (fun w => Q w ∧ F w) (fun w => Q' w ∧ F w) := fun L hL hg hk =>
  (h L hL hg (hk.imp fun _ h => h.1)).and ((hk.imp fun _ h => h.2).go (O.mono (by simpa using hg)))
/-- A call that turns g, at a later world of it; what is known of the rest. -/
structure Cx (w : World) (g : Nat) (D0 : World → Prop) (w1 : World) (L1 : List Nat) (D1 : World → Prop) : Prop where
  back : Back w [g] w1 L1
  mem : ∀ x ∈ L1, x = g ∨ w.heap.size ≤ x
  has : g ∈ L1
  size : w.heap.size ≤ w1.heap.size
  old : g < w.heap.size
  k0 : Keeps w [g] D0
  keep : ∀ L : List Nat, (∀ x ∈ L, x < w.heap.size) → g ∈ L → Keeps w L D0 → Keeps w1 (L ++ L1) D1
variable {D0 D1 D2 : World → Prop}
theorem Cx.start (hk : Keeps w [g] D0) (hg : g < w.heap.size) : Cx w g D0 w [g] D0 :=
  ⟨Back.refl, by simp, by simp, Nat.le_refl _, hg, hk, fun L _ hg hk => hk.mono fun x hx => by
    rcases List.mem_append.1 hx with h | h
    · exact h
    · rw [List.mem_singleton.1 h]; exact hg⟩
theorem Cx.keeps (C : Cx w g D0 w1 L1 D1) : Keeps w1 L1 D1 := (C.keep [g] (by simp [C.old]) (by simp) C.k0).mono fun x hx => by simp [hx]
theorem Cx.now (C : Cx w g D0 w1 L1 D1) (H : Mem w1 L1 β hp w') : D1 w' := C.keeps.now H
theorem Cx.keepsAt (C : Cx w g D0 w1 L1 D1) (H : Mem w1 L1 β hp w') : Keeps w' [g] D1 := C.keeps.goN H.only (fun x hx => .inl hx) (fun x hx => .inl (by rw [List.mem_singleton.1 hx]; exact C.has))
theorem Cx.imp (C : Cx w g D0 w1 L1 D1) (f : ∀ w, D1 w → D2 w) : Cx w g D0 w1 L1 D2 := ⟨C.back, C.mem, C.has, C.size, C.old, C.k0, fun L hL hg hk => (C.keep L hL hg hk).imp f⟩
theorem Cx.only (C : Cx w g D0 w1 L1 D1) (H : Mem w1 L1 β hp w') : Only [g] w w' := C.back w' H.only
theorem Cx.turns (C : Cx w g D0 w1 L1 D1) (H : Mem w1 L1 β hp w') : Turns w w' g D0 D1 := fun L hL hg hk =>
  (C.keep L hL hg hk).goN H.only (fun x hx => .inl (by simp [hx])) (fun x hx => .inl (by simp [hx]))
/-- A block of ours, but for g, was made in the call. -/
theorem Cx.fresh (C : Cx w g D0 w1 L1 D1) (H : Mem w1 L1 β hp w') {i k : Nat} {hi hk : HB} {x : Nat} (ei : hp[i]? = some hi) (ek : hp[k]? = some hk) (hne : i ≠ k) (hg : hi.blk (nm β i) = some g) (hw : hk.wr = true) (hx : hk.blk (nm β k) = some x) : w.heap.size ≤ x ∧ x ≠ g := by
  have hxg : x ≠ g := fun e => by subst e; exact hne (H.inj i k _ _ x ei ek hg hx)
  refine ⟨?_, hxg⟩
  rcases H.own k hk x ek hw hx with h | h
  · rcases C.mem x h with h | h
    · exact absurd h hxg
    · exact h
  · have := C.size; omega
theorem rdX_keeps {α : Type} {cf : α → List Value} {A : Option Addr} {l : List α} (h : RdX cf w' A l) (hA : ∀ a, A = some a → a.block ∉ L) : Keeps w' L (fun w => RdX cf w A l) := fun w2 O => h.far O fun a ha _ => hA a ha
section
variable {α : Type} {cf : α → List Value} {E size : Nat}
/-- A slice of ours stays. -/
theorem Cx.turnsS (C : Cx w g D0 w1 L1 D1) (H : Mem w1 L1 β hp w') (i k : Nat) {hi : HB} {A : Option Addr} {cap n : Nat} {l : List α} (hl : l.length = n) (ei : hp[i]? = some hi) (ek : hp[k]? = some (.s A cap n E size (l.flatMap cf))) (hne : i ≠ k) (hg : hi.blk (nm β i) = some g) : Turns w w' g D0 (fun w => D1 w ∧ (RdX cf w A l ∧ n ≤ cap ∧ cap ≤ maxLen)) := fun L hL hg' hk => by
  refine (C.turns H L hL hg' hk).and (Keeps.and ?_ (fun _ _ => H.capS k hl ek))
  refine rdX_keeps (H.rdX k hl ek) fun a ha hx => ?_
  have h1 := (C.fresh H (x := a.block) ei ek hne hg rfl (by subst ha; rfl)).1
  have h2 := hL _ hx
  omega
theorem Cx.turnsB (C : Cx w g D0 w1 L1 D1) (H : Mem w1 L1 β hp w') (i k : Nat) {hi : HB} {T : TypeId} {cs : List SC} {l : List α} (ei : hp[i]? = some hi) (ek : hp[k]? = some (.b true T cs)) (hne : i ≠ k) (hg : hi.blk (nm β i) = some g) (hd : dens β cs = l.flatMap cf) : Turns w w' g D0 (fun w => D1 w ∧ RdX cf w (some ⟨nm β k, 0, none⟩) l) := fun L hL hg' hk => by
  refine (C.turns H L hL hg' hk).and ?_
  refine rdX_keeps (H.rdB k ek hd) fun a ha hx => ?_
  injection ha with ha
  subst ha
  have h1 := (C.fresh H (x := nm β k) ei ek hne hg rfl rfl).1
  have h2 := hL _ hx
  simp at h2
  omega
/-- A slice of ours, for a callee that turns g. -/
theorem Mem.keepS (H : Mem w0 L β hp w) (i k : Nat) {hi : HB} {A : Option Addr} {cap n : Nat} {l : List α} (hl : l.length = n) (ei : hp[i]? = some hi) (ek : hp[k]? = some (.s A cap n E size (l.flatMap cf))) (hne : i ≠ k) (hg : hi.blk (nm β i) = some g) : Keeps w [g] (fun w => RdX cf w A l) :=
  rdX_keeps (H.rdX k hl ek) fun a ha hx => hne (H.inj i k _ _ g ei ek hg (by subst ha; exact congrArg some (List.mem_singleton.1 hx)))
theorem Mem.keepB (H : Mem w0 L β hp w) (i k : Nat) {hi : HB} {wr : Bool} {T : TypeId} {cs : List SC} {l : List α} (ei : hp[i]? = some hi) (ek : hp[k]? = some (.b wr T cs)) (hne : i ≠ k) (hg : hi.blk (nm β i) = some g) (hd : dens β cs = l.flatMap cf) : Keeps w [g] (fun w => RdX cf w (some ⟨nm β k, 0, none⟩) l) :=
  rdX_keeps (H.rdB k ek hd) fun a ha hx => hne (H.inj i k _ _ g ei ek hg (by injection ha with ha; subst ha; exact congrArg some (List.mem_singleton.1 hx)))
end
theorem Cx.move (C : Cx w g D0 w1 L1 D1) (H : Mem w1 L1 β hp w2) (O : Only [g] w2 w') (T : Turns w2 w' g D1 D2) (hgm : g ∈ wrN β hp) : Cx w g D0 w' (wrN β hp) D2 := by
  have hO := H.only
  have key : ∀ x ∈ wrN β hp, x ∈ L1 ∨ w1.heap.size ≤ x := fun x hx => by
    obtain ⟨k, h, b, h1, h2, h3, h4⟩ := wrN_mem.1 hx
    exact H.own k h x h1 h3 (by rw [nm_get h2]; exact h4)
  refine ⟨fun w3 O3 => C.back w3 ?_, fun x hx => ?_, hgm, Nat.le_trans C.size (Nat.le_trans hO.size O.size), C.old, C.k0, fun L hL hg hk => ?_⟩
  · exact (hO.trans (O.mono (L' := L1) (by simpa using C.has)) (fun x hx => .inl hx)).trans O3 key
  · rcases key x hx with h | h
    · exact C.mem x h
    · exact .inr (by have := C.size; omega)
  · have h1 := C.keep L hL hg hk
    have h2 : Keeps w2 (L ++ wrN β hp) D1 := h1.goN hO (fun x hx => .inl (by simp [hx])) (fun x hx => by
      rcases List.mem_append.1 hx with h | h
      · exact .inl (by simp [h])
      · rcases key x h with h | h
        · exact .inl (by simp [h])
        · exact .inr h)
    refine T _ (fun x hx => ?_) (by simp [hg]) h2
    rcases List.mem_append.1 hx with h | h
    · have := hL x h; have := C.size; have := hO.size; omega
    · exact H.wrN_lt x h
end
end Go.Proofs.YtkgikodiecmakaaGreatDoor

namespace Go.Proofs.YtkgikodiecmakaaGreatDoor
set_option linter.all false
set_option maxRecDepth 100000
open Go.RowKit Go.MapKept

/-- A message, and global 0, beside what turns. -/
def MsgIn (i0 : Int) (m : MD) (w : World) : Prop := m.ok w ∧ w.cell? ⟨0, 0, none⟩ = some (.int .i64 i0) ∧ m.data.length ≤ 140737488355000 ∧ ∀ a, m.dA = some a → 0 < m.data.length → a.block < w.heap.size
theorem okEx_iff {m : MD} {r : RQ} {E : Int} (hl : InB m.data) (h : DecR m.name m.data r E) : okEx m = true ↔ m.want = false ∧ E = 0 ∧ (r.kind = 9 ∨ r.kind = 10) := by
  unfold okEx
  rw [@decide_eq_true_iff _ (Classical.propDecidable _)]
  constructor
  · rintro ⟨h1, r', h2, h3⟩
    obtain ⟨e, hs⟩ := decR_same0 hl h h2
    refine ⟨h1, e.symm, ?_⟩
    rw [← hs.kind]; exact h3
  · rintro ⟨h1, h2, h3⟩
    subst h2
    exact ⟨h1, r, h, h3⟩
theorem rqS_val (r : RQ) : r.val = .agg #[.int .i64 r.kind, .string r.text, .string r.value, .string r.lang, .int .u32 r.cols, .int .u32 r.rows, .int .u32 r.width, .int .u32 r.height, .slice r.mA r.modes.length r.mc, .bool r.on, .int .u32 r.code] := rfl
theorem xexit_any (x : EN) (b : Nat) (m : MD) (i0 : Int) (w : World) (hb : Blk w b 49 x.cells) (hm : Keeps w [b] (MsgIn i0 m)) : Calls Tryz.prog 34 #[ptrV b, m.val] w (EnPost b (if ¬ okEx m then (x, 4) else if x.told then (x, 9) else ({ x with told := true }, 0)) w) := by
  have hbytes : InB m.data := hm.at.1.bytes
  refine Hs.enter Tryz.func34 [b] [b] [.b true 49 x.sc] [.c (.p 0 0), .g (mdS m)] (Mem.one w b hb) (by kernel_rfl) (by kernel_rfl) ?_
  refine Hs.run1 300 (fun _ => by kernel_rfl) fun b0 => ?_
  refine Hs.callX (F := 44) (args := #[.string m.name, .slice m.dA m.data.length m.dc]) (X := RQ × Int) (fun z => .tuple #[z.1.val, .int .i64 z.2]) (fun z => DecR m.name m.data z.1 z.2) (fun w' H => ?_) (by kernel_rfl) fun z hD => ?_
  · have K := hm w' H.only
    exact (rdecode_anyP m.name m.dA m.data m.dc i0 w' K.2.1 K.1.data K.1.bytes K.2.2.1 K.1.dle K.1.dmax K.2.2.2).mono fun e w2 ⟨O, r, E, h1, _, _, _, h2⟩ => ⟨(r, E), h1, O, h2⟩
  obtain ⟨r, E⟩ := z
  have hiff : okEx m = true ↔ m.want = false ∧ E = 0 ∧ (r.kind = 9 ∨ r.kind = 10) := okEx_iff hbytes hD
  rw [rqS_val]
  refine Hs.run1 300 (fun _ => by kernel_rfl) fun b1 => ?_
  refine Hs.bool 18 m.want (by kernel_rfl) (fun h1 => ?_) (fun h1 => ?_)
  · have hn : ¬ okEx m = true := fun h => by rw [(hiff.1 h).1] at h1; cases h1
    rw [if_pos hn]
    refine Hs.rung0 [2, 6, 10] 300 (fun _ => by kernel_rfl) ?_
    refine Hs.condT (by kernel_rfl) ?_
    refine Hs.run0 300 (fun _ => by kernel_rfl) ?_
    exact Hs.ret (v := .int .i64 4) Tryz.func34 (by kernel_rfl) fun w' H => ⟨rfl, H.only, H.at 0 (wr := true) (T := 49) (cs := x.sc) (by kernel_rfl)⟩
  refine Hs.rung0 [2] 300 (fun _ => by kernel_rfl) ?_
  refine Hs.bool 22 (!decide (E = 0)) (by kernel_rfl) (fun h2 => ?_) (fun h2 => ?_)
  · have hn : ¬ okEx m = true := fun h => by rw [(hiff.1 h).2.1] at h2; simp at h2
    rw [if_pos hn]
    refine Hs.rung0 [2, 6, 10] 300 (fun _ => by kernel_rfl) ?_
    refine Hs.condT (by kernel_rfl) ?_
    refine Hs.run0 300 (fun _ => by kernel_rfl) ?_
    exact Hs.ret (v := .int .i64 4) Tryz.func34 (by kernel_rfl) fun w' H => ⟨rfl, H.only, H.at 0 (wr := true) (T := 49) (cs := x.sc) (by kernel_rfl)⟩
  have h2 : E = 0 := by simpa using h2
  refine Hs.rung0 [2, 6] 300 (fun _ => by kernel_rfl) ?_
  refine Hs.bool 26 (!decide (r.kind = 9)) (by kernel_rfl) (fun h3 => ?_) (fun h3 => ?_)
  · have h3 : r.kind ≠ 9 := by simpa using h3
    refine Hs.rung0 [2, 6, 10] 300 (fun _ => by kernel_rfl) ?_
    refine Hs.cond (!decide (r.kind = 10)) (by kernel_rfl) (fun h4 => ?_) (fun h4 => ?_)
    · have h4 : r.kind ≠ 10 := by simpa using h4
      have hn : ¬ okEx m = true := fun h => (hiff.1 h).2.2.elim h3 h4
      rw [if_pos hn]
      refine Hs.run0 300 (fun _ => by kernel_rfl) ?_
      exact Hs.ret (v := .int .i64 4) Tryz.func34 (by kernel_rfl) fun w' H => ⟨rfl, H.only, H.at 0 (wr := true) (T := 49) (cs := x.sc) (by kernel_rfl)⟩
    · have h4 : r.kind = 10 := by simpa using h4
      have hn : okEx m = true := hiff.2 ⟨h1, h2, .inr h4⟩
      rw [if_neg (by rw [hn]; simp)]
      refine Hs.run0 300 (fun _ => by kernel_rfl) ?_
      refine Hs.cond x.told (by kernel_rfl) (fun h5 => ?_) (fun h5 => ?_)
      · rw [if_pos h5]
        refine Hs.run0 300 (fun _ => by kernel_rfl) ?_
        exact Hs.ret (v := .int .i64 9) Tryz.func34 (by kernel_rfl) fun w' H => ⟨rfl, H.only, H.at 0 (wr := true) (T := 49) (cs := x.sc) (by kernel_rfl)⟩
      · rw [if_neg (by rw [h5]; simp)]
        refine Hs.run0 300 (fun _ => by kernel_rfl) ?_
        exact Hs.ret (v := .int .i64 0) Tryz.func34 (by kernel_rfl) fun w' H => ⟨rfl, H.only, H.at 0 (wr := true) (T := 49) (cs := EN.sc { x with told := true }) (by kernel_rfl)⟩
  · have h3 : r.kind = 9 := by simpa using h3
    have hn : okEx m = true := hiff.2 ⟨h1, h2, .inl h3⟩
    rw [if_neg (by rw [hn]; simp)]
    refine Hs.rung0 [2, 6, 10] 300 (fun _ => by kernel_rfl) ?_
    refine Hs.condF (by kernel_rfl) ?_
    refine Hs.run0 300 (fun _ => by kernel_rfl) ?_
    refine Hs.cond x.told (by kernel_rfl) (fun h5 => ?_) (fun h5 => ?_)
    · rw [if_pos h5]
      refine Hs.run0 300 (fun _ => by kernel_rfl) ?_
      exact Hs.ret (v := .int .i64 9) Tryz.func34 (by kernel_rfl) fun w' H => ⟨rfl, H.only, H.at 0 (wr := true) (T := 49) (cs := x.sc) (by kernel_rfl)⟩
    · rw [if_neg (by rw [h5]; simp)]
      refine Hs.run0 300 (fun _ => by kernel_rfl) ?_
      exact Hs.ret (v := .int .i64 0) Tryz.func34 (by kernel_rfl) fun w' H => ⟨rfl, H.only, H.at 0 (wr := true) (T := 49) (cs := EN.sc { x with told := true }) (by kernel_rfl)⟩
/-- What is heard of a channel that is not closed. -/
theorem endS_kind {x : EN} {m : MD} {ok : Bool} {y : EN × Int} {k : Int} (hk : m.kind = k) (h : (if k = 94 ∨ k = 95 then
    if x.eof then (x, 9) else if (m.data.length : Int) > x.packet ∨ (m.data.length : Int) > IntKind.u64.wrap (x.granted - x.sent) then (x, 5) else ({ x with sent := IntKind.u64.wrap (x.sent + m.data.length) }, 0)
  else if k = 93 then (x, 0)
  else if k = 96 then if x.eof then (x, 9) else ({ x with eof := true }, 0)
  else if k = 97 then ({ x with closed := true }, 0)
  else if k = 98 then if ¬ ok then (x, 4) else if x.told then (x, 9) else ({ x with told := true }, 0)
  else if x.wants = 0 then (x, 9) else ({ x with wants := IntKind.i64.wrap (x.wants - 1) }, 0)) = y) : endS x m ok = y := by
  subst hk; exact h
def takeF (k : Int) : Nat := if k = 94 ∨ k = 95 then 30 else if k = 93 then 31 else if k = 96 then 32 else if k = 97 then 33 else if k = 98 then 34 else 35
theorem take29_any (x : EN) (b : Nat) (m : MD) (i0 : Int) (w : World) (hb : Blk w b 49 x.cells) (hx : U32 x.packet) (hm : Keeps w [b] (MsgIn i0 m)) (h1 : 93 ≤ m.kind) (h2 : m.kind ≤ 100) : Calls Tryz.prog (takeF m.kind) #[ptrV b, m.val] w (EnPost b (endS x m (okEx m)) w) := by
  have hl : m.data.length ≤ maxLen := by have := hm.at.2.2.1; unfold maxLen; omega
  have hk : m.kind = 93 ∨ m.kind = 94 ∨ m.kind = 95 ∨ m.kind = 96 ∨ m.kind = 97 ∨ m.kind = 98 ∨ m.kind = 99 ∨ m.kind = 100 := by omega
  rcases hk with h | h | h | h | h | h | h | h
  · rw [endS_kind h rfl, h]; exact xmore_any x b m w hb
  · rw [endS_kind h rfl, h]; exact xdata_any x b m w hb hx hl
  · rw [endS_kind h rfl, h]; exact xdata_any x b m w hb hx hl
  · rw [endS_kind h rfl, h]; exact xeof_any x b m w hb
  · rw [endS_kind h rfl, h]; exact xclosed_any x b m w hb
  · rw [endS_kind h rfl, h]; exact xexit_any x b m i0 w hb hm
  · rw [endS_kind h rfl, h]; exact xreply_any x b m w hb
  · rw [endS_kind h rfl, h]; exact xreply_any x b m w hb
theorem look_of (k : Int) (b : Nat) (h1 : 93 ≤ k) (h2 : k ≤ 100) : lookM k (ofL b) = some (mV (takeF k) b) := by
  have hk : k = 93 ∨ k = 94 ∨ k = 95 ∨ k = 96 ∨ k = 97 ∨ k = 98 ∨ k = 99 ∨ k = 100 := by omega
  rcases hk with h | h | h | h | h | h | h | h <;> subst h <;> rfl
theorem look_of_no (k : Int) (b : Nat) (h : k < 93 ∨ k > 100) : lookM k (ofL b) = none := by
  unfold ofL
  simp only [lookM]
  repeat rw [if_neg (by omega)]
theorem look_for_no (k : Int) (p : Nat) (h : k ≠ 1 ∧ k ≠ 81 ∧ k ≠ 82 ∧ k ≠ 91 ∧ k ≠ 92) : lookM k (forL p) = none := by
  unfold forL
  simp only [lookM]
  repeat rw [if_neg (by omega)]
end Go.Proofs.YtkgikodiecmakaaGreatDoor

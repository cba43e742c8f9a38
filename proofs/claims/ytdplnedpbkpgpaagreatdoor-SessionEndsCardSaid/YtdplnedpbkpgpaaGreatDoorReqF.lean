/- Layer 4: the getters and the putters, by the kind; no condition but the sizes. -/
import Derived.Test.YtdplnedpbkpgpaaGreatDoorReqA
import Derived.Test.YtdplnedpbkpgpaaGreatDoorReqC
import Derived.Test.YtdplnedpbkpgpaaGreatDoorReqCD
import Derived.Test.YtdplnedpbkpgpaaGreatDoorReqE
namespace Go.Proofs.YtdplnedpbkpgpaaGreatDoor
set_option linter.all false
open Go.RowKit

/-- What gets, of a kind. -/
theorem rget_any (k : Nat) (h1 : 1 ≤ k) (h2 : k ≤ 10) : ∃ F : FuncId, rget k = F ∧ (∀ (args : Array Value) (w : World), (callFunc F args).run Tryz.prog w = .ok (.enter F args) w) ∧
    ∀ (w : World) (m : RQ) (g : Nat), Blk w g 119 m.cells → m.ok w → m.text.size ≤ 140737488355328 → m.value.size ≤ 140737488355328 → m.lang.size ≤ 140737488355328 → Calls Tryz.prog F #[.pointer (some ⟨g, 0, none⟩)] w (GetsPost w (partsR m k)) := by
  rcases k10 h1 h2 with rfl | rfl | rfl | rfl | rfl | rfl | rfl | rfl | rfl | rfl
  · exact ⟨_, rfl, fun args w => by kernel_rfl, fun w m g hg hm hs hv hl => getPtyR_any m g w hg hm hs⟩
  · exact ⟨_, rfl, fun args w => by kernel_rfl, fun w m g hg hm hs hv hl => getEnvR_any m g w hg hs hv⟩
  · exact ⟨_, rfl, fun args w => by kernel_rfl, fun w m g hg hm hs hv hl => getNoneR_any m g w hg⟩
  · exact ⟨_, rfl, fun args w => by kernel_rfl, fun w m g hg hm hs hv hl => getTextR_any m g w hg hs⟩
  · exact ⟨_, rfl, fun args w => by kernel_rfl, fun w m g hg hm hs hv hl => getTextR_any m g w hg hs⟩
  · exact ⟨_, rfl, fun args w => by kernel_rfl, fun w m g hg hm hs hv hl => getSizeR_any m g w hg hm.nums⟩
  · exact ⟨_, rfl, fun args w => by kernel_rfl, fun w m g hg hm hs hv hl => getOnR_any m g w hg⟩
  · exact ⟨_, rfl, fun args w => by kernel_rfl, fun w m g hg hm hs hv hl => getTextR_any m g w hg hs⟩
  · exact ⟨_, rfl, fun args w => by kernel_rfl, fun w m g hg hm hs hv hl => getCodeR_any m g w hg hm.nums.2.2.2.2⟩
  · exact ⟨_, rfl, fun args w => by kernel_rfl, fun w m g hg hm hs hv hl => getDeathR_any m g w hg hs hv hl⟩
def PutsPost (g : Nat) (w : World) (m : RQ) : Ending → World → Prop := fun e w' => e = .returned (.tuple #[]) ∧ Only [g] w w' ∧ Blk w' g 119 m.cells
theorem len_kinds {fs : List FD} {k : Nat} (h : fs.map (fun f => f.pf.kind) = rkinds k) : fs.length = (rkinds k).length := by rw [← h, List.length_map]
/-- What puts, of a kind. -/
theorem rput_any (k : Nat) (h1 : 1 ≤ k) (h2 : k ≤ 10) : ∃ F : FuncId, rput k = F ∧ (∀ (args : Array Value) (w : World), (callFunc F args).run Tryz.prog w = .ok (.enter F args) w) ∧
    ∀ (m : RQ) (g : Nat) (w0 w : World) (A : Option Addr) (fs : List FD) (n c : Nat), fs.length = n → fs.map (fun f => f.pf.kind) = rkinds k → n ≤ c → c ≤ maxLen → RdF w0 A fs → Only [] w0 w → w0.heap.size ≤ g → Blk w g 119 m.cells → Calls Tryz.prog F #[.pointer (some ⟨g, 0, none⟩), .slice A n c] w (PutsPost g w (putR m k fs)) := by
  rcases k10 h1 h2 with rfl | rfl | rfl | rfl | rfl | rfl | rfl | rfl | rfl | rfl
  · refine ⟨_, rfl, fun args w => by kernel_rfl, fun m g w0 w A fs n c hn hk hc hcm hF hO hlt hg => ?_⟩
    obtain ⟨x1, x2, x3, x4, x5, x6, rfl, _⟩ := ks6 hk
    subst hn
    exact putPtyR_any m g w0 w A x1 x2 x3 x4 x5 x6 [] c hF hO hlt hg hc hcm
  · refine ⟨_, rfl, fun args w => by kernel_rfl, fun m g w0 w A fs n c hn hk hc hcm hF hO hlt hg => ?_⟩
    obtain ⟨x1, x2, rfl, _⟩ := ks2 hk
    subst hn
    exact putEnvR_any m g w0 w A x1 x2 [] c hF hO hlt hg
  · refine ⟨_, rfl, fun args w => by kernel_rfl, fun m g w0 w A fs n c hn hk hc hcm hF hO hlt hg => ?_⟩
    obtain rfl : fs = [] := List.eq_nil_of_length_eq_zero (len_kinds hk)
    subst hn
    exact putNoneR_any m g w _ hg
  · refine ⟨_, rfl, fun args w => by kernel_rfl, fun m g w0 w A fs n c hn hk hc hcm hF hO hlt hg => ?_⟩
    obtain ⟨x1, rfl, _⟩ := ks1 hk
    subst hn
    exact putTextR_any m g w0 w A x1 [] c hF hO hlt hg
  · refine ⟨_, rfl, fun args w => by kernel_rfl, fun m g w0 w A fs n c hn hk hc hcm hF hO hlt hg => ?_⟩
    obtain ⟨x1, rfl, _⟩ := ks1 hk
    subst hn
    exact putTextR_any m g w0 w A x1 [] c hF hO hlt hg
  · refine ⟨_, rfl, fun args w => by kernel_rfl, fun m g w0 w A fs n c hn hk hc hcm hF hO hlt hg => ?_⟩
    obtain ⟨x1, x2, x3, x4, rfl, _⟩ := ks4 hk
    subst hn
    exact putSizeR_any m g w0 w A x1 x2 x3 x4 [] c hF hO hlt hg
  · refine ⟨_, rfl, fun args w => by kernel_rfl, fun m g w0 w A fs n c hn hk hc hcm hF hO hlt hg => ?_⟩
    obtain ⟨x1, rfl, _⟩ := ks1 hk
    subst hn
    exact putOnR_any m g w0 w A x1 [] c hF hO hlt hg
  · refine ⟨_, rfl, fun args w => by kernel_rfl, fun m g w0 w A fs n c hn hk hc hcm hF hO hlt hg => ?_⟩
    obtain ⟨x1, rfl, _⟩ := ks1 hk
    subst hn
    exact putTextR_any m g w0 w A x1 [] c hF hO hlt hg
  · refine ⟨_, rfl, fun args w => by kernel_rfl, fun m g w0 w A fs n c hn hk hc hcm hF hO hlt hg => ?_⟩
    obtain ⟨x1, rfl, _⟩ := ks1 hk
    subst hn
    exact putCodeR_any m g w0 w A x1 [] c hF hO hlt hg
  · refine ⟨_, rfl, fun args w => by kernel_rfl, fun m g w0 w A fs n c hn hk hc hcm hF hO hlt hg => ?_⟩
    obtain ⟨x1, x2, x3, x4, rfl, _⟩ := ks4 hk
    subst hn
    exact putDeathR_any m g w0 w A x1 x2 x3 x4 [] c hF hO hlt hg
end Go.Proofs.YtdplnedpbkpgpaaGreatDoor

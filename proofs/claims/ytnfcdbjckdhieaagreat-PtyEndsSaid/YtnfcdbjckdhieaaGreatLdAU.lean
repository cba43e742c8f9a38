/- Layers 15, 16: what a program's wish does to a flow and to a discipline; for all settings and numbers; no condition. -/
import Derived.Test.YtnfcdbjckdhieaaGreatPkG
namespace Go.Proofs.YtnfcdbjckdhieaaGreat
set_option linter.all false
set_option maxRecDepth 100000
open Go.RowKit

def wishS (st : Bool) (what : Int) : Bool := if what = 1 then true else if what = 2 then false else st
def wishO (t : TM) (what : Int) : List Int := if what = 3 then tellC t 9 else if what = 4 then tellC t 8 else []
def wishesV : Value := .agg #[.func (.func 82) #[] #[], .func (.func 84) #[] #[], .func (.func 85) #[] #[], .func (.func 116) #[] #[], .func (.func 117) #[] #[]]
def askD (d : DM) (what : Int) : DM := if what < 1 ∨ what > 4 then d else (putD { d with st := wishS d.st what } (wishO d.t what)).1
def askE (what : Int) : Int := if what < 1 ∨ what > 4 then 2 else 0
theorem tellC_le (t : TM) (op : Nat) : (tellC t op).length ≤ 1 := by unfold tellC; split <;> simp
theorem wishO_le (t : TM) (what : Int) : (wishO t what).length ≤ 1 := by
  unfold wishO
  split
  · exact tellC_le _ _
  · split
    · exact tellC_le _ _
    · simp
end Go.Proofs.YtnfcdbjckdhieaaGreat

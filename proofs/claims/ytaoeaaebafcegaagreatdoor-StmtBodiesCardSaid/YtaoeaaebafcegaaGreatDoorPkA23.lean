/- Chapter 04 (statements), joined: StmPlD, StmPlE, StmPlG. -/
import Derived.Test.YtaoeaaebafcegaaGreatDoorPkA09
import Derived.Test.YtaoeaaebafcegaaGreatDoorPkA15
set_option maxRecDepth 100000
namespace Go.Proofs.YtaoeaaebafcegaaGreatDoor
open Go Go.RowKit
set_option linter.unusedVariables false
theorem lett_in:∀ k,k≤14→∀ c∈lettS k,c∈hasS k∧(c=114∨c=110∨c=101∨c=102∨c=107):=by decide
theorem sts_end {tks:List Tok} {one:Nat→RS (List St)} {i:Nat} (h0:isE tks i [125] = true):stsR one tks (tks.length+1 - i) i = .inl ([],i):=by
 have:=isE_lt h0
 obtain ⟨f,hf⟩:∃ f,tks.length+1 - i=f+1:=⟨tks.length - i,by omega⟩
 rw [hf]
 unfold stsR
 rw [if_pos h0]
def sameSt (b:Bool) (x y:St):Bool:=(x.kind == y.kind) && (x.reg == y.reg) && (x.name == y.name) && (x.n == y.n) && (x.body == y.body) && (x.els == y.els) && (!b || (x.pos == y.pos)) && sameE b x.e y.e && sameE b x.f y.f
def sameS (b : Bool) : List St → List St → Bool
  | [], [] => true
  | x :: l, y :: m => sameSt b x y && sameS b l m
  | _, _ => false
end Go.Proofs.YtaoeaaebafcegaaGreatDoor

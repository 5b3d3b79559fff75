/- Chapter 04 (statements), joined: StmA. -/
import Derived.Test.YtaoeaaebafcegaaGreatDoorPkA07
import Derived.Test.YtaoeaaebafcegaaGreatDoorPkShelf
import Derived.Deep.AppendLies
import Derived.Deep.DeepCutAuto
import Derived.Deep.RegionHeld3
import Derived.Deep.RegionLaw
import Derived.Deep.RegionWith
import Derived.Lib.ItoaLen
import Derived.Lib.ItoaNum
import Derived.Lib.LaidTab
import Derived.Maps.AppendAt
import Derived.Maps.Own
import Derived.Maps.OwnOps
import Derived.Maps.Views
import Derived.RegionTactic
import Derived.StringKeys
import Derived.WalkSmall
set_option maxRecDepth 100000
namespace Go.Proofs.YtaoeaaebafcegaaGreatDoor
open Go Go.RowKit
set_option linter.unusedVariables false
theorem qdr {B:Nat} {a w:World} (h:Below B a w):Below B a w.drew:=⟨h.os,h.tape,h.output,h.size,h.block⟩
theorem qdrN {B:Nat} {a b:World} (h:Below B a b) (n:Nat):Below B a (b.drewN n):=⟨h.os,h.tape,h.output,h.size,h.block⟩
theorem blq {B : Nat} {a b : World} (h : Below B a b := by repeat (first | exact Below.refl _ _ | assumption | refine qdrN ?_ _ | refine qdr ?_)) : Below B a b := h
def wE (l:List Tok) (i:Nat) (e e0:Int):Int:=if e=0 then (if l.length≤i then 6 else e0) else e
def wP (l:List Tok) (i:Nat) (e p:Int):Int:=if e=0 then placeE l i else p
def mI (l:List Tok) (s:List UInt8) (i:Nat) (e:Int):Nat:=if e=0∧isE l i s=true then i+1 else i
def mE (l:List Tok) (s:List UInt8) (i:Nat) (e:Int):Int:=if e=0∧isE l i s=true then 0 else wE l i e 5
def mP (l:List Tok) (s:List UInt8) (i:Nat) (e p:Int):Int:=if e=0∧isE l i s=true then p else wP l i e p
end Go.Proofs.YtaoeaaebafcegaaGreatDoor

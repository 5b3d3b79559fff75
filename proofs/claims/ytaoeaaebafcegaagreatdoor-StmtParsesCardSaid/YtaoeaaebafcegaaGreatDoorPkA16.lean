/- Chapter 04 (statements), joined: StmPlC. -/
import Derived.Test.YtaoeaaebafcegaaGreatDoorPkA09
import Derived.Test.YtaoeaaebafcegaaGreatDoorPkShelf
import Derived.Deep.AppendLies
import Derived.Deep.DeepCutAuto
import Derived.Deep.RegionHeld3
import Derived.Deep.RegionWith
import Derived.Lib.ItoaNum
import Derived.Lib.LaidTab
import Derived.Maps.AppendAt
import Derived.Maps.Own
import Derived.Maps.OwnOps
import Derived.Maps.Views
import Derived.RegionTactic
import Derived.StringKeys
import Derived.WalkSmall
set_option maxRecDepth 100000
namespace Go.Proofs.YtaoeaaebafcegaaGreatDoor
open Go Go.RowKit
set_option linter.unusedVariables false
def hasC (x:St) (c:UInt8):Bool:=(hasS x.kind.toNat).contains c
noncomputable def fitsS (x:St):Bool:=decide (1≤x.kind) && decide (x.kind≤14) && decide (0≤x.pos) && decide (x.pos≤4000) &&
 (if hasC x 114=true then nameE x.reg else x.reg == []) && (if hasC x 110=true then nameE x.name else x.name == []) &&
 (if hasC x 101=true then rightE x.e else x.e.isEmpty) && (if hasC x 102=true then rightE x.f else x.f.isEmpty) &&
 (if hasC x 107=true then decide (1≤x.n) && decide (x.n≤8) else x.n == 0)
structure Fits (x:St):Prop where
 k0:1≤x.kind
 k1:x.kind≤14
 p0:0≤x.pos
 p1:x.pos≤4000
 r:if hasC x 114=true then nameE x.reg=true else x.reg = []
 nm:if hasC x 110=true then nameE x.name=true else x.name = []
 e:if hasC x 101=true then rightE x.e=true else x.e = []
 f:if hasC x 102=true then rightE x.f=true else x.f = []
 t:if hasC x 107=true then 1≤x.n∧x.n≤8 else x.n=0
theorem fits_iff (x:St):fitsS x=true ↔ Fits x:=by
 have e1:((if hasC x 114=true then nameE x.reg else x.reg == [])=true) ↔ (if hasC x 114=true then nameE x.reg=true else x.reg = []):=by
  split
  ·exact Iff.rfl
  ·simp
 have e2:((if hasC x 110=true then nameE x.name else x.name == [])=true) ↔ (if hasC x 110=true then nameE x.name=true else x.name = []):=by
  split
  ·exact Iff.rfl
  ·simp
 have e3:((if hasC x 101=true then rightE x.e else x.e.isEmpty)=true) ↔ (if hasC x 101=true then rightE x.e=true else x.e = []):=by
  split
  ·exact Iff.rfl
  ·simp
 have e4:((if hasC x 102=true then rightE x.f else x.f.isEmpty)=true) ↔ (if hasC x 102=true then rightE x.f=true else x.f = []):=by
  split
  ·exact Iff.rfl
  ·simp
 have e5:((if hasC x 107=true then decide (1≤x.n) && decide (x.n≤8) else x.n == 0)=true) ↔ (if hasC x 107=true then 1≤x.n∧x.n≤8 else x.n=0):=by
  split
  ·simp
  ·simp
 unfold fitsS
 constructor
 ·intro h
  simp only [Bool.and_eq_true,decide_eq_true_eq] at h
  obtain ⟨⟨⟨⟨⟨⟨⟨⟨h1,h2⟩,h3⟩,h4⟩,h5⟩,h6⟩,h7⟩,h8⟩,h9⟩:=h
  exact ⟨h1,h2,h3,h4,e1.1 h5,e2.1 h6,e3.1 h7,e4.1 h8,e5.1 h9⟩
 ·rintro ⟨h1,h2,h3,h4,h5,h6,h7,h8,h9⟩
  simp only [Bool.and_eq_true,decide_eq_true_eq]
  exact ⟨⟨⟨⟨⟨⟨⟨⟨h1,h2⟩,h3⟩,h4⟩,e1.2 h5⟩,e2.2 h6⟩,e3.2 h7⟩,e4.2 h8⟩,e5.2 h9⟩
noncomputable def rightS (l:List St):Bool:=decide (l.length≤40) && l.all fitsS && decide (0≤deepF l.length false l) && decide (deepF l.length false l≤12)
noncomputable def depthS (l:List St):Int:=if rightS l=true then deepF l.length false l else -1
theorem rightS_iff (l:List St):rightS l=true ↔ l.length≤40∧(∀ x∈l,Fits x)∧∃ d,d≤12∧Rd false l d:=by
 unfold rightS
 simp only [Bool.and_eq_true,decide_eq_true_eq,List.all_eq_true]
 constructor
 ·rintro ⟨⟨⟨h1,h2⟩,h3⟩,h4⟩
  exact ⟨h1,fun x hx=>(fits_iff x).1 (h2 x hx),_,by omega,deepF_rd _ _ _ (Nat.le_refl _) h3⟩
 ·rintro ⟨h1,h2,d,h3,h4⟩
  have:=rd_deepF h4 l.length (Nat.le_refl _)
  exact ⟨⟨⟨h1,fun x hx=>(fits_iff x).2 (h2 x hx)⟩,by omega⟩,by omega⟩
theorem depthS_of {l:List St} {d:Nat} (h:rightS l=true) (hd:Rd false l d):depthS l=d:=by
 unfold depthS
 rw [if_pos h]
 exact rd_deepF hd _ (Nat.le_refl _)
noncomputable def partS (x:St) (c:UInt8):List UInt8:=if c=114 then x.reg else if c=110 then x.name else if c=101 then showE x.e else if c=102 then showE x.f else Lib.itoa x.n
def sepS (w:List UInt8) (n:Nat):List UInt8:=if n=0 then (if w = [] then [] else [32]) else if n=1 then [32,61,32] else [44,32]
noncomputable def pieS (w : List UInt8) (x : St) : List UInt8 → Nat → List UInt8
  | [], _ => []
  | c :: r, n => sepS w n ++ (partS x c ++ pieS w x r (n + 1))
noncomputable def lineS (x:St):List UInt8:=wordS x.kind.toNat++pieS (wordS x.kind.toNat) x (lettS x.kind.toNat) 0
def tOpen:List UInt8:=[32,123,10]
def tElse:List UInt8:=[125,32,101,108,115,101,32,123,10]
def tShut:List UInt8:=[125,10]
def tEnd:List UInt8:=[59,10]
noncomputable def linesF:Nat→List UInt8→List St→List UInt8
 | _,_,[]=>[]
 | 0,_,_ :: _=>[]
 | f+1,rt,x :: r =>
   if x.kind=11∨x.kind=12 then
    rt++lineS x++tOpen++linesF f (rt++[32,32]) (r.take x.body.toNat) ++
     (if 0 < x.els then rt++tElse++linesF f (rt++[32,32]) ((r.drop x.body.toNat).take x.els.toNat) else [])++(rt++tShut)++linesF f rt (r.drop (x.body.toNat+x.els.toNat))
   else rt++lineS x++tEnd++linesF f rt r
noncomputable def showS (l:List St):List UInt8:=if rightS l=true then linesF l.length [] l else []
inductive Ln:List St→List UInt8→List UInt8→Prop where
 | nil {rt:List UInt8}:Ln [] rt []
 | leaf {x:St} {r:List St} {rt t:List UInt8} (h11:x.kind≠11) (h12:x.kind≠12) (hr:Ln r rt t):Ln (x :: r) rt (rt++lineS x++tEnd++t)
 | one {x:St} {y r:List St} {rt u t:List UInt8} (hk:x.kind=11∨x.kind=12) (hb:x.body=(y.length:Nat)) (he:x.els=0) (hy:Ln y (rt++[32,32]) u) (hr:Ln r rt t):Ln (x :: (y++r)) rt (rt++lineS x++tOpen++u++(rt++tShut)++t)
 | two {x:St} {y z r:List St} {rt u v t:List UInt8} (hk:x.kind=11) (hb:x.body=(y.length:Nat)) (he:x.els=(z.length:Nat)) (hz0:0 < z.length) (hy:Ln y (rt++[32,32]) u) (hz:Ln z (rt++[32,32]) v) (hr:Ln r rt t):Ln (x :: (y++(z++r))) rt (rt++lineS x++tOpen++u++(rt++tElse++v)++(rt++tShut)++t)
theorem linesF_nil (f:Nat) (rt:List UInt8):linesF f rt [] = []:=by unfold linesF;cases f <;> rfl
theorem rd_ln {b:Bool} {l:List St} {d:Nat} (h:Rd b l d):∀ (rt:List UInt8) (f:Nat),l.length≤f→Ln l rt (linesF f rt l):=by
 induction h with
 | nil=>intro rt f _;rw [linesF_nil];exact .nil
 | @leaf b x r d h11 h12 hb he h13 hr ih =>
   intro rt f hf
   cases f with
   | zero=>simp at hf
   | succ f =>
     unfold linesF
     rw [if_neg (by omega)]
     exact .leaf h11 h12 (ih rt f (by simpa using hf))
 | @ifs b x y z r d1 d2 d h11 hb he hy hz hr i1 i2 i3 =>
   intro rt f hf
   cases f with
   | zero=>simp at hf
   | succ f =>
     simp only [List.length_cons,List.length_append] at hf
     have e1:(y++(z++r)).take x.body.toNat=y:=by rw [hb,Int.toNat_natCast];simp
     have e2:((y++(z++r)).drop x.body.toNat).take x.els.toNat=z:=by rw [hb,he,Int.toNat_natCast,Int.toNat_natCast];simp
     have e3:(y++(z++r)).drop (x.body.toNat+x.els.toNat)=r:=by rw [hb,he,Int.toNat_natCast,Int.toNat_natCast,← List.append_assoc,← List.length_append];simp
     unfold linesF
     rw [if_pos (.inl h11),e1,e2,e3]
     by_cases h0:0 < x.els
     ·rw [if_pos h0]
      exact .two h11 hb he (by omega) (i1 _ f (by omega)) (i2 _ f (by omega)) (i3 _ f (by omega))
     ·rw [if_neg h0,List.append_nil]
      have hz0:z = []:=List.eq_nil_of_length_eq_zero (by omega)
      subst hz0
      exact .one (.inl h11) hb he (i1 _ f (by omega)) (i3 _ f (by omega))
 | @loop b x y r d1 d h12 hb he hy hr i1 i2 =>
   intro rt f hf
   cases f with
   | zero=>simp at hf
   | succ f =>
     simp only [List.length_cons,List.length_append] at hf
     have e1:(y++r).take x.body.toNat=y:=by rw [hb,Int.toNat_natCast];simp
     have e3:(y++r).drop (x.body.toNat+x.els.toNat)=r:=by rw [hb,he,Int.toNat_natCast];simp
     unfold linesF
     rw [if_pos (.inr h12),e1,e3,if_neg (by omega),List.append_nil]
     exact .one (.inr h12) hb he (i1 _ f (by omega)) (i2 _ f (by omega))
theorem ln_linesF {l:List St} {rt t:List UInt8} (h:Ln l rt t):∀ f,l.length≤f→linesF f rt l=t:=by
 induction h with
 | nil=>intro f _;exact linesF_nil _ _
 | leaf h11 h12 hr ih =>
   intro f hf
   cases f with
   | zero=>simp at hf
   | succ f =>
     unfold linesF
     rw [if_neg (by omega),ih f (by simpa using hf)]
 | @one x y r rt u t hk hb he hy hr i1 i2 =>
   intro f hf
   cases f with
   | zero=>simp at hf
   | succ f =>
     simp only [List.length_cons,List.length_append] at hf
     have e1:(y++r).take x.body.toNat=y:=by rw [hb,Int.toNat_natCast];simp
     have e3:(y++r).drop (x.body.toNat+x.els.toNat)=r:=by rw [hb,he,Int.toNat_natCast];simp
     unfold linesF
     rw [if_pos hk,e1,e3,if_neg (by omega),List.append_nil,i1 f (by omega),i2 f (by omega)]
 | @two x y z r rt u v t hk hb he hz0 hy hz hr i1 i2 i3 =>
   intro f hf
   cases f with
   | zero=>simp at hf
   | succ f =>
     simp only [List.length_cons,List.length_append] at hf
     have e1:(y++(z++r)).take x.body.toNat=y:=by rw [hb,Int.toNat_natCast];simp
     have e2:((y++(z++r)).drop x.body.toNat).take x.els.toNat=z:=by rw [hb,he,Int.toNat_natCast,Int.toNat_natCast];simp
     have e3:(y++(z++r)).drop (x.body.toNat+x.els.toNat)=r:=by rw [hb,he,Int.toNat_natCast,Int.toNat_natCast,← List.append_assoc,← List.length_append];simp
     unfold linesF
     rw [if_pos (.inl hk),e1,e2,e3,if_pos (by omega),i1 f (by omega),i2 f (by omega),i3 f (by omega)]
end Go.Proofs.YtaoeaaebafcegaaGreatDoor

/- Chapter 04 (statements), joined: StmPlH. -/
import Derived.Test.YtaoeaaebafcegaaGreatDoorPkA09
set_option maxRecDepth 100000
namespace Go.Proofs.YtaoeaaebafcegaaGreatDoor
open Go Go.RowKit
set_option linter.unusedVariables false
theorem deepF_fuel (f g:Nat) (b:Bool) (l:List St) (hf:l.length≤f) (hg:l.length≤g):deepF f b l=deepF g b l:=by
 by_cases h:0≤deepF f b l
 ·have:=rd_deepF (deepF_rd f b l hf h) g hg
  omega
 ·by_cases h2:0≤deepF g b l
  ·have:=rd_deepF (deepF_rd g b l hg h2) f hf
   omega
  ·have a:=deepF_neg f b l
   have c:=deepF_neg g b l
   omega
def dpS (b:Bool) (l:List St):Int:=deepF l.length b l
theorem dpS_fuel {f:Nat} {b:Bool} {l:List St} (h:l.length≤f):deepF f b l=dpS b l:=deepF_fuel f l.length b l h (Nat.le_refl _)
theorem dpS_nil (b:Bool):dpS b [] = 0:=rfl
theorem dpS_ge (b:Bool) (l:List St):-1≤dpS b l:=deepF_neg _ _ _
def badS (x:St) (n:Nat) (b:Bool):Prop:=(x.body < 0∨x.els < 0∨(n:Int) < x.body+x.els)∨((x.kind≠11∧x.kind≠12∧0 < x.body)∨(x.kind≠11∧0 < x.els)∨(x.kind=13∧b=false))
theorem dpS_bad {x:St} {r:List St} {b:Bool} (h:badS x r.length b):dpS b (x :: r) = -1:=by
 unfold dpS
 rw [List.length_cons,deepF]
 rcases h with h | h
 ·rw [if_pos h]
 ·by_cases h0:x.body < 0∨x.els < 0∨(r.length:Int) < x.body+x.els
  ·rw [if_pos h0]
  ·rw [if_neg h0,if_pos h]
theorem dpS_leaf {x:St} {r:List St} {b:Bool} (h:¬ badS x r.length b) (hk:¬ (x.kind=11∨x.kind=12)):dpS b (x :: r)=dpS b r∧x.body=0∧x.els=0:=by
 unfold badS at h
 refine ⟨?_,by omega,by omega⟩
 conv=>lhs;unfold dpS
 rw [List.length_cons,deepF,if_neg (fun e=>h (.inl e)),if_neg (fun e=>h (.inr e)),if_neg hk]
 rfl
theorem dpS_block {x:St} {r:List St} {b:Bool} (h:¬ badS x r.length b) (hk:x.kind=11∨x.kind=12) :
 dpS b (x :: r)=if dpS (b || decide (x.kind=12)) (r.take x.body.toNat) < 0∨dpS (b || decide (x.kind=12)) ((r.drop x.body.toNat).take x.els.toNat) < 0 then -1
  else if dpS b (r.drop (x.body.toNat+x.els.toNat)) < 0 then -1
  else max (dpS b (r.drop (x.body.toNat+x.els.toNat))) (max (dpS (b || decide (x.kind=12)) (r.take x.body.toNat)+1) (dpS (b || decide (x.kind=12)) ((r.drop x.body.toNat).take x.els.toNat)+1)):=by
 conv=>lhs;unfold dpS
 rw [List.length_cons,deepF,if_neg (fun e=>h (.inl e)),if_neg (fun e=>h (.inr e)),if_pos hk]
 rw [dpS_fuel (by rw [List.length_take];omega),dpS_fuel (by rw [List.length_take,List.length_drop];omega),dpS_fuel (by rw [List.length_drop];omega)]
def restD (b:Bool) (l:List St) (i:Nat) (n:Int):Int:=if dpS b (l.drop i) < 0 then -1 else max n (dpS b (l.drop i))
theorem restD_start (b:Bool) (l:List St):restD b l 0 0=dpS b l:=by
 unfold restD
 have:=dpS_ge b l
 rw [List.drop_zero]
 split <;> omega
theorem restD_end {b:Bool} {l:List St} {i:Nat} {n:Int} (h:l.length≤i) (hn:0≤n):restD b l i n=n:=by
 unfold restD
 rw [List.drop_eq_nil_of_le h,dpS_nil]
 simp
 omega
theorem restD_bad {b:Bool} {l:List St} {i:Nat} {n:Int} (hi:i < l.length) (h:badS l[i] (l.length - (i+1)) b):restD b l i n = -1:=by
 unfold restD
 rw [List.drop_eq_getElem_cons hi,dpS_bad (by rw [List.length_drop];exact h)]
 rfl
theorem restD_leaf {b:Bool} {l:List St} {i:Nat} {n:Int} (hi:i < l.length) (h:¬ badS l[i] (l.length - (i+1)) b) (hk:¬ (l[i].kind=11∨l[i].kind=12)):restD b l i n=restD b l (i+1) n∧l[i].body=0∧l[i].els=0:=by
 have hd:=dpS_leaf (x:=l[i]) (r:=l.drop (i+1)) (b:=b) (by rw [List.length_drop];exact h) hk
 unfold restD
 rw [List.drop_eq_getElem_cons hi,hd.1]
 exact ⟨rfl,hd.2⟩
theorem restD_block {b:Bool} {l:List St} {i:Nat} {n:Int} (hi:i < l.length) (h:¬ badS l[i] (l.length - (i+1)) b) (hk:l[i].kind=11∨l[i].kind=12) {p q:Int} (hp:dpS (b || decide (l[i].kind=12)) ((l.drop (i+1)).take l[i].body.toNat)=p) (hq:dpS (b || decide (l[i].kind=12)) ((l.drop (i+1+l[i].body.toNat)).take l[i].els.toNat)=q) :
 restD b l i n=if p < 0∨q < 0 then -1 else restD b l (i+1+l[i].body.toNat+l[i].els.toNat) (max n (max (p+1) (q+1))):=by
 have hd:=dpS_block (x:=l[i]) (r:=l.drop (i+1)) (b:=b) (by rw [List.length_drop];exact h) hk
 rw [List.drop_drop,List.drop_drop,hp,hq] at hd
 unfold restD
 rw [List.drop_eq_getElem_cons hi,hd,← Nat.add_assoc]
 by_cases h1:p < 0∨q < 0
 ·rw [if_pos h1,if_pos h1];rfl
 ·rw [if_neg h1,if_neg h1]
  by_cases h2:dpS b (l.drop (i+1+l[i].body.toNat+l[i].els.toNat)) < 0
  ·rw [if_pos h2,if_pos h2];rfl
  ·rw [if_neg h2,if_neg h2,if_neg (by omega)]
   omega
end Go.Proofs.YtaoeaaebafcegaaGreatDoor

/- Chapter 04 (statements), joined: StmPlI. -/
import Derived.Test.YtaoeaaebafcegaaGreatDoorPkA16
set_option maxRecDepth 100000
namespace Go.Proofs.YtaoeaaebafcegaaGreatDoor
open Go Go.RowKit
set_option linter.unusedVariables false
noncomputable def lnS (rt:List UInt8) (l:List St):List UInt8:=linesF l.length rt l
theorem lnS_ln {b:Bool} {l:List St} {d:Nat} (h:Rd b l d) (rt:List UInt8):Ln l rt (lnS rt l):=rd_ln h rt _ (Nat.le_refl _)
theorem lnS_of {l:List St} {rt t:List UInt8} (h:Ln l rt t):lnS rt l=t:=ln_linesF h _ (Nat.le_refl _)
theorem lnS_nil (rt:List UInt8):lnS rt [] = []:=rfl
theorem rd_step {x:St} {r:List St} {d:Nat} (h:Rd true (x :: r) d) (rt:List UInt8) :
 (x.kind≠11∧x.kind≠12∧x.body=0∧x.els=0∧(∃ d2,Rd true r d2)∧lnS rt (x :: r)=rt++lineS x++tEnd++lnS rt r) ∨
 ((x.kind=11∨x.kind=12)∧∃ nb ne:Nat,x.body=nb∧x.els=ne∧nb+ne≤r.length∧(∃ d2,Rd true (r.take nb) d2)∧(∃ d2,Rd true ((r.drop nb).take ne) d2)∧(∃ d2,Rd true (r.drop (nb+ne)) d2) ∧
   lnS rt (x :: r)=rt++lineS x++tOpen++lnS (rt++[32,32]) (r.take nb)++(if 0 < ne then rt++tElse++lnS (rt++[32,32]) ((r.drop nb).take ne) else [])++(rt++tShut)++lnS rt (r.drop (nb+ne))):=by
 cases h with
 | leaf h11 h12 hb he h13 hr=>exact .inl ⟨h11,h12,hb,he,⟨_,hr⟩,lnS_of (.leaf h11 h12 (lnS_ln hr rt))⟩
 | @ifs _ _ y z r d1 d2 d h11 hb he hy hz hr =>
   right
   have e1:(y++(z++r)).take y.length=y:=by simp
   have e2:((y++(z++r)).drop y.length).take z.length=z:=by simp
   have e3:(y++(z++r)).drop (y.length+z.length)=r:=by rw [← List.append_assoc,← List.length_append];simp
   refine ⟨.inl h11,y.length,z.length,hb,he,by simp only [List.length_append];omega,⟨_,by rw [e1];exact hy⟩,⟨_,by rw [e2];exact hz⟩,⟨_,by rw [e3];exact hr⟩,?_⟩
   rw [e1,e2,e3]
   by_cases hz0:0 < z.length
   ·rw [if_pos hz0]
    exact lnS_of (.two h11 hb he hz0 (lnS_ln hy _) (lnS_ln hz _) (lnS_ln hr rt))
   ·rw [if_neg hz0]
    have:z = []:=List.eq_nil_of_length_eq_zero (by omega)
    subst this
    simp only [List.nil_append,List.append_nil]
    exact lnS_of (.one (.inl h11) hb he (lnS_ln hy _) (lnS_ln hr rt))
 | @loop _ _ y r d1 d h12 hb he hy hr =>
   right
   have e1:(y++r).take y.length=y:=by simp
   have e2:((y++r).drop y.length).take 0 = []:=by simp
   have e3:(y++r).drop (y.length+0)=r:=by simp
   refine ⟨.inr h12,y.length,0,hb,he,by simp only [List.length_append];omega,⟨_,by rw [e1];exact hy⟩,⟨_,by rw [e2];exact .nil⟩,⟨_,by rw [e3];exact hr⟩,?_⟩
   rw [e1,e2,e3,if_neg (by omega),List.append_nil]
   exact lnS_of (.one (.inr h12) hb he (lnS_ln hy _) (lnS_ln hr rt))
theorem pieS_len (w : List UInt8) (x : St) : ∀ (cs : List UInt8) (n : Nat), (∀ c ∈ cs, (partS x c).length ≤ 800) → (pieS w x cs n).length ≤ 803 * cs.length
  | [], _, _ => Nat.zero_le _
  | c :: r, n, h => by
    have h1 := pieS_len w x r (n + 1) (fun c hc => h c (by simp [hc]))
    have h2 := h c (by simp)
    have h3 : (sepS w n).length ≤ 3 := by
      unfold sepS
      split
      · split <;> simp
      · split <;> simp
    unfold pieS
    simp only [List.length_append, List.length_cons]
    omega
theorem lett_le (k:Nat):(lettS k).length≤4:=by
 by_cases h:k < 15
 ·have:∀ k,k < 15→(lettS k).length≤4:=by decide
  exact this k h
 ·unfold lettS hasS
  rw [List.getD_eq_getElem?_getD,List.getElem?_eq_none (by show 15≤_;omega)]
  exact Nat.zero_le _
theorem word_le (k:Nat):(wordS k).length≤6:=by
 by_cases h:k < 15
 ·have:∀ k,k < 15→(wordS k).length≤6:=by decide
  exact this k h
 ·unfold wordS
  rw [List.getD_eq_getElem?_getD,List.getElem?_eq_none (by show 15≤_;omega)]
  exact Nat.zero_le _
theorem ln_len {l:List St} {rt t:List UInt8} (h:Ln l rt t):(∀ x∈l,(lineS x).length≤4000)→rt.length+2*l.length≤200→t.length≤5000*l.length:=by
 induction h with
 | nil=>intro _ _;exact Nat.zero_le _
 | @leaf x r rt t h11 h12 hr ih =>
   intro hl hb
   have h0:=hl x (by simp)
   simp only [List.length_cons] at hb
   have:=ih (fun y hy=>hl y (by simp [hy])) (by omega)
   simp only [List.length_append,List.length_cons,tEnd,List.length_nil]
   omega
 | @one x y r rt u t hk hb0 he hy hr i1 i2 =>
   intro hl hb
   have h0:=hl x (by simp)
   simp only [List.length_cons,List.length_append] at hb
   have h1:=i1 (fun z hz=>hl z (by simp [hz])) (by simp only [List.length_append,List.length_cons,List.length_nil];omega)
   have h2:=i2 (fun z hz=>hl z (by simp [hz])) (by omega)
   simp only [List.length_append,List.length_cons,tOpen,tShut,List.length_nil]
   omega
 | @two x y z r rt u v t hk hb0 he hz0 hy hz hr i1 i2 i3 =>
   intro hl hb
   have h0:=hl x (by simp)
   simp only [List.length_cons,List.length_append] at hb
   have h1:=i1 (fun z hz=>hl z (by simp [hz])) (by simp only [List.length_append,List.length_cons,List.length_nil];omega)
   have h2:=i2 (fun z hz=>hl z (by simp [hz])) (by simp only [List.length_append,List.length_cons,List.length_nil];omega)
   have h3:=i3 (fun z hz=>hl z (by simp [hz])) (by omega)
   simp only [List.length_append,List.length_cons,tOpen,tShut,tElse,List.length_nil]
   omega
end Go.Proofs.YtaoeaaebafcegaaGreatDoor

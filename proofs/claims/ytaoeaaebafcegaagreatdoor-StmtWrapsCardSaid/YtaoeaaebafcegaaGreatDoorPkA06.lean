/- Chapter 04 (statements), joined: NodPlain. -/
import Derived.Test.YtaoeaaebafcegaaGreatDoorPkA00
set_option maxRecDepth 100000
namespace Go.Proofs.YtaoeaaebafcegaaGreatDoor
set_option linter.unusedVariables false
def kidsE (op:Int):Int:=if op=1∨op=2 then 0 else if op=3∨op=4 then 1 else if 5≤op∧op≤15 then 2 else -1
theorem kidsE_cases (op:Int):op=1∨op=2∨op=3∨op=4∨(5≤op∧op≤15)∨op < 1∨15 < op:=by omega
theorem kidsE_two {op:Int} (h:5≤op) (h2:op≤15):kidsE op=2:=by
 unfold kidsE;rw [if_neg (by omega),if_neg (by omega),if_pos ⟨h,h2⟩]
theorem kidsE_no {op:Int} (h:op < 1∨15 < op):kidsE op = -1:=by
 unfold kidsE;rw [if_neg (by omega),if_neg (by omega),if_neg (by omega)]
theorem kidsE_le (op:Int):-1≤kidsE op∧kidsE op≤2:=by
 unfold kidsE;split
 ·omega
 ·split
  ·omega
  ·split <;> omega
def endN:List Nod→Nat→Option Nat
 | _,0=>some 0
 | [],_+1=>none
 | x :: r,k+1=>if kidsE x.op < 0 then none else (endN r (k+(kidsE x.op).toNat)).map (· + 1)
theorem endN_zero (l:List Nod):endN l 0=some 0:=by cases l <;> rfl
theorem endN_cons (x:Nod) (r:List Nod) (k:Nat):endN (x :: r) (k+1)=if kidsE x.op < 0 then none else (endN r (k+(kidsE x.op).toNat)).map (· + 1):=rfl
theorem endN_le : ∀ (l : List Nod) (k n : Nat), endN l k = some n → n ≤ l.length ∧ k ≤ n
  | l, 0, n, h => by rw [endN_zero] at h; cases h; exact ⟨Nat.zero_le _, Nat.zero_le _⟩
  | [], k + 1, n, h => by cases h
  | x :: r, k + 1, n, h => by
    unfold endN at h
    split at h
    · cases h
    · cases h2 : endN r (k + (kidsE x.op).toNat) with
      | none => rw [h2] at h; cases h
      | some m =>
        rw [h2] at h
        obtain rfl : m + 1 = n := by simpa using h
        have := endN_le r _ m h2
        simp only [List.length_cons]
        omega
theorem endN_add : ∀ (l : List Nod) (a b : Nat), endN l (a + b) = (endN l a).bind fun n => (endN (l.drop n) b).map (n + ·)
  | l, 0, b => by rw [endN_zero, Nat.zero_add]; simp
  | [], a + 1, b => by
    rw [show a + 1 + b = a + b + 1 by omega]; rfl
  | x :: r, a + 1, b => by
    rw [show a + 1 + b = a + b + 1 by omega, endN_cons, endN_cons]
    split
    · rfl
    · rw [show a + b + (kidsE x.op).toNat = a + (kidsE x.op).toNat + b by omega, endN_add r (a + (kidsE x.op).toNat) b]
      cases h : endN r (a + (kidsE x.op).toNat) with
      | none => rfl
      | some n =>
        simp only [Option.bind_some, Option.map_some, List.drop_succ_cons]
        cases endN (r.drop n) b with
        | none => rfl
        | some m => simp; omega
def endE (l : List Nod) (i : Int) : Int := if i < 0 ∨ (l.length : Int) ≤ i then -1 else match endN (l.drop i.toNat) 1 with
  | some n => i + n
  | none => -1
theorem endE_out {l:List Nod} {i:Int} (h:i < 0∨(l.length:Int)≤i):endE l i = -1:=by unfold endE;rw [if_pos h]
def endW (l : List Nod) (i : Int) (k : Nat) : Int := if k = 0 then i else if i < 0 ∨ (l.length : Int) ≤ i then -1 else match endN (l.drop i.toNat) k with
  | some n => i + n
  | none => -1
theorem endW_one (l:List Nod) (i:Int):endW l i 1=endE l i:=rfl
theorem endW_zero (l:List Nod) (i:Int):endW l i 0=i:=rfl
theorem endW_out {l:List Nod} {i:Int} {k:Nat} (hk:0 < k) (h:i < 0∨(l.length:Int)≤i):endW l i k = -1:=by
 unfold endW;rw [if_neg (by omega),if_pos h]
theorem endW_no {l:List Nod} {m k:Nat} (hk:0 < k) (hm:m < l.length) (h:kidsE (l[m]).op < 0):endW l m k = -1:=by
 obtain ⟨k,rfl⟩:∃ j,k=j+1:=⟨k - 1,by omega⟩
 unfold endW
 rw [if_neg (by omega),if_neg (by omega),Int.toNat_natCast,List.drop_eq_getElem_cons hm,endN_cons,if_pos h]
theorem endW_step {l:List Nod} {m k:Nat} (hk:0 < k) (hm:m < l.length) (h:¬ kidsE (l[m]).op < 0):endW l m k=endW l ((m+1:Nat):Int) (k - 1+(kidsE (l[m]).op).toNat):=by
 obtain ⟨k,rfl⟩:∃ j,k=j+1:=⟨k - 1,by omega⟩
 rw [show k+1 - 1=k by omega]
 unfold endW
 rw [if_neg (by omega),if_neg (by omega),Int.toNat_natCast,List.drop_eq_getElem_cons hm,endN_cons,if_neg h,Int.toNat_natCast]
 by_cases h0:k+(kidsE (l[m]).op).toNat=0
 ·rw [h0,endN_zero,if_pos rfl];rfl
 ·rw [if_neg h0]
  by_cases hl:m+1=l.length
  ·rw [if_pos (by omega),List.drop_of_length_le (by omega)]
   obtain ⟨j,hj⟩:∃ j,k+(kidsE (l[m]).op).toNat=j+1:=⟨k+(kidsE (l[m]).op).toNat - 1,by omega⟩
   rw [hj];rfl
  ·rw [if_neg (by omega)]
   cases endN (l.drop (m+1)) (k+(kidsE (l[m]).op).toNat) with
   | none=>rfl
   | some n=>simp only [Option.map_some];omega
theorem endW_succ (l:List Nod) (x k:Nat):endW l x (k+1)=if endW l x k < 0 then -1 else endE l (endW l x k):=by
 by_cases h0:k=0
 ·subst h0
  rw [endW_zero,if_neg (by omega)];rfl
 ·by_cases hx:l.length≤x
  ·rw [endW_out (by omega) (.inr (by omega)),endW_out (by omega) (.inr (by omega)),if_pos (by omega)]
  ·have e1:∀ j,0 < j→endW l x j=match endN (l.drop x) j with | some n=>(x:Int)+n | none=>-1:=fun j hj=>by
    unfold endW;rw [if_neg (by omega),if_neg (by omega),Int.toNat_natCast]
   rw [e1 k (by omega),e1 (k+1) (by omega),endN_add]
   cases h:endN (l.drop x) k with
   | none=>rfl
   | some n =>
     have hle:=endN_le _ _ _ h
     rw [List.length_drop] at hle
     simp only [Option.bind_some,List.drop_drop]
     rw [if_neg (by omega)]
     unfold endE
     by_cases he:l.length≤x+n
     ·rw [if_pos (by omega),List.drop_of_length_le he];rfl
     ·rw [if_neg (by omega)]
      have:((x:Int)+(n:Int)).toNat=x+n:=by omega
      rw [this]
      cases endN (l.drop (x+n)) 1 with
      | none=>rfl
      | some r=>show (x:Int)+((n+r:Nat):Int)=(x:Int)+(n:Int)+(r:Int);omega
theorem endW_bound (l:List Nod) (x k:Nat) (hx:x≤l.length):endW l x k = -1∨((x:Int)+k≤endW l x k∧endW l x k≤l.length):=by
 by_cases h0:k=0
 ·subst h0;rw [endW_zero];exact .inr ⟨by omega,by omega⟩
 ·by_cases hl:l.length≤x
  ·exact .inl (endW_out (by omega) (.inr (by omega)))
  ·unfold endW
   rw [if_neg h0,if_neg (by omega),Int.toNat_natCast]
   cases h:endN (l.drop x) k with
   | none=>exact .inl rfl
   | some n =>
     have hle:=endN_le _ _ _ h
     rw [List.length_drop] at hle
     refine .inr ⟨?_,?_⟩ <;> simp only <;> omega
theorem endE_in {l:List Nod} {m:Nat} (hm:m < l.length) (h:¬ kidsE (l[m]).op < 0):endE l m=endW l ((m+1:Nat):Int) (kidsE (l[m]).op).toNat:=by
 rw [← endW_one,endW_step (by omega) hm h,Nat.sub_self,Nat.zero_add]
theorem endE_no {l:List Nod} {m:Nat} (hm:m < l.length) (h:kidsE (l[m]).op < 0):endE l m = -1:=by
 rw [← endW_one,endW_no (by omega) hm h]
end Go.Proofs.YtaoeaaebafcegaaGreatDoor
namespace Go.Proofs.YtaoeaaebafcegaaGreatDoor
set_option linter.unusedVariables false
inductive Ex where
 | leaf (x:Nod)
 | one (x:Nod) (a:Ex)
 | two (x:Nod) (a b:Ex)
def Ex.flat:Ex→List Nod
 | .leaf x=>[x]
 | .one x a=>x :: a.flat
 | .two x a b=>x :: (a.flat++b.flat)
def Ex.deep:Ex→Nat
 | .leaf _=>1
 | .one _ a=>a.deep+1
 | .two _ a b=>max a.deep b.deep+1
def Ex.top:Ex→Nod
 | .leaf x=>x
 | .one x _=>x
 | .two x _ _=>x
def Ex.ok:Ex→Prop
 | .leaf x=>kidsE x.op=0
 | .one x a=>kidsE x.op=1∧a.ok
 | .two x a b=>kidsE x.op=2∧a.ok∧b.ok
theorem Ex.flat_pos:∀ e:Ex,0 < e.flat.length
 | .leaf x=>by simp [Ex.flat]
 | .one x a=>by simp [Ex.flat]
 | .two x a b=>by simp [Ex.flat]
theorem Ex.deep_le:∀ e:Ex,e.deep≤e.flat.length
 | .leaf x=>by simp [Ex.flat,Ex.deep]
 | .one x a=>by have:=a.deep_le;simp only [Ex.flat,Ex.deep,List.length_cons];omega
 | .two x a b=>by have h1:=a.deep_le;have h2:=b.deep_le;simp only [Ex.flat,Ex.deep,List.length_cons,List.length_append];omega
theorem Ex.top_kids:∀ e:Ex,e.ok→0≤kidsE e.top.op
 | .leaf x,h=>by have h2:kidsE x.op=0:=h;show 0≤kidsE x.op;omega
 | .one x a,h=>by have h2:kidsE x.op=1:=h.1;show 0≤kidsE x.op;omega
 | .two x a b,h=>by have h2:kidsE x.op=2:=h.1;show 0≤kidsE x.op;omega
theorem endN_flat : ∀ (e : Ex), e.ok → ∀ (post : List Nod) (k : Nat), endN (e.flat ++ post) (k + 1) = (endN post k).map (· + e.flat.length)
  | .leaf x, h, post, k => by
    have h0 : kidsE x.op = 0 := h
    show endN (x :: post) (k + 1) = _
    rw [endN_cons, if_neg (by omega), h0]
    rfl
  | .one x a, h, post, k => by
    have h0 : kidsE x.op = 1 := h.1
    show endN (x :: (a.flat ++ post)) (k + 1) = _
    rw [endN_cons, if_neg (by omega), h0]
    show Option.map _ (endN (a.flat ++ post) (k + 1)) = _
    rw [endN_flat a h.2 post k]
    cases endN post k with
    | none => rfl
    | some n => simp [Ex.flat]; omega
  | .two x a b, h, post, k => by
    have h0 : kidsE x.op = 2 := h.1
    show endN (x :: ((a.flat ++ b.flat) ++ post)) (k + 1) = _
    rw [endN_cons, if_neg (by omega), h0, List.append_assoc]
    show Option.map _ (endN (a.flat ++ (b.flat ++ post)) (k + 1 + 1)) = _
    rw [endN_flat a h.2.1 (b.flat ++ post) (k + 1), endN_flat b h.2.2 post k]
    cases endN post k with
    | none => rfl
    | some n => simp [Ex.flat]; omega
theorem endE_flat (pre post:List Nod) (e:Ex) (h:e.ok):endE (pre++(e.flat++post)) pre.length=((pre.length+e.flat.length:Nat):Int):=by
 have hp:=e.flat_pos
 unfold endE
 rw [if_neg (by simp only [List.length_append];omega),Int.toNat_natCast,List.drop_left,endN_flat e h post 0,endN_zero]
 simp
theorem Ex.of_endN : ∀ (l : List Nod) (k n : Nat), endN l k = some n → ∃ es : List Ex, es.length = k ∧ (∀ e ∈ es, e.ok) ∧ l.take n = es.flatMap Ex.flat
  | l, 0, n, h => by rw [endN_zero] at h; cases h; exact ⟨[], rfl, by simp, by simp⟩
  | [], k + 1, n, h => by cases h
  | x :: r, k + 1, n, h => by
    rw [endN_cons] at h
    split at h
    · cases h
    · rename_i hk
      cases h2 : endN r (k + (kidsE x.op).toNat) with
      | none => rw [h2] at h; cases h
      | some m =>
        rw [h2] at h
        obtain rfl : m + 1 = n := by simpa using h
        obtain ⟨es, hl, hok, ht⟩ := Ex.of_endN r _ m h2
        have hk3 : kidsE x.op = 0 ∨ kidsE x.op = 1 ∨ kidsE x.op = 2 := by have := kidsE_le x.op; omega
        rcases hk3 with h0 | h0 | h0
        · rw [h0] at hl
          refine ⟨.leaf x :: es, by simpa using hl, ?_, by rw [List.take_succ_cons, ht]; rfl⟩
          intro e he
          rcases List.mem_cons.1 he with rfl | he
          · exact h0
          · exact hok e he
        · rw [h0] at hl
          match es, hl, hok, ht with
          | a :: es, hl, hok, ht =>
            refine ⟨.one x a :: es, by simpa using hl, ?_, ?_⟩
            · intro e he
              rcases List.mem_cons.1 he with rfl | he
              · exact ⟨h0, hok a (by simp)⟩
              · exact hok e (by simp [he])
            · rw [List.take_succ_cons, ht]; simp [Ex.flat]
        · rw [h0] at hl
          match es, hl, hok, ht with
          | [a], hl, hok, ht => simp at hl
          | a :: b :: es, hl, hok, ht =>
            refine ⟨.two x a b :: es, by simp at hl ⊢; omega, ?_, ?_⟩
            · intro e he
              rcases List.mem_cons.1 he with rfl | he
              · exact ⟨h0, hok a (by simp), hok b (by simp)⟩
              · exact hok e (by simp [he])
            · rw [List.take_succ_cons, ht]; simp [Ex.flat]
theorem Ex.of_end {l:List Nod} {i n:Nat} (h:endE l i=((i+n:Nat):Int)):∃ e:Ex,e.ok∧l=l.take i++(e.flat++l.drop (i+n))∧e.flat.length=n∧i+n≤l.length∧i < l.length:=by
 unfold endE at h
 split at h
 ·omega
 ·rename_i hi
  rw [Int.toNat_natCast] at h
  cases h2:endN (l.drop i) 1 with
  | none=>rw [h2] at h;simp only at h;omega
  | some m =>
    rw [h2] at h
    simp only at h
    obtain rfl:m=n:=by omega
    have hle:=endN_le _ _ _ h2
    rw [List.length_drop] at hle
    obtain ⟨es,hl,hok,ht⟩:=Ex.of_endN _ _ _ h2
    match es,hl,hok,ht with
    | [e],_,hok,ht =>
      have ht2:(l.drop i).take m=e.flat:=by simpa using ht
      refine ⟨e,hok e (by simp),?_,?_,by omega,by omega⟩
      ·rw [← ht2,← List.drop_drop,List.take_append_drop,List.take_append_drop]
      ·rw [← ht2,List.length_take,List.length_drop];omega
theorem Ex.of_whole {l:List Nod} (h:endE l 0=(l.length:Int)):∃ e:Ex,e.ok∧l=e.flat:=by
 obtain ⟨e,h1,h2,h3,_⟩:=Ex.of_end (l:=l) (i:=0) (n:=l.length) (by simpa using h)
 refine ⟨e,h1,?_⟩
 simpa using h2
theorem endE_whole (e:Ex) (h:e.ok):endE e.flat 0=(e.flat.length:Int):=by
 have:=endE_flat [] [] e h
 simpa using this
end Go.Proofs.YtaoeaaebafcegaaGreatDoor
namespace Go.Proofs.YtaoeaaebafcegaaGreatDoor
set_option linter.unusedVariables false
def Ex.ks:Ex→List Ex
 | .leaf _=>[]
 | .one _ a=>[a]
 | .two _ a b=>[a,b]
theorem Ex.flat_ks:∀ e:Ex,e.flat=e.top :: e.ks.flatMap Ex.flat
 | .leaf x=>rfl
 | .one x a=>by simp [Ex.flat,Ex.top,Ex.ks]
 | .two x a b=>by simp [Ex.flat,Ex.top,Ex.ks]
theorem Ex.kids_ks : ∀ e : Ex, e.ok → kidsE e.top.op = (e.ks.length : Int)
  | .leaf x, h => h
  | .one x a, h => h.1
  | .two x a b, h => h.1
theorem Ex.ok_ks:∀ e:Ex,e.ok→∀ a∈e.ks,a.ok
 | .leaf x,h,a,ha=>by simp [Ex.ks] at ha
 | .one x b,h,a,ha=>by simp [Ex.ks] at ha;subst ha;exact h.2
 | .two x b c,h,a,ha=>by simp [Ex.ks] at ha;rcases ha with rfl | rfl <;> first | exact h.2.1 | exact h.2.2
theorem Ex.ks_len (e:Ex):e.ks.length≤2:=by cases e <;> simp [Ex.ks]
def maxK (es:List Ex) (j:Nat):Nat:=(es.take j).foldl (fun n e=>max n e.deep) 0
theorem Ex.deep_ks:∀ e:Ex,e.deep=maxK e.ks e.ks.length+1
 | .leaf x=>rfl
 | .one x a=>by simp [Ex.deep,Ex.ks,maxK]
 | .two x a b=>by simp [Ex.deep,Ex.ks,maxK]
theorem maxK_succ (es:List Ex) (j:Nat) (h:j < es.length):maxK es (j+1)=max (maxK es j) es[j].deep:=by
 unfold maxK
 rw [List.take_succ_eq_append_getElem h,List.foldl_append];rfl
def posK (i:Nat) (es:List Ex) (j:Nat):Nat:=i+1+((es.take j).flatMap Ex.flat).length
theorem posK_zero (i:Nat) (es:List Ex):posK i es 0=i+1:=rfl
theorem posK_succ (i:Nat) (es:List Ex) (j:Nat) (h:j < es.length):posK i es (j+1)=posK i es j+es[j].flat.length:=by
 unfold posK
 rw [List.take_succ_eq_append_getElem h,List.flatMap_append,List.length_append]
 simp;omega
def AtE (l:List Nod) (i:Nat) (e:Ex):Prop:=∃ pre post,l=pre++(e.flat++post)∧pre.length=i
theorem AtE.lt {l:List Nod} {i:Nat} {e:Ex} (h:AtE l i e):i < l.length:=by
 obtain ⟨pre,post,rfl,rfl⟩:=h
 have:=e.flat_pos
 simp only [List.length_append];omega
theorem AtE.top {l:List Nod} {i:Nat} {e:Ex} (h:AtE l i e):l[i]'h.lt=e.top:=by
 obtain ⟨pre,post,rfl,rfl⟩:=h
 have he:=e.flat_ks
 simp [he]
theorem AtE.fin {l:List Nod} {i:Nat} {e:Ex} (h:AtE l i e) (ho:e.ok):endE l i=((i+e.flat.length:Nat):Int):=by
 obtain ⟨pre,post,rfl,rfl⟩:=h
 exact endE_flat pre post e ho
theorem AtE.le {l:List Nod} {i:Nat} {e:Ex} (h:AtE l i e):i+e.flat.length≤l.length:=by
 obtain ⟨pre,post,rfl,rfl⟩:=h
 simp only [List.length_append];omega
theorem AtE.kid {l:List Nod} {i:Nat} {e:Ex} (h:AtE l i e) (j:Nat) (hj:j < e.ks.length):AtE l (posK i e.ks j) (e.ks[j]):=by
 obtain ⟨pre,post,rfl,rfl⟩:=h
 refine ⟨pre++(e.top :: (e.ks.take j).flatMap Ex.flat),(e.ks.drop (j+1)).flatMap Ex.flat++post,?_,?_⟩
 ·have h1:e.ks=e.ks.take j++(e.ks[j] :: e.ks.drop (j+1)):=by rw [← List.drop_eq_getElem_cons hj,List.take_append_drop]
  have h2:(e.ks.take j++(e.ks[j] :: e.ks.drop (j+1))).flatMap Ex.flat=(e.ks.take j).flatMap Ex.flat++(e.ks[j].flat++(e.ks.drop (j+1)).flatMap Ex.flat):=by rw [List.flatMap_append,List.flatMap_cons]
  rw [← h1] at h2
  rw [e.flat_ks,h2]
  simp
 ·unfold posK
  simp only [List.length_append,List.length_cons];omega
theorem AtE.kid_lt {e:Ex} (j:Nat) (hj:j < e.ks.length):(e.ks[j]).flat.length < e.flat.length:=by
 rw [e.flat_ks]
 match e,j,hj with
 | .leaf x,j,hj=>simp [Ex.ks] at hj
 | .one x a,0,hj=>simp [Ex.ks]
 | .two x a b,0,hj=>simp [Ex.ks];omega
 | .two x a b,1,hj=>simp [Ex.ks];omega
theorem AtE.whole (e:Ex):AtE e.flat 0 e:=⟨[],[],by simp,rfl⟩
end Go.Proofs.YtaoeaaebafcegaaGreatDoor

/- Chapter 04 (statements), joined: LawPlain, StmPlD, StmPlF. -/
import Derived.Test.YtaoeaaebafcegaaGreatDoorPkA16
import Derived.Test.YtaoeaaebafcegaaGreatDoorPkA23
set_option maxRecDepth 100000
namespace Go.Proofs.YtaoeaaebafcegaaGreatDoor
open Go Go.RowKit
set_option linter.unusedVariables false
structure Fine (l:List Tok) (f:Nat→Res):Prop where
 may:∀ i x tt,f i = .inl (x,tt)→x.may
 place:∀ i e p,f i = .inr (e,p)→∃ j:Nat,p=placeE l j
theorem may_two' {x:Nod} {a b:Ex} (hx:mayE x=true) (ha:a.may) (hb:b.may):(Ex.two x a b).may:=fun y hy=>by
 simp only [Ex.flat,List.mem_cons,List.mem_append] at hy
 rcases hy with rfl | hy | hy
 ·exact hx
 ·exact ha y hy
 ·exact hb y hy
theorem may_one' {x:Nod} {a:Ex} (hx:mayE x=true) (ha:a.may):(Ex.one x a).may:=fun y hy=>by
 simp only [Ex.flat,List.mem_cons] at hy
 rcases hy with rfl | hy
 ·exact hx
 ·exact ha y hy
theorem may_leaf' {x:Nod} (hx:mayE x=true):(Ex.leaf x).may:=fun y hy=>by
 simp only [Ex.flat,List.mem_cons,List.not_mem_nil,or_false] at hy
 subst hy;exact hx
theorem mayE_sign {op pos:Int} (h1:op≠1) (h2:op≠2) (h3:0≤pos) (h4:pos≤4000):mayE ⟨op,0,[],pos⟩=true:=by
 unfold mayE
 rw [if_neg (by simp;omega),if_neg h1,if_neg h2]
 rfl
theorem tk_in {l:List Tok} {n:Nat} (h:∀ t∈l,TokIn n t) {i:Nat} (hi:i < l.length):TokIn n (tk l i):=by
 rw [tk_at hi];exact h _ (List.getElem_mem hi)
theorem pos_in {l:List Tok} {n:Nat} (h:∀ t∈l,TokIn n t) {i:Nat} (hi:i < l.length):0≤(tk l i).pos∧(tk l i).pos≤n:=by
 have:=tk_in h hi
 have h1:=this.pos0;have h2:=this.pos1
 omega
theorem baseR_fine {l:List Tok} {n:Nat} (h:∀ t∈l,TokIn n t) (hn:n≤4000) {i:Nat} (hi:i < l.length):(∀ x tt,baseR l i = .inl (x,tt)→x.may)∧(∀ e p,baseR l i = .inr (e,p)→∃ j:Nat,p=placeE l j):=by
 have hp:=pos_in h hi
 have ht:=tk_in h hi
 unfold baseR
 split
 ·refine ⟨fun z t hz=>?_,fun e p hz=>by cases hz⟩
  cases hz
  apply may_leaf'
  unfold mayE
  have h1:=ht.num0;have h2:=ht.num1
  rw [if_neg (by simp;omega),if_pos rfl]
  show (decide (0≤(tk l i).n) && decide ((tk l i).n≤4294967296) && true)=true
  rw [decide_eq_true h1,decide_eq_true h2];rfl
 ·split
  ·rename_i hk
   refine ⟨fun z t hz=>?_,fun e p hz=>by cases hz⟩
   cases hz
   apply may_leaf'
   unfold mayE
   rw [if_neg (by simp;omega),if_neg (show ¬ ((2:Int)=1) by decide),if_pos rfl]
   show (true && nameE (tk l i).text)=true
   rw [hk.2];rfl
  ·refine ⟨fun z t hz=>(by cases hz),fun e p hz=>?_⟩
   cases hz
   exact ⟨i,rfl⟩
theorem lp_fine {f : Nat → Res} {n m : Nat} {l : List Tok} (h : ∀ t ∈ l, TokIn m t) (hm : m ≤ 4000) (hf : Fine l f) : ∀ (g : Nat) (x : Ex) (tt : Nat), x.may →
    (∀ z t, lp f n l g x tt = .inl (z, t) → z.may) ∧ (∀ e p, lp f n l g x tt = .inr (e, p) → ∃ j : Nat, p = placeE l j)
  | 0, x, tt, hx => by
    unfold lp
    refine ⟨fun z t h => ?_, fun e p h => by cases h⟩
    cases h; exact hx
  | g + 1, x, tt, hx => by
    unfold lp
    by_cases h0 : opAt n l tt = 0
    · rw [if_pos h0]
      refine ⟨fun z t h => ?_, fun e p h => by cases h⟩
      cases h; exact hx
    · rw [if_neg h0]
      have hop := opsOf_in _ _ (opAt_some h0).1
      have hp := pos_in h (opAt_lt h0)
      cases hy : f (tt + 1) with
      | inr e =>
        refine ⟨fun z t h => (by cases h), fun e p h => ?_⟩
        cases h
        exact hf.place _ _ _ hy
      | inl r =>
        obtain ⟨y, to2⟩ := r
        have hxy : (Ex.two ⟨opAt n l tt, 0, [], (tk l tt).pos⟩ x y).may := may_two' (mayE_sign (by omega) (by omega) hp.1 (by omega)) hx (hf.may _ _ _ hy)
        simp only
        split
        · refine ⟨fun z t h => ?_, fun e p h => by cases h⟩
          cases h; exact hxy
        · exact lp_fine h hm hf g _ to2 hxy
theorem flR_fine {pr : Nat → Res} {l : List Tok} {m : Nat} (h : ∀ t ∈ l, TokIn m t) (hm : m ≤ 4000) (hp : Fine l pr) : ∀ k, Fine l (flR pr l k)
  | 0 => hp
  | k + 1 => by
    have ih := flR_fine h hm hp k
    constructor
    · intro i x tt hx
      unfold flR at hx
      cases hy : flR pr l k i with
      | inr e => rw [hy] at hx; cases hx
      | inl r =>
        obtain ⟨y, to2⟩ := r
        rw [hy] at hx
        exact (lp_fine h hm ih _ y to2 (ih.may _ _ _ hy)).1 _ _ hx
    · intro i e p hx
      unfold flR at hx
      cases hy : flR pr l k i with
      | inr e2 => rw [hy] at hx; cases hx; exact ih.place _ _ _ hy
      | inl r =>
        obtain ⟨y, to2⟩ := r
        rw [hy] at hx
        exact (lp_fine h hm ih _ y to2 (ih.may _ _ _ hy)).2 _ _ hx
theorem prR_fine {l : List Tok} {m : Nat} (h : ∀ t ∈ l, TokIn m t) (hm : m ≤ 4000) : ∀ k, Fine l (prR l k)
  | 0 => by
    constructor
    · intro i x tt hx
      unfold prR at hx
      split at hx
      · cases hx
      · split at hx
        · cases hx
        · exact (baseR_fine h hm (by omega)).1 _ _ hx
    · intro i e p hx
      unfold prR at hx
      split at hx
      · cases hx; exact ⟨i, rfl⟩
      · split at hx
        · cases hx; exact ⟨i, rfl⟩
        · exact (baseR_fine h hm (by omega)).2 _ _ hx
  | k + 1 => by
    have ih := prR_fine h hm k
    have ihf := flR_fine h hm ih 5
    constructor
    · intro i x tt hx
      unfold prR at hx
      split at hx
      · cases hx
      · rename_i hi
        have hp := pos_in h (show i < l.length by omega)
        split at hx
        · cases hy : prR l k (i + 1) with
          | inr e => rw [hy] at hx; cases hx
          | inl r =>
            obtain ⟨y, to2⟩ := r
            rw [hy] at hx
            cases hx
            exact may_one' (mayE_sign (by split <;> decide) (by split <;> decide) hp.1 (by omega)) (ih.may _ _ _ hy)
        · split at hx
          · cases hy : flR (prR l k) l 5 (i + 1) with
            | inr e => rw [hy] at hx; cases hx
            | inl r =>
              obtain ⟨y, to2⟩ := r
              rw [hy] at hx
              simp only at hx
              split at hx
              · cases hx; exact ihf.may _ _ _ hy
              · cases hx
          · exact (baseR_fine h hm (by omega)).1 _ _ hx
    · intro i e p hx
      unfold prR at hx
      split at hx
      · cases hx; exact ⟨i, rfl⟩
      · split at hx
        · cases hy : prR l k (i + 1) with
          | inr e =>
            rw [hy] at hx
            cases hx
            exact ih.place _ _ _ hy
          | inl r => obtain ⟨y, to2⟩ := r; rw [hy] at hx; cases hx
        · split at hx
          · cases hy : flR (prR l k) l 5 (i + 1) with
            | inr e =>
              rw [hy] at hx
              cases hx
              exact ihf.place _ _ _ hy
            | inl r =>
              obtain ⟨y, to2⟩ := r
              rw [hy] at hx
              simp only at hx
              split at hx
              · cases hx
              · cases hx; exact ⟨to2, rfl⟩
          · exact (baseR_fine h hm (by omega)).2 _ _ hx
theorem right_of {e:Ex} (ho:e.ok) (hm:e.may) (hd:e.deep≤12) (hl:e.flat.length≤40):rightE e.flat=true∧showE e.flat=e.show∧depthE e.flat=e.deep:=by
 have hr:rightE e.flat=true:=by
  rw [rightE_flat e ho]
  have:e.flat.all mayE=true:=List.all_eq_true.2 hm
  rw [this,decide_eq_true hl,decide_eq_true hd];rfl
 exact ⟨hr,by unfold showE;rw [if_pos hr,treeE_flat e ho],by unfold depthE;rw [if_pos hr,treeE_flat e ho]⟩
theorem lett_has:∀ k,k≤14→∀ c∈hasS k,c≠98→c∈lettS k:=by decide
theorem hasC_iff (x:St) (c:UInt8):hasC x c=true ↔ c∈hasS x.kind.toNat:=by unfold hasC;simp
theorem exprR_right {l:List Tok} (h:∀ t∈l,TokIn 4000 t) {i:Nat} {x:List Nod} {j:Nat} (hr:exprR l i = .inl (x,j)):rightE x=true:=by
 obtain ⟨_,_,e,ho,rfl,hf,hd,h40⟩:=exprR_good hr
 exact (right_of ho ((flR_fine h (Nat.le_refl _) (prR_fine h (Nat.le_refl _) 12) 5).1 i e j hf) hd h40).1
structure Got (cs:List UInt8) (x y:St):Prop where
 r:if 114∈cs then nameE y.reg=true else y.reg=x.reg
 nm:if 110∈cs then nameE y.name=true else y.name=x.name
 e:if 101∈cs then rightE y.e=true else y.e=x.e
 f:if 102∈cs then rightE y.f=true else y.f=x.f
 t:if 107∈cs then 1≤y.n∧y.n≤8 else y.n=x.n
theorem got_part {l:List Tok} (h:∀ t∈l,TokIn 4000 t) {c:UInt8} (hc:c=114∨c=110∨c=101∨c=102∨c=107) {x y:St} {i j:Nat} (hr:partR l c x i = .inl (y,j)):Got [c] x y:=by
 unfold partR at hr
 rcases hc with rfl | rfl | rfl | rfl | rfl
 ·rw [if_pos rfl] at hr
  cases hn:nameR l i with
  | inr e=>rw [hn] at hr;cases hr
  | inl q =>
    obtain ⟨s,k⟩:=q
    rw [hn] at hr;cases hr
    obtain ⟨_,_,h3,h4,_⟩:=nameR_good hn
    exact ⟨by rw [if_pos (by decide)];rw [h4];exact h3,by rw [if_neg (by decide)],by rw [if_neg (by decide)],by rw [if_neg (by decide)],by rw [if_neg (by decide)]⟩
 ·rw [if_neg (by decide),if_pos rfl] at hr
  cases hn:nameR l i with
  | inr e=>rw [hn] at hr;cases hr
  | inl q =>
    obtain ⟨s,k⟩:=q
    rw [hn] at hr;cases hr
    obtain ⟨_,_,h3,h4,_⟩:=nameR_good hn
    exact ⟨by rw [if_neg (by decide)],by rw [if_pos (by decide)];rw [h4];exact h3,by rw [if_neg (by decide)],by rw [if_neg (by decide)],by rw [if_neg (by decide)]⟩
 ·rw [if_neg (by decide),if_neg (by decide),if_pos rfl] at hr
  cases hn:exprR l i with
  | inr e=>rw [hn] at hr;cases hr
  | inl q =>
    obtain ⟨s,k⟩:=q
    rw [hn] at hr;cases hr
    exact ⟨by rw [if_neg (by decide)],by rw [if_neg (by decide)],by rw [if_pos (by decide)];exact exprR_right h hn,by rw [if_neg (by decide)],by rw [if_neg (by decide)]⟩
 ·rw [if_neg (by decide),if_neg (by decide),if_neg (by decide),if_pos rfl] at hr
  cases hn:exprR l i with
  | inr e=>rw [hn] at hr;cases hr
  | inl q =>
    obtain ⟨s,k⟩:=q
    rw [hn] at hr;cases hr
    exact ⟨by rw [if_neg (by decide)],by rw [if_neg (by decide)],by rw [if_neg (by decide)],by rw [if_pos (by decide)];exact exprR_right h hn,by rw [if_neg (by decide)]⟩
 ·rw [if_neg (by decide),if_neg (by decide),if_neg (by decide),if_neg (by decide)] at hr
  cases hn:roundsR l i with
  | inr e=>rw [hn] at hr;cases hr
  | inl q =>
    obtain ⟨s,k⟩:=q
    rw [hn] at hr;cases hr
    obtain ⟨_,_,_,h4,h5,_⟩:=roundsR_good hn
    exact ⟨by rw [if_neg (by decide)],by rw [if_neg (by decide)],by rw [if_neg (by decide)],by rw [if_neg (by decide)],by rw [if_pos (by decide)];exact ⟨h4,h5⟩⟩
theorem got_ite {p q:Prop} [Decidable p] [Decidable q] {α:Type} {P:α→Prop} {a b c:α} (h1:if p then P b else b=a) (h2:if q then P c else c=b):if p∨q then P c else c=a:=by
 by_cases hq:q
 ·rw [if_pos hq] at h2
  rw [if_pos (.inr hq)];exact h2
 ·rw [if_neg hq] at h2
  subst h2
  by_cases hp:p
  ·rw [if_pos hp] at h1;rw [if_pos (.inl hp)];exact h1
  ·rw [if_neg hp] at h1;rw [if_neg (by simp [hp,hq])];exact h1
theorem Got.cons {c:UInt8} {cs:List UInt8} {x y z:St} (h:Got [c] x y) (g:Got cs y z):Got (c :: cs) x z:=by
 obtain ⟨h1,h2,h3,h4,h5⟩:=h
 obtain ⟨g1,g2,g3,g4,g5⟩:=g
 simp only [List.mem_cons,List.not_mem_nil,or_false] at h1 h2 h3 h4 h5
 refine ⟨?_,?_,?_,?_,?_⟩ <;> simp only [List.mem_cons]
 ·exact got_ite (P:=fun s=>nameE s=true) h1 g1
 ·exact got_ite (P:=fun s=>nameE s=true) h2 g2
 ·exact got_ite (P:=fun s=>rightE s=true) h3 g3
 ·exact got_ite (P:=fun s=>rightE s=true) h4 g4
 ·exact got_ite (P:=fun n:Int=>1≤n∧n≤8) h5 g5
theorem got_parts {l : List Tok} (h : ∀ t ∈ l, TokIn 4000 t) : ∀ (cs : List UInt8) (n : Nat) (x y : St) (i j : Nat), (∀ c ∈ cs, c = 114 ∨ c = 110 ∨ c = 101 ∨ c = 102 ∨ c = 107) → partsR l cs n x i = .inl (y, j) → Got cs x y
  | [], n, x, y, i, j, _, hr => by
    unfold partsR at hr; cases hr
    exact ⟨by simp, by simp, by simp, by simp, by simp⟩
  | c :: r, n, x, y, i, j, hc, hr => by
    unfold partsR at hr
    cases ha : aheadR l n i with
    | inr e => rw [ha] at hr; cases hr
    | inl q =>
      obtain ⟨u, k⟩ := q
      rw [ha] at hr
      simp only at hr
      cases hp : partR l c x k with
      | inr e => rw [hp] at hr; cases hr
      | inl q2 =>
        obtain ⟨z, k2⟩ := q2
        rw [hp] at hr
        simp only at hr
        exact (got_part h (hc c (by simp)) hp).cons (got_parts h r (n + 1) z y k2 j (fun c hm => hc c (by simp [hm])) hr)
theorem posAt_in {l:List Tok} (h:∀ t∈l,TokIn 4000 t) (i:Nat):0≤posAt l i∧posAt l i≤4000:=by
 unfold posAt
 split
 ·rename_i hi
  have:=pos_in h hi
  omega
 ·exact ⟨Int.le_refl _,by decide⟩
theorem head_fits {l:List Tok} (h:∀ t∈l,TokIn 4000 t) {i i2 j:Nat} {y:St} (hr:partsR l (lettS (kindAt l i)) 0 { zeroS with kind:=kindAt l i,pos:=posAt l i } i2 = .inl (y,j)) (n m:Int):Fits { y with body:=n,els:=m }∧y.kind=kindAt l i∧y.body=0∧y.els=0:=by
 have hk:=kindAt_range l i
 have hp:=posAt_in h i
 obtain ⟨_,_,hd,_⟩:=partsR_good hr
 have hg:=got_parts h _ _ _ _ _ _ (fun c hc=>(lett_in _ hk.2 c hc).2) hr
 have e1:y.kind=(kindAt l i:Nat):=hd.kind
 have e2:y.pos=posAt l i:=hd.pos
 have hm:∀ c,c≠98→(hasC { y with body:=n,els:=m } c=true ↔ c∈lettS (kindAt l i)):=fun c h98=>by
  rw [hasC_iff]
  show c∈hasS y.kind.toNat ↔ _
  rw [e1,Int.toNat_natCast]
  exact ⟨fun hc=>lett_has _ hk.2 c hc h98,fun hc=>(lett_in _ hk.2 c hc).1⟩
 refine ⟨⟨by show 1≤y.kind;omega,by show y.kind≤14;omega,by show 0≤y.pos;omega,by show y.pos≤4000;omega,?_,?_,?_,?_,?_⟩,e1,hd.body,hd.els⟩
 ·simp only [hm 114 (by decide)];exact hg.r
 ·simp only [hm 110 (by decide)];exact hg.nm
 ·simp only [hm 101 (by decide)];exact hg.e
 ·simp only [hm 102 (by decide)];exact hg.f
 ·simp only [hm 107 (by decide)];exact hg.t
def BlkRt (l:List Tok) (d:Nat):Prop:=∀ b i x j,blkR l d b i = .inl (x,j)→(∀ y∈x,Fits y)∧∃ D,D+1≤d∧Rd b x D
theorem one_right {l:List Tok} (h:∀ t∈l,TokIn 4000 t) {d:Nat} (hb:BlkRt l d) {b:Bool} {i:Nat} {x:List St} {j:Nat} (hr:oneR (blkR l d) b l i = .inl (x,j)):(∀ y∈x,Fits y)∧∃ D,D≤d∧Rd b x D:=by
 unfold oneR at hr
 by_cases h13:kindAt l i=13∧b=false
 ·rw [if_pos h13] at hr;cases hr
 ·rw [if_neg h13] at hr
  cases hp:partsR l (lettS (kindAt l i)) 0 { zeroS with kind:=kindAt l i,pos:=posAt l i } (if kindAt l i=1 then i else i+1) with
  | inr e=>rw [hp] at hr;cases hr
  | inl q =>
    obtain ⟨y,k⟩:=q
    rw [hp] at hr
    simp only at hr
    have hf:=head_fits h hp
    by_cases h11:kindAt l i=11
    ·rw [if_pos h11] at hr
     cases h1:blkR l d b k with
     | inr e=>rw [h1] at hr;cases hr
     | inl q1 =>
       obtain ⟨y1,k1⟩:=q1
       rw [h1] at hr
       simp only at hr
       obtain ⟨f1,D1,l1,r1⟩:=hb _ _ _ _ h1
       split at hr
       ·cases h2:blkR l d b (k1+1) with
        | inr e=>rw [h2] at hr;cases hr
        | inl q2 =>
          obtain ⟨y2,k2⟩:=q2
          rw [h2] at hr
          obtain ⟨f2,D2,l2,r2⟩:=hb _ _ _ _ h2
          cases hr
          refine ⟨fun z hz=>?_,max 0 (max (D1+1) (D2+1)),by omega,?_⟩
          ·simp only [List.mem_cons,List.mem_append] at hz
           rcases hz with rfl | hz | hz
           ·exact (hf _ _).1
           ·exact f1 z hz
           ·exact f2 z hz
          ·have:=Rd.ifs (b:=b) (x:={ y with body:=y1.length,els:=y2.length }) (by show y.kind=11;rw [(hf 0 0).2.1,h11];rfl) rfl rfl r1 r2 .nil
           rw [List.append_nil] at this
           exact this
       ·cases hr
        refine ⟨fun z hz=>?_,max 0 (max (D1+1) (0+1)),by omega,?_⟩
        ·simp only [List.mem_cons] at hz
         rcases hz with rfl | hz
         ·have:=(hf y1.length y.els).1;exact this
         ·exact f1 z hz
        ·have:=Rd.ifs (b:=b) (x:={ y with body:=y1.length }) (z:=[]) (by show y.kind=11;rw [(hf 0 0).2.1,h11];rfl) rfl (hf 0 0).2.2.2 r1 .nil .nil
         rw [List.append_nil,List.append_nil] at this
         exact this
    ·rw [if_neg h11] at hr
     by_cases h12:kindAt l i=12
     ·rw [if_pos h12] at hr
      cases h1:blkR l d true k with
      | inr e=>rw [h1] at hr;cases hr
      | inl q1 =>
        obtain ⟨y1,k1⟩:=q1
        rw [h1] at hr
        obtain ⟨f1,D1,l1,r1⟩:=hb _ _ _ _ h1
        cases hr
        refine ⟨fun z hz=>?_,max 0 (D1+1),by omega,?_⟩
        ·simp only [List.mem_cons] at hz
         rcases hz with rfl | hz
         ·have:=(hf y1.length y.els).1;exact this
         ·exact f1 z hz
        ·have:=Rd.loop (b:=b) (x:={ y with body:=y1.length }) (by show y.kind=12;rw [(hf 0 0).2.1,h12];rfl) rfl (hf 0 0).2.2.2 r1 .nil
         rw [List.append_nil] at this
         exact this
     ·rw [if_neg h12] at hr
      cases h1:signR l [59] k with
      | inr e=>rw [h1] at hr;cases hr
      | inl q1 =>
        obtain ⟨u,k1⟩:=q1
        rw [h1] at hr
        cases hr
        refine ⟨fun z hz=>?_,0,Nat.zero_le _,?_⟩
        ·simp only [List.mem_cons,List.not_mem_nil,or_false] at hz
         subst hz
         have:=(hf z.body z.els).1;exact this
        ·refine .leaf (by rw [(hf 0 0).2.1];omega) (by rw [(hf 0 0).2.1];omega) (hf 0 0).2.2.1 (hf 0 0).2.2.2 (fun e=>?_) .nil
         rw [(hf 0 0).2.1] at e
         cases b with
         | true=>rfl
         | false=>exact absurd ⟨by omega,rfl⟩ h13
theorem sts_right {l : List Tok} (h : ∀ t ∈ l, TokIn 4000 t) {d : Nat} (hb : BlkRt l d) {b : Bool} : ∀ (g i : Nat) (x : List St) (j : Nat), stsR (oneR (blkR l d) b l) l g i = .inl (x, j) → (∀ y ∈ x, Fits y) ∧ ∃ D, D ≤ d ∧ Rd b x D
  | 0, i, x, j, hr => by unfold stsR at hr; cases hr; exact ⟨(fun y hy => by cases hy), 0, Nat.zero_le _, .nil⟩
  | g + 1, i, x, j, hr => by
    unfold stsR at hr
    split at hr
    · cases hr; exact ⟨(fun y hy => by cases hy), 0, Nat.zero_le _, .nil⟩
    · cases h1 : oneR (blkR l d) b l i with
      | inr e => rw [h1] at hr; cases hr
      | inl q =>
        obtain ⟨y, k⟩ := q
        rw [h1] at hr
        simp only at hr
        cases h2 : stsR (oneR (blkR l d) b l) l g k with
        | inr e => rw [h2] at hr; cases hr
        | inl q2 =>
          obtain ⟨z, k2⟩ := q2
          rw [h2] at hr
          cases hr
          obtain ⟨f1, D1, l1, r1⟩ := one_right h hb h1
          obtain ⟨f2, D2, l2, r2⟩ := sts_right h hb g k z _ h2
          exact ⟨fun u hu => (List.mem_append.1 hu).elim (f1 u) (f2 u), max D1 D2, by omega, r1.app r2⟩
theorem blk_right {l : List Tok} (h : ∀ t ∈ l, TokIn 4000 t) : ∀ d, BlkRt l d
  | 0, b, i, x, j, hr => by
    unfold blkR at hr
    split at hr <;> cases hr
  | d + 1, b, i, x, j, hr => by
    unfold blkR at hr
    cases h1 : signR l [123] i with
    | inr e => rw [h1] at hr; cases hr
    | inl q =>
      obtain ⟨u, k⟩ := q
      rw [h1] at hr
      simp only at hr
      cases h2 : stsR (oneR (blkR l d) b l) l (l.length + 1 - k) k with
      | inr e => rw [h2] at hr; cases hr
      | inl q2 =>
        obtain ⟨z, k2⟩ := q2
        rw [h2] at hr
        simp only at hr
        cases h3 : signR l [125] k2 with
        | inr e => rw [h3] at hr; cases hr
        | inl q3 =>
          obtain ⟨u3, k3⟩ := q3
          rw [h3] at hr
          cases hr
          obtain ⟨f, D, l1, r⟩ := sts_right h (blk_right h d) _ _ _ _ h2
          exact ⟨f, D, by omega, r⟩
end Go.Proofs.YtaoeaaebafcegaaGreatDoor

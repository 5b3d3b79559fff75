/- Chapter 04 (statements), joined: StmA, StmB, StmC, StmD, StmE, StmG, SchOff, StmH, StmI, StmJ, StmK, StrA. -/
import Derived.Test.YtaoeaaebafcegaaGreatDoorPkA25
set_option maxRecDepth 100000
set_option maxHeartbeats 4000000
namespace Go.Proofs.YtaoeaaebafcegaaGreatDoor
open Go Go.RowKit
set_option linter.unusedVariables false
structure PQ (w:World) (g:Nat) (v:Value) (i e p:Int) (o:Value):Prop where
 lt:g < w.heap.size
 c0:w.cell? ⟨g,0,none⟩=some v
 c1:w.cell? ⟨g,1,none⟩=some (.int .i64 i)
 c2:w.cell? ⟨g,2,none⟩=some (.int .i64 e)
 c3:w.cell? ⟨g,3,none⟩=some (.int .i64 p)
 c4:w.cell? ⟨g,4,none⟩=some o
 fr:∀ j,w.frozen? ⟨g,j,none⟩=false
theorem PQ.belowB {w w':World} {g B:Nat} {v o:Value} {i e p:Int} (h:PQ w g v i e p o) (hb:Below B w w') (hlt:g < B):PQ w' g v i e p o:=by
 have hs:=hb.size
 have hl:=h.lt
 exact ⟨by omega,(hb.cell (p:=⟨g,0,none⟩) hlt).trans h.c0,(hb.cell (p:=⟨g,1,none⟩) hlt).trans h.c1,(hb.cell (p:=⟨g,2,none⟩) hlt).trans h.c2,(hb.cell (p:=⟨g,3,none⟩) hlt).trans h.c3,(hb.cell (p:=⟨g,4,none⟩) hlt).trans h.c4,
  fun j=>(hb.frozen (p:=⟨g,j,none⟩) hlt).trans (h.fr j)⟩
theorem PQ.below {w w':World} {g:Nat} {v o:Value} {i e p:Int} (h:PQ w g v i e p o) (hb:Below w.heap.size w w'):PQ w' g v i e p o:=h.belowB hb h.lt
theorem PQ.set1 {w:World} {g:Nat} {v o:Value} {i e p:Int} (h:PQ w g v i e p o) (j:Int):PQ (w.setCell ⟨g,1,none⟩ (.int .i64 j)) g v j e p o:=by
 obtain ⟨hl,h0,h1,h2,h3,h4,hf⟩:=h
 refine ⟨by simpa [World.setCell] using hl,?_,?_,?_,?_,?_,fun k=>by simpa using hf k⟩ <;> simp [*,go_sem]
theorem PQ.set2 {w:World} {g:Nat} {v o:Value} {i e p:Int} (h:PQ w g v i e p o) (j:Int):PQ (w.setCell ⟨g,2,none⟩ (.int .i64 j)) g v i j p o:=by
 obtain ⟨hl,h0,h1,h2,h3,h4,hf⟩:=h
 refine ⟨by simpa [World.setCell] using hl,?_,?_,?_,?_,?_,fun k=>by simpa using hf k⟩ <;> simp [*,go_sem]
theorem PQ.set3 {w:World} {g:Nat} {v o:Value} {i e p:Int} (h:PQ w g v i e p o) (j:Int):PQ (w.setCell ⟨g,3,none⟩ (.int .i64 j)) g v i e j o:=by
 obtain ⟨hl,h0,h1,h2,h3,h4,hf⟩:=h
 refine ⟨by simpa [World.setCell] using hl,?_,?_,?_,?_,?_,fun k=>by simpa using hf k⟩ <;> simp [*,go_sem]
theorem PQ.set4 {w:World} {g:Nat} {v o:Value} {i e p:Int} (h:PQ w g v i e p o) (u:Value):PQ (w.setCell ⟨g,4,none⟩ u) g v i e p u:=by
 obtain ⟨hl,h0,h1,h2,h3,h4,hf⟩:=h
 refine ⟨by simpa [World.setCell] using hl,?_,?_,?_,?_,?_,fun k=>by simpa using hf k⟩ <;> simp [*,go_sem]
theorem PQ.drewN {w:World} {g:Nat} {v o:Value} {i e p:Int} (h:PQ w g v i e p o) (n:Nat):PQ (w.drewN n) g v i e p o:=h.below ⟨rfl,rfl,rfl,Nat.le_refl _,fun _ _=>rfl⟩
theorem qbad_c (l:List Tok) (hl:l.length≤100000) (g:Nat) (v o:Value) (i:Nat) (e e0 p:Int) (w:World) (hp:PQ w g v i e p o) (hc:Ctx g v l w) :
 Calls Tryz.prog 47 #[.pointer (some ⟨g,0,none⟩),.int .i64 e0] w fun r w'=>r = .returned (.tuple #[])∧Keep g w w'∧PQ w' g v i (wE l i e e0) (wP l i e p) o:=by
 have hct:=hc.now hp.lt
 obtain ⟨A,c,hve,hcc⟩:=hct.shape
 subst hve
 have HP:Hid (∀ u:World,Toks u (.slice A l.length c) l→Calls Tryz.prog 71 #[.slice A l.length c,.int .i64 i] u (PlacePostD l i u)):=fun u hu=>rplace_c l (by omega) i _ u hu
 have HPA:=Lib.hid hp
 have HC:=Lib.hid hc
 obtain ⟨pl,p0,p1,p2,p3,p4,pf⟩:=hp
 have pf2:=pf 2
 have pf3:=pf 3
 clear hc hct
 by_cases he:e=0
 ·have heq:(e == 0)=true:=by simpa using he
  have HW:Hid (wP l i e p=placeE l i):=if_pos he
  rw [HW.out]
  by_cases h1:l.length≤i
  ·have hd:(l.length:Int)≤(i:Int):=by omega
   have HE:Hid (wE l i e e0=6):=by show _=_;unfold wE;rw [if_pos he,if_pos h1]
   rw [HE.out]
   go_enter Tryz.func47,Tryz.ntmps47
   go_upto_region 2 with fail
   have HPU:=Lib.hid (HPA.out.set2 e0)
   have HKU:=Lib.hid ((Keep.refl g w).set 2 (.int .i64 e0))
   clear p0 p1 p2 p3 p4 pf pf2 pf3
   generalize w.setCell _ _=U at HPU HKU ⊢
   obtain ⟨pl,p0,p1,p2,p3,p4,pf⟩:=HPU.out
   have pf2:=pf 2
   go_quiet (fail)
   go_upto_region 4 with fail
   have HPd:=Lib.hid ((HPU.out.drewN nq).set2 6)
   have HKd:=Lib.hid (((HKU.out.drewN nq).set 2 (.int .i64 6)))
   clear pl p0 p1 p2 p3 p4 pf pf2 HPU HKU
   generalize World.setCell _ _ _=X at HPd HKd ⊢
   obtain ⟨pl,p0,p1,p2,p3,p4,pf⟩:=HPd.out
   have HS:Hid (∀ u,Below X.heap.size X u→u.cell? ⟨g,0,none⟩=some (.slice A l.length c)∧u.cell? ⟨g,1,none⟩=some (.int .i64 i)):=fun u hu=>⟨(HPd.out.below hu).c0,(HPd.out.below hu).c1⟩
   have HT:Hid (∀ u,Below X.heap.size X u→Toks u (.slice A l.length c) l):=fun u hu=>(HC.out.keep (HKd.out.trans (Keep.of hu)) HPA.out.lt).now (Nat.lt_of_lt_of_le HPA.out.lt (HKd.out.trans (Keep.of hu)).size)
   go_region_held3 (fun u=>u.cell? ⟨g,0,none⟩=some (.slice A l.length c)∧u.cell? ⟨g,1,none⟩=some (.int .i64 i))
    (first | exact ⟨(HP5.set3 _).c0,(HP5.set3 _).c1⟩ | exact HS.out _ (blq))
    (first
      | (go_at_call 71;(with_reducible refine (HP.out _ (HT.out _ (blq))).mono ?_);rintro r w5 ⟨rfl,hb5⟩;have h5:Below X.heap.size X w5:=bt (blq) hb5;have HP5:=HPd.out.below h5;have p53:=HP5.c3;have f53:=HP5.fr 3))
   all_goals
    go_wp2_with fail
    refine bodyPost_end (results_none rfl _ _ _) rfl ?_
    exact ⟨rfl,by first | exact HKd.out.trans ((Keep.of h5).set 3 _) | exact HKd.out.trans ((Keep.of h5).set 3 _).drew,by first | exact HP5.set3 _ | exact (HP5.set3 _).drew⟩
  ·have hd:¬ ((l.length:Int)≤(i:Int)):=by omega
   have HE:Hid (wE l i e e0=e0):=by show _=_;unfold wE;rw [if_pos he,if_neg h1]
   rw [HE.out]
   go_enter Tryz.func47,Tryz.ntmps47
   go_upto_region 2 with fail
   have HPU:=Lib.hid (HPA.out.set2 e0)
   have HKU:=Lib.hid ((Keep.refl g w).set 2 (.int .i64 e0))
   clear p0 p1 p2 p3 p4 pf pf2 pf3
   generalize w.setCell _ _=U at HPU HKU ⊢
   obtain ⟨pl,p0,p1,p2,p3,p4,pf⟩:=HPU.out
   have pf2:=pf 2
   go_quiet (fail)
   go_upto_region 4 with fail
   have HPd:=Lib.hid (HPU.out.drewN nq)
   have HKd:=Lib.hid (HKU.out.drewN nq)
   clear pl p0 p1 p2 p3 p4 pf pf2 HPU HKU
   generalize World.drewN _ _=X at HPd HKd ⊢
   obtain ⟨pl,p0,p1,p2,p3,p4,pf⟩:=HPd.out
   have HS:Hid (∀ u,Below X.heap.size X u→u.cell? ⟨g,0,none⟩=some (.slice A l.length c)∧u.cell? ⟨g,1,none⟩=some (.int .i64 i)):=fun u hu=>⟨(HPd.out.below hu).c0,(HPd.out.below hu).c1⟩
   have HT:Hid (∀ u,Below X.heap.size X u→Toks u (.slice A l.length c) l):=fun u hu=>(HC.out.keep (HKd.out.trans (Keep.of hu)) HPA.out.lt).now (Nat.lt_of_lt_of_le HPA.out.lt (HKd.out.trans (Keep.of hu)).size)
   go_region_held3 (fun u=>u.cell? ⟨g,0,none⟩=some (.slice A l.length c)∧u.cell? ⟨g,1,none⟩=some (.int .i64 i))
    (first | exact ⟨(HP5.set3 _).c0,(HP5.set3 _).c1⟩ | exact HS.out _ (blq))
    (first
      | (go_at_call 71;(with_reducible refine (HP.out _ (HT.out _ (blq))).mono ?_);rintro r w5 ⟨rfl,hb5⟩;have h5:Below X.heap.size X w5:=bt (blq) hb5;have HP5:=HPd.out.below h5;have p53:=HP5.c3;have f53:=HP5.fr 3))
   all_goals
    go_wp2_with fail
    refine bodyPost_end (results_none rfl _ _ _) rfl ?_
    exact ⟨rfl,by first | exact HKd.out.trans ((Keep.of h5).set 3 _) | exact HKd.out.trans ((Keep.of h5).set 3 _).drew,by first | exact HP5.set3 _ | exact (HP5.set3 _).drew⟩
 ·have heq:(e == 0)=false:=by simpa using he
  have HE:Hid (wE l i e e0=e):=if_neg he
  have HW:Hid (wP l i e p=p):=if_neg he
  rw [HW.out,HE.out]
  go_enter Tryz.func47,Tryz.ntmps47
  go_wp2_with fail
  refine bodyPost_end (results_none rfl _ _ _) rfl ?_
  exact ⟨rfl,Keep.refl _ _,HPA.out⟩
theorem qmust_c (l:List Tok) (hl:l.length≤100000) (s:List UInt8) (g:Nat) (v o:Value) (i:Nat) (hi:i≤1000000000) (e p:Int) (w:World) (hp:PQ w g v i e p o) (hc:Ctx g v l w) :
 Calls Tryz.prog 48 #[.pointer (some ⟨g,0,none⟩),.string (str s)] w fun r w'=>r = .returned (.tuple #[])∧Keep g w w'∧PQ w' g v (mI l s i e:Nat) (mE l s i e) (mP l s i e p) o:=by
 have hct:=hc.now hp.lt
 obtain ⟨A,c,hve,hcc⟩:=hct.shape
 subst hve
 have HPA:=Lib.hid hp
 have HC:=Lib.hid hc
 have HBD:Hid (∀ u,Keep g w u→PQ u g (.slice A l.length c) i e p o→Calls Tryz.prog 47 #[.pointer (some ⟨g,0,none⟩),.int .i64 5] u fun r w'=>r = .returned (.tuple #[])∧Keep g u w'∧PQ w' g (.slice A l.length c) i (wE l i e 5) (wP l i e p) o):=fun u hk hq=>qbad_c l hl g _ o i e 5 p u hq (HC.out.keep hk HPA.out.lt)
 have HIS:Hid (∀ u:World,Toks u (.slice A l.length c) l→Calls Tryz.prog 46 #[.slice A l.length c,.int .i64 i,.string (str s)] u (IsPost l i s u)):=fun u hu=>ris_c l (by omega) i s _ u hu
 have HT0:=Lib.hid hct
 obtain ⟨pl,p0,p1,p2,p3,p4,pf⟩:=hp
 have pf1:=pf 1
 clear hc hct
 by_cases he:e=0
 ·have heq:(e == 0)=true:=by simpa using he
  cases hs:isE l i s
  ·have HI:Hid (mI l s i e=i):=if_neg (fun h=>by rw [hs] at h;cases h.2)
   have HE:Hid (mE l s i e=wE l i e 5):=if_neg (fun h=>by rw [hs] at h;cases h.2)
   have HW:Hid (mP l s i e p=wP l i e p):=if_neg (fun h=>by rw [hs] at h;cases h.2)
   rw [HI.out,HE.out,HW.out]
   subst he
   unfold IsPost at HIS
   rw [hs] at HIS
   clear hs
   have HIS2:Hid (∀ u:World,Keep g w u→Calls Tryz.prog 46 #[.slice A l.length c,.int .i64 i,.string (str s)] u fun r w'=>r = .returned (.bool false)∧u=w'):=fun u hu=>HIS.out u ((HC.out.keep hu HPA.out.lt).now (Nat.lt_of_lt_of_le HPA.out.lt hu.size))
   clear HIS HT0
   go_enter Tryz.func48,Tryz.ntmps48
   go_upto_region 0 with fail
   go_quiet (first | (go_at_call 46;refine (HIS2.out _ ?_).mono ?_;(repeat (first | exact Keep.refl _ _ | refine Keep.drewN ?_ _ | refine Keep.drew ?_));rintro e w' ⟨he,hw⟩;exact ⟨he,_,hw.symm⟩))
   go_wp2_with (go_at_call 47;refine (HBD.out _ ((Keep.refl g w).drewN nq) (HPA.out.drewN nq)).mono ?_;rintro r w2 ⟨rfl,hk2,hp2⟩)
   refine bodyPost_end (results_none rfl _ _ _) rfl ?_
   exact ⟨rfl,((Keep.refl g w).drewN nq).trans hk2,hp2⟩
  ·have HI:Hid (mI l s i e=i+1):=if_pos ⟨he,hs⟩
   have HE:Hid (mE l s i e=0):=if_pos ⟨he,hs⟩
   have HW:Hid (mP l s i e p=p):=if_pos ⟨he,hs⟩
   rw [HI.out,HE.out,HW.out]
   subst he
   unfold IsPost at HIS
   rw [hs] at HIS
   clear hs
   have HIS2:Hid (∀ u:World,Keep g w u→Calls Tryz.prog 46 #[.slice A l.length c,.int .i64 i,.string (str s)] u fun r w'=>r = .returned (.bool true)∧u=w'):=fun u hu=>HIS.out u ((HC.out.keep hu HPA.out.lt).now (Nat.lt_of_lt_of_le HPA.out.lt hu.size))
   clear HIS HT0
   go_enter Tryz.func48,Tryz.ntmps48
   go_upto_region 0 with fail
   go_quiet (first | (go_at_call 46;refine (HIS2.out _ ?_).mono ?_;(repeat (first | exact Keep.refl _ _ | refine Keep.drewN ?_ _ | refine Keep.drew ?_));rintro e w' ⟨he,hw⟩;exact ⟨he,_,hw.symm⟩))
   have HPd:=Lib.hid (HPA.out.drewN nq)
   have HKd:=Lib.hid ((Keep.refl g w).drewN nq)
   clear pl p0 p1 p2 p3 p4 pf pf1
   generalize World.drewN _ _=X at HPd HKd ⊢
   obtain ⟨pl,p0,p1,p2,p3,p4,pf⟩:=HPd.out
   have pf1:=pf 1
   have hi1:(i:Int)≤1000000000:=by omega
   go_wp2_with fail
   refine bodyPost_end (results_none rfl _ _ _) rfl ?_
   exact ⟨rfl,HKd.out.set 1 _,HPd.out.set1 _⟩
 ·have heq:(e == 0)=false:=by simpa using he
  have HI:Hid (mI l s i e=i):=if_neg (fun h=>he h.1)
  have HE:Hid (mE l s i e=wE l i e 5):=if_neg (fun h=>he h.1)
  have HW:Hid (mP l s i e p=wP l i e p):=if_neg (fun h=>he h.1)
  rw [HI.out,HE.out,HW.out]
  clear HIS HT0
  go_enter Tryz.func48,Tryz.ntmps48
  go_upto_region 0 with fail
  go_quiet (fail)
  go_wp2_with (go_at_call 47;refine (HBD.out _ ((Keep.refl g w).drewN nq) (HPA.out.drewN nq)).mono ?_;rintro r w2 ⟨rfl,hk2,hp2⟩)
  refine bodyPost_end (results_none rfl _ _ _) rfl ?_
  exact ⟨rfl,((Keep.refl g w).drewN nq).trans hk2,hp2⟩
def StPost {α:Type} (V:World→Value→α→Prop) (g:Nat) (v o:Value) (a:α × Nat × Int × Int) (w:World) (r:Ending) (w':World):Prop:=∃ x,r = .returned x∧V w' x a.1∧Keep g w w'∧PQ w' g v (a.2.1:Nat) a.2.2.1 a.2.2.2 o
theorem stpost {α:Type} {V:World→Value→α→Prop} {g:Nat} {v o:Value} {a:α × Nat × Int × Int} {w w':World} {x:Value} {y:α} {i:Nat} {e p:Int} (ha:a=(y,i,e,p)) (hx:V w' x y) (hk:Keep g w w') (hp:PQ w' g v i e p o):StPost V g v o a w (.returned x) w':=by
 subst ha;exact ⟨x,rfl,hx,hk,hp⟩
theorem qtimes_c (l:List Tok) (hl:l.length≤100000) (g:Nat) (v o:Value) (i:Nat) (hi:i≤1000000000) (e p:Int) (w:World) (hp:PQ w g v i e p o) (hc:Ctx g v l w) :
 Calls Tryz.prog 100 #[.pointer (some ⟨g,0,none⟩)] w (StPost isInt g v o (After e p i (roundsR l i) 0) w):=by
 have HPA:=Lib.hid hp
 have HC:=Lib.hid hc
 have HBD:Hid (∀ (e0:Int) u,Keep g w u→PQ u g v i e p o→Calls Tryz.prog 47 #[.pointer (some ⟨g,0,none⟩),.int .i64 e0] u fun r w'=>r = .returned (.tuple #[])∧Keep g u w'∧PQ w' g v i (wE l i e e0) (wP l i e p) o):=fun e0 u hk hq=>qbad_c l hl g _ o i e e0 p u hq (HC.out.keep hk HPA.out.lt)
 have hi0:(0:Int)≤(i:Int):=Int.natCast_nonneg _
 by_cases he:e=0
 ·subst he
  by_cases hil:i < l.length
  ·have hil2:(i:Int) < (l.length:Int):=by omega
   obtain ⟨bt0,offt,ct,hE,hct,hbt,hatt⟩:=hc.at_ (by omega)
   subst hE
   have hki:∀ u,Keep g w u→u.cell? ⟨bt0,offt+i*4,none⟩=some (.int .i64 (tk l i).kind)∧u.cell? ⟨bt0,offt+i*4+2,none⟩=some (.int .i64 (tk l i).n):=fun u hu=>by
    have h:=hatt u (hu.below (Nat.le_of_lt HPA.out.lt)) i hil
    rw [← tk_at hil] at h
    exact ⟨h.kind,h.n⟩
   have HKI:=Lib.hid hki
   have hR:roundsR l i=if (tk l i).kind=2 then (if 1≤(tk l i).n∧(tk l i).n≤8 then .inl ((tk l i).n,i+1) else .inr (badR l i 11)) else .inr (badR l i 5):=by
    unfold roundsR
    by_cases h2:(tk l i).kind=2
    ·rw [if_pos ⟨hil,h2⟩,if_pos h2]
    ·rw [if_neg (fun h=>h2 h.2),if_neg h2]
   have HR:=Lib.hid hR
   clear hR hki hatt hc
   generalize (tk l i).kind=k0 at HKI HR
   generalize (tk l i).n=n0 at HKI HR
   obtain ⟨x0,x2⟩:=HKI.out w (Keep.refl _ _)
   obtain ⟨pl,p0,p1,p2,p3,p4,pf⟩:=hp
   by_cases h2:k0=2
   ·subst h2
    have hR2:=HR.out
    rw [if_pos rfl] at hR2
    have HR2:=Lib.hid hR2
    clear hR2 HR
    go_enter Tryz.func100,Tryz.ntmps100
    go_upto_region 1 with fail
    go_quiet (fail)
    go_upto_region 2 with fail
    have HPd:=Lib.hid (HPA.out.drewN nq)
    have HKd:=Lib.hid ((Keep.refl g w).drewN nq)
    clear pl p0 p1 p2 p3 p4 pf
    generalize World.drewN _ _=X at HPd HKd ⊢
    obtain ⟨pl,p0,p1,p2,p3,p4,pf⟩:=HPd.out
    clear x0 x2
    obtain ⟨x0,x2⟩:=HKI.out X HKd.out
    go_quiet (fail)
    go_upto_region 3 with fail
    replace HPd:=Lib.hid (HPd.out.drewN nq)
    replace HKd:=Lib.hid (HKd.out.drewN nq)
    clear pl p0 p1 p2 p3 p4 pf
    generalize World.drewN _ _=X2 at HPd HKd ⊢
    obtain ⟨pl,p0,p1,p2,p3,p4,pf⟩:=HPd.out
    clear x0 x2
    by_cases ha:1≤n0
    ·by_cases hb:n0≤8
     ·have hA:After 0 p i (roundsR l i) 0=(n0,i+1,0,p):=after_ok (by rw [HR2.out,if_pos ⟨ha,hb⟩])
      have HA:=Lib.hid hA
      have pf1:=pf 1
      have hi1:(i:Int)≤1000000000:=by omega
      clear hA HR2
      go_wp2_with fail
      go_ret
      exact stpost HA.out rfl (HKd.out.set 1 _) (HPd.out.set1 _)
     ·have hA:After 0 p i (roundsR l i) 0=(0,i,wE l i 0 11,wP l i 0 p):=after_bad (by rw [HR2.out,if_neg (fun h=>hb h.2)])
      have HA:=Lib.hid hA
      clear hA HR2
      go_wp2_with (go_at_call 47;refine (HBD.out 11 _ HKd.out HPd.out).mono ?_;rintro r w2 ⟨rfl,hk2,hp2⟩)
      go_ret
      exact stpost (HA.out) rfl (HKd.out.trans hk2) hp2
    ·have hA:After 0 p i (roundsR l i) 0=(0,i,wE l i 0 11,wP l i 0 p):=after_bad (by rw [HR2.out,if_neg (fun h=>ha h.1)])
     have HA:=Lib.hid hA
     clear hA HR2
     go_wp2_with (go_at_call 47;refine (HBD.out 11 _ HKd.out HPd.out).mono ?_;rintro r w2 ⟨rfl,hk2,hp2⟩)
     go_ret
     exact stpost (HA.out) rfl (HKd.out.trans hk2) hp2
   ·have hkb:(k0 == 2)=false:=by simpa using h2
    have hA:After 0 p i (roundsR l i) 0=(0,i,wE l i 0 5,wP l i 0 p):=after_bad (by rw [HR.out,if_neg h2])
    have HA:=Lib.hid hA
    clear hA HR h2
    go_enter Tryz.func100,Tryz.ntmps100
    go_upto_region 1 with fail
    go_quiet (fail)
    have HPd:=Lib.hid (HPA.out.drewN nq)
    have HKd:=Lib.hid ((Keep.refl g w).drewN nq)
    clear pl p0 p1 p2 p3 p4 pf
    generalize World.drewN _ _=X at HPd HKd ⊢
    obtain ⟨pl,p0,p1,p2,p3,p4,pf⟩:=HPd.out
    go_wp2_with (go_at_call 47;refine (HBD.out 5 _ HKd.out HPd.out).mono ?_;rintro r w2 ⟨rfl,hk2,hp2⟩)
    go_ret
    exact stpost (HA.out) rfl (HKd.out.trans hk2) hp2
  ·have hil2:¬ (i:Int) < (l.length:Int):=by omega
   have hA:After 0 p i (roundsR l i) 0=(0,i,wE l i 0 5,wP l i 0 p):=after_bad (by unfold roundsR;rw [if_neg (fun h=>hil h.1)])
   have HA:=Lib.hid hA
   obtain ⟨A,c,hve,hcc⟩:=(hc.now hp.lt).shape
   subst hve
   clear hA hc
   obtain ⟨pl,p0,p1,p2,p3,p4,pf⟩:=hp
   go_enter Tryz.func100,Tryz.ntmps100
   go_upto_region 1 with fail
   go_quiet (fail)
   have HPd:=Lib.hid (HPA.out.drewN nq)
   have HKd:=Lib.hid ((Keep.refl g w).drewN nq)
   clear pl p0 p1 p2 p3 p4 pf
   generalize World.drewN _ _=X at HPd HKd ⊢
   obtain ⟨pl,p0,p1,p2,p3,p4,pf⟩:=HPd.out
   go_wp2_with (go_at_call 47;refine (HBD.out 5 _ HKd.out HPd.out).mono ?_;rintro r w2 ⟨rfl,hk2,hp2⟩)
   go_ret
   exact stpost (HA.out) rfl (HKd.out.trans hk2) hp2
 ·have heq:(e == 0)=false:=by simpa using he
  have hA:After e p i (roundsR l i) 0=(0,i,wE l i e 5,wP l i e p):=by rw [after_err he];unfold wE wP;rw [if_neg he,if_neg he]
  have HA:=Lib.hid hA
  clear hA hc
  obtain ⟨pl,p0,p1,p2,p3,p4,pf⟩:=hp
  go_enter Tryz.func100,Tryz.ntmps100
  go_upto_region 1 with fail
  go_quiet (fail)
  have HPd:=Lib.hid (HPA.out.drewN nq)
  have HKd:=Lib.hid ((Keep.refl g w).drewN nq)
  clear pl p0 p1 p2 p3 p4 pf
  generalize World.drewN _ _=X at HPd HKd ⊢
  obtain ⟨pl,p0,p1,p2,p3,p4,pf⟩:=HPd.out
  go_wp2_with (go_at_call 47;refine (HBD.out 5 _ HKd.out HPd.out).mono ?_;rintro r w2 ⟨rfl,hk2,hp2⟩)
  go_ret
  exact stpost (HA.out) rfl (HKd.out.trans hk2) hp2
theorem qname_c (l:List Tok) (hl:l.length≤100000) (htx:∀ t∈l,t.text.length≤1000000) (g:Nat) (v o:Value) (i:Nat) (hi:i≤1000000000) (e p:Int) (w:World) (hp:PQ w g v i e p o) (hc:Ctx g v l w) :
 Calls Tryz.prog 98 #[.pointer (some ⟨g,0,none⟩)] w (StPost isStr g v o (After e p i (nameR l i) []) w):=by
 have HPA:=Lib.hid hp
 have HC:=Lib.hid hc
 have HBD:Hid (∀ (e0:Int) u,Keep g w u→PQ u g v i e p o→Calls Tryz.prog 47 #[.pointer (some ⟨g,0,none⟩),.int .i64 e0] u fun r w'=>r = .returned (.tuple #[])∧Keep g u w'∧PQ w' g v i (wE l i e e0) (wP l i e p) o):=fun e0 u hk hq=>qbad_c l hl g _ o i e e0 p u hq (HC.out.keep hk HPA.out.lt)
 have hi0:(0:Int)≤(i:Int):=Int.natCast_nonneg _
 by_cases he:e=0
 ·subst he
  by_cases hil:i < l.length
  ·have hil2:(i:Int) < (l.length:Int):=by omega
   obtain ⟨bt0,offt,ct,hE,hct,hbt,hatt⟩:=hc.at_ (by omega)
   subst hE
   have hki:∀ u,Keep g w u→u.cell? ⟨bt0,offt+i*4,none⟩=some (.int .i64 (tk l i).kind)∧u.cell? ⟨bt0,offt+i*4+1,none⟩=some (.string (str (tk l i).text)):=fun u hu=>by
    have h:=hatt u (hu.below (Nat.le_of_lt HPA.out.lt)) i hil
    rw [← tk_at hil] at h
    exact ⟨h.kind,h.text⟩
   have HKI:=Lib.hid hki
   have hR:nameR l i=if (tk l i).kind=1∧nameE (tk l i).text=true then .inl ((tk l i).text,i+1) else .inr (badR l i 5):=by
    unfold nameR
    by_cases h2:(tk l i).kind=1∧nameE (tk l i).text=true
    ·rw [if_pos ⟨hil,h2⟩,if_pos h2]
    ·rw [if_neg (fun h=>h2 h.2),if_neg h2]
   have HR:=Lib.hid hR
   have htl:(tk l i).text.length≤1000000:=by rw [tk_at hil];exact htx _ (List.getElem_mem hil)
   have HNM:=Lib.hid (fun u=>rname_c (tk l i).text htl u)
   unfold NamePost at HNM
   clear hR hki hatt hc htl
   generalize (tk l i).kind=k0 at HKI HR
   generalize (tk l i).text=t0 at HKI HR HNM
   obtain ⟨x0,x2⟩:=HKI.out w (Keep.refl _ _)
   by_cases h2:k0=1
   ·subst h2
    cases hn:nameE t0
    ·have hA:After 0 p i (nameR l i) [] = ([],i,wE l i 0 5,wP l i 0 p):=after_bad (by rw [HR.out,if_neg (fun h=>by rw [hn] at h;cases h.2)])
     have HA:=Lib.hid hA
     rw [hn] at HNM
     clear hA HR hn
     generalize str t0=T0 at HKI HNM x2
     have HS:Hid (∀ u,Below w.heap.size w u→u.cell? ⟨g,0,none⟩=some (.slice (some ⟨bt0,offt,none⟩) l.length ct)∧u.cell? ⟨g,1,none⟩=some (.int .i64 i)∧u.cell? ⟨g,2,none⟩=some (.int .i64 0)∧u.cell? ⟨bt0,offt+i*4,none⟩=some (.int .i64 1)∧u.cell? ⟨bt0,offt+i*4+1,none⟩=some (.string T0)):=fun u hu=>⟨(HPA.out.below hu).c0,(HPA.out.below hu).c1,(HPA.out.below hu).c2,(HKI.out u (Keep.of hu)).1,(HKI.out u (Keep.of hu)).2⟩
     obtain ⟨pl,p0,p1,p2,p3,p4,pf⟩:=hp
     go_enter Tryz.func98,Tryz.ntmps98
     go_upto_region 1 with fail
     go_region_held3 (fun u=>u.cell? ⟨g,0,none⟩=some (.slice (some ⟨bt0,offt,none⟩) l.length ct)∧u.cell? ⟨g,1,none⟩=some (.int .i64 i)∧u.cell? ⟨g,2,none⟩=some (.int .i64 0)∧u.cell? ⟨bt0,offt+i*4,none⟩=some (.int .i64 1)∧u.cell? ⟨bt0,offt+i*4+1,none⟩=some (.string T0))
      (exact HS.out _ (blq))
      (first
        | (go_at_call 63;(with_reducible refine (HNM.out _).mono ?_);rintro r w5 ⟨rfl,hb5⟩;have h5:Below w.heap.size w w5:=bt (blq) hb5))
     all_goals
      go_wp2_with (go_at_call 47;refine (HBD.out 5 _ (Keep.of (blq)) (HPA.out.below (blq))).mono ?_;rintro r w2 ⟨rfl,hk2,hp2⟩)
      go_ret
      exact stpost HA.out rfl ((Keep.of h5).trans (by first | exact hk2 | exact ((Keep.refl _ _).drew).trans hk2)) hp2
    ·have hA:After 0 p i (nameR l i) [] = (t0,i+1,0,p):=after_ok (by rw [HR.out,if_pos ⟨rfl,hn⟩])
     have HA:=Lib.hid hA
     rw [hn] at HNM
     clear hA HR hn
     have HT0:Hid (str t0=str t0):=rfl
     generalize hTT:str t0=T0 at HKI HNM x2
     have HTT:=Lib.hid hTT
     clear hTT HT0
     have HS:Hid (∀ u,Below w.heap.size w u→u.cell? ⟨g,0,none⟩=some (.slice (some ⟨bt0,offt,none⟩) l.length ct)∧u.cell? ⟨g,1,none⟩=some (.int .i64 i)∧u.cell? ⟨g,2,none⟩=some (.int .i64 0)∧u.cell? ⟨bt0,offt+i*4,none⟩=some (.int .i64 1)∧u.cell? ⟨bt0,offt+i*4+1,none⟩=some (.string T0)):=fun u hu=>⟨(HPA.out.below hu).c0,(HPA.out.below hu).c1,(HPA.out.below hu).c2,(HKI.out u (Keep.of hu)).1,(HKI.out u (Keep.of hu)).2⟩
     obtain ⟨pl,p0,p1,p2,p3,p4,pf⟩:=hp
     have hi1:(i:Int)≤1000000000:=by omega
     go_enter Tryz.func98,Tryz.ntmps98
     go_upto_region 1 with fail
     go_region_held3 (fun u=>u.cell? ⟨g,0,none⟩=some (.slice (some ⟨bt0,offt,none⟩) l.length ct)∧u.cell? ⟨g,1,none⟩=some (.int .i64 i)∧u.cell? ⟨g,2,none⟩=some (.int .i64 0)∧u.cell? ⟨bt0,offt+i*4,none⟩=some (.int .i64 1)∧u.cell? ⟨bt0,offt+i*4+1,none⟩=some (.string T0))
      (exact HS.out _ (blq))
      (first
        | (go_at_call 63;(with_reducible refine (HNM.out _).mono ?_);rintro r w5 ⟨rfl,hb5⟩;have h5:Below w.heap.size w w5:=bt (blq) hb5))
     all_goals
      have HP5:=Lib.hid (HPA.out.below h5)
      clear pl p0 p1 p2 p3 p4 pf x0 x2
      obtain ⟨pl,p0,p1,p2,p3,p4,pf⟩:=HP5.out
      have pf1:=pf 1
      go_upto_region 3 with fail
      have HP6:=Lib.hid (HP5.out.set1 (i+1))
      have HK6:Hid (Keep g w (w5.setCell ⟨g,1,none⟩ (.int .i64 (i+1)))):=(Keep.of h5).set 1 _
      clear pl p0 p1 p2 p3 p4 pf pf1
      generalize World.setCell _ _ _=Y at HP6 HK6 ⊢
      obtain ⟨pl,p0,p1,p2,p3,p4,pf⟩:=HP6.out
      obtain ⟨x0,x2⟩:=HKI.out Y HK6.out
      have hi2:(i:Int)+1 - 1=(i:Int):=by omega
      go_quiet (fail)
      go_wp2_with fail
      go_ret
      exact stpost HA.out (congrArg Value.string HTT.out.symm) (HK6.out.drewN _) (HP6.out.drewN _)
   ·have hkb:(k0 == 1)=false:=by simpa using h2
    have hA:After 0 p i (nameR l i) [] = ([],i,wE l i 0 5,wP l i 0 p):=after_bad (by rw [HR.out,if_neg (fun h=>h2 h.1)])
    have HA:=Lib.hid hA
    clear hA HR h2
    obtain ⟨pl,p0,p1,p2,p3,p4,pf⟩:=hp
    go_enter Tryz.func98,Tryz.ntmps98
    go_upto_region 1 with fail
    go_quiet (fail)
    have HPd:=Lib.hid (HPA.out.drewN nq)
    have HKd:=Lib.hid ((Keep.refl g w).drewN nq)
    clear pl p0 p1 p2 p3 p4 pf
    generalize World.drewN _ _=X at HPd HKd ⊢
    obtain ⟨pl,p0,p1,p2,p3,p4,pf⟩:=HPd.out
    go_wp2_with (go_at_call 47;refine (HBD.out 5 _ HKd.out HPd.out).mono ?_;rintro r w2 ⟨rfl,hk2,hp2⟩)
    go_ret
    exact stpost (HA.out) rfl (HKd.out.trans hk2) hp2
  ·have hil2:¬ (i:Int) < (l.length:Int):=by omega
   have hA:After 0 p i (nameR l i) [] = ([],i,wE l i 0 5,wP l i 0 p):=after_bad (by unfold nameR;rw [if_neg (fun h=>hil h.1)])
   have HA:=Lib.hid hA
   obtain ⟨A,c,hve,hcc⟩:=(hc.now hp.lt).shape
   subst hve
   clear hA hc
   obtain ⟨pl,p0,p1,p2,p3,p4,pf⟩:=hp
   go_enter Tryz.func98,Tryz.ntmps98
   go_upto_region 1 with fail
   go_quiet (fail)
   have HPd:=Lib.hid (HPA.out.drewN nq)
   have HKd:=Lib.hid ((Keep.refl g w).drewN nq)
   clear pl p0 p1 p2 p3 p4 pf
   generalize World.drewN _ _=X at HPd HKd ⊢
   obtain ⟨pl,p0,p1,p2,p3,p4,pf⟩:=HPd.out
   go_wp2_with (go_at_call 47;refine (HBD.out 5 _ HKd.out HPd.out).mono ?_;rintro r w2 ⟨rfl,hk2,hp2⟩)
   go_ret
   exact stpost (HA.out) rfl (HKd.out.trans hk2) hp2
 ·have heq:(e == 0)=false:=by simpa using he
  have hA:After e p i (nameR l i) [] = ([],i,wE l i e 5,wP l i e p):=by rw [after_err he];unfold wE wP;rw [if_neg he,if_neg he]
  have HA:=Lib.hid hA
  clear hA hc
  obtain ⟨pl,p0,p1,p2,p3,p4,pf⟩:=hp
  go_enter Tryz.func98,Tryz.ntmps98
  go_upto_region 1 with fail
  go_quiet (fail)
  have HPd:=Lib.hid (HPA.out.drewN nq)
  have HKd:=Lib.hid ((Keep.refl g w).drewN nq)
  clear pl p0 p1 p2 p3 p4 pf
  generalize World.drewN _ _=X at HPd HKd ⊢
  obtain ⟨pl,p0,p1,p2,p3,p4,pf⟩:=HPd.out
  go_wp2_with (go_at_call 47;refine (HBD.out 5 _ HKd.out HPd.out).mono ?_;rintro r w2 ⟨rfl,hk2,hp2⟩)
  go_ret
  exact stpost (HA.out) rfl (HKd.out.trans hk2) hp2
def isNods (B:Nat) (w:World) (x:Value) (l:List Nod):Prop:=Nods w x l∧Fresh B x
theorem qexpr_c (l:List Tok) (hl:l.length≤100000) (htx:∀ t∈l,t.text.length≤1000000) (g:Nat) (v o:Value) (i:Nat) (hi:i≤1000000000) (e p:Int) (w:World) (hp:PQ w g v i e p o) (hc:Ctx g v l w) :
 Calls Tryz.prog 99 #[.pointer (some ⟨g,0,none⟩)] w (StPost (isNods w.heap.size) g v o (After e p i (exprR l i) []) w):=by
 have HPA:=Lib.hid hp
 have HC:=Lib.hid hc
 have hi0:(0:Int)≤(i:Int):=Int.natCast_nonneg _
 have hct:=hc.now hp.lt
 obtain ⟨A,c,hve,hcc⟩:=hct.shape
 subst hve
 by_cases he:e=0
 ·subst he
  have HPR:Hid (∀ u,Keep g w u→Calls Tryz.prog 115 #[.slice A l.length c,.int .i64 i] u (ParsePost l i u)):=fun u hu=>rParse_c l hl htx _ i u ((HC.out.keep hu HPA.out.lt).now (Nat.lt_of_lt_of_le HPA.out.lt hu.size))
  obtain ⟨pl,p0,p1,p2,p3,p4,pf⟩:=hp
  clear hc hct
  have HS:Hid (∀ u,Below w.heap.size w u→u.cell? ⟨g,0,none⟩=some (.slice A l.length c)∧u.cell? ⟨g,1,none⟩=some (.int .i64 i)):=fun u hu=>⟨(HPA.out.below hu).c0,(HPA.out.below hu).c1⟩
  cases hr:exprR l i with
  | inr ep =>
    obtain ⟨e',p'⟩:=ep
    obtain ⟨he0,pa,pb,hpe⟩:=exprR_err hr
    have HA:Hid (After 0 p i (.inr (e',p'):RS (List Nod)) [] = ([],i,e',p')):=rfl
    have heb:(e' == 0)=false:=by simpa using he0
    unfold ParsePost at HPR
    rw [hpe] at HPR
    simp only at HPR
    clear hr hpe
    go_enter Tryz.func99,Tryz.ntmps99
    go_upto_region 3 with fail
    go_region_held3 (fun u=>u.cell? ⟨g,0,none⟩=some (.slice A l.length c)∧u.cell? ⟨g,1,none⟩=some (.int .i64 i))
     (exact HS.out _ (blq))
     (first
       | (go_at_call 115;(with_reducible refine (HPR.out _ (Keep.of (blq))).mono ?_);rintro r w5 ⟨V,rfl,hv5,hb5,hf5⟩;have h5:Below w.heap.size w w5:=bt (blq) hb5;have F5:Fresh w.heap.size V:=hf5.mono (by first | exact Nat.le_refl _ | (have:=(show Below w.heap.size w _ from (blq)).size;exact this));obtain ⟨A5,c5,rfl,_⟩:=Nods.shape hv5))
    all_goals
     have HP5:=HPA.out.below h5
     clear pl p0 p1 p2 p3 p4
     obtain ⟨pl,p0,p1,p2,p3,p4,pf'⟩:=HP5
     have pf2:=pf' 2
     have pf3:=pf' 3
     go_wp2_with fail
     go_ret
     exact stpost HA.out ⟨Sl.nil _ _ _,fresh_nil _ _ _⟩ (((Keep.of h5).set 2 _).set 3 _) (((HPA.out.below h5).set2 _).set3 _)
  | inl xj =>
    obtain ⟨x,j⟩:=xj
    have hpe:=exprR_ok hr
    have HA:Hid (After 0 p i (.inl (x,j):RS (List Nod)) [] = (x,j,0,p)):=rfl
    unfold ParsePost at HPR
    rw [hpe] at HPR
    simp only at HPR
    clear hr hpe
    go_enter Tryz.func99,Tryz.ntmps99
    go_upto_region 3 with fail
    go_region_held3 (fun u=>u.cell? ⟨g,0,none⟩=some (.slice A l.length c)∧u.cell? ⟨g,1,none⟩=some (.int .i64 i))
     (exact HS.out _ (blq))
     (first
       | (go_at_call 115;(with_reducible refine (HPR.out _ (Keep.of (blq))).mono ?_);rintro r w5 ⟨V,rfl,hv5,hb5,hf5⟩;have h5:Below w.heap.size w w5:=bt (blq) hb5;have F5:Fresh w.heap.size V:=hf5.mono (by first | exact Nat.le_refl _ | (have:=(show Below w.heap.size w _ from (blq)).size;exact this));obtain ⟨A5,c5,rfl,_⟩:=Nods.shape hv5))
    all_goals
     have HP5:=HPA.out.below h5
     have HV5:=Lib.hid hv5
     clear pl p0 p1 p2 p3 p4
     obtain ⟨pl,p0,p1,p2,p3,p4,pf'⟩:=HP5
     have pf1:=pf' 1
     go_wp2_with fail
     go_ret
     exact stpost HA.out ⟨SlN.keep HV5.out F5 HPA.out.lt ((Keep.refl _ _).set 1 _),F5⟩ ((Keep.of h5).set 1 _) ((HPA.out.below h5).set1 _)
 ·have heq:(e == 0)=false:=by simpa using he
  have HA:=Lib.hid (after_err (p:=p) (i:=i) (r:=exprR l i) (d:=[]) he)
  obtain ⟨pl,p0,p1,p2,p3,p4,pf⟩:=hp
  clear hc hct
  go_enter Tryz.func99,Tryz.ntmps99
  go_wp2_with fail
  go_ret
  exact stpost HA.out ⟨Sl.nil _ _ _,fresh_nil _ _ _⟩ (Keep.refl _ _) HPA.out
theorem SB.other {w:World} {b g o:Nat} {x:St} {ev fv u:Value} (h:SB w b x ev fv) (hne:b≠g):SB (w.setCell ⟨g,o,none⟩ u) b x ev fv:=h.keep ((Keep.refl g w).set o u) hne
structure WS (l:List Tok) (g:Nat) (v o:Value) (w0:World) (q:Nat) (w:World) (σ:Sg) (ev fv:Value):Prop where
 pq:PQ w g v (σ.i:Nat) σ.e σ.p o
 sb:SB w (q+1) σ.x ev fv
 rb:SB w q zeroS (.slice none 0 0) (.slice none 0 0)
 ne:Nods w ev σ.x.e
 nf:Nods w fv σ.x.f
 fe:Fresh (q+2) ev
 ff:Fresh (q+2) fv
 ctx:Ctx g v l w
 kp:Keep g w0 w
 hq:w0.heap.size=q
 gq:g < q
theorem PQ.other {w:World} {g q j:Nat} {v o u:Value} {i e p:Int} (h:PQ w g v i e p o) (hne:g≠q):PQ (w.setCell ⟨q,j,none⟩ u) g v i e p o:=by
 obtain ⟨hl,h0,h1,h2,h3,h4,hf⟩:=h
 refine ⟨by simpa [World.setCell] using hl,?_,?_,?_,?_,?_,fun k=>by simpa using hf k⟩ <;> simp [World.cell?_setCell_other] <;> assumption
theorem WS.keep {l:List Tok} {g q:Nat} {v o:Value} {w0 w w1:World} {σ:Sg} {ev fv:Value} (h:WS l g v o w0 q w σ ev fv) (hk:Keep g w w1) {i:Nat} {e p:Int} (hp:PQ w1 g v i e p o):WS l g v o w0 q w1 ⟨σ.x,i,e,p⟩ ev fv :=
 ⟨hp,h.sb.keep hk (by have:=h.gq;omega),h.rb.keep hk (by have:=h.gq;omega),SlN.keep h.ne h.fe (by have:=h.gq;omega) hk,SlN.keep h.nf h.ff (by have:=h.gq;omega) hk,h.fe,h.ff,h.ctx.keep hk h.pq.lt,h.kp.trans hk,h.hq,h.gq⟩
theorem ctx_above {g q j:Nat} {v u:Value} {l:List Tok} {w:World} (h:Ctx g v l w) (hq:g < q):Ctx g v l (w.setCell ⟨q,j,none⟩ u):=h.belowB (below_set (Below.refl g w) (Nat.le_of_lt hq) _)
theorem WS.reg {l:List Tok} {g q:Nat} {v o:Value} {w0 w:World} {x:St} {i:Nat} {e p:Int} {ev fv:Value} (h:WS l g v o w0 q w ⟨x,i,e,p⟩ ev fv) (s:List UInt8):WS l g v o w0 q (w.setCell ⟨q+1,1,none⟩ (.string (str s))) ⟨{ x with reg:=s },i,e,p⟩ ev fv :=
 ⟨h.pq.other (by have:=h.gq;omega),h.sb.setReg _,h.rb.other (by omega),SlN.keep h.ne h.fe (by omega) ((Keep.refl (q+1) w).set _ _),SlN.keep h.nf h.ff (by omega) ((Keep.refl (q+1) w).set _ _),h.fe,h.ff,ctx_above h.ctx (by have:=h.gq;omega),h.kp.above (by rw [h.hq];omega) _ _,h.hq,h.gq⟩
theorem WS.name {l:List Tok} {g q:Nat} {v o:Value} {w0 w:World} {x:St} {i:Nat} {e p:Int} {ev fv:Value} (h:WS l g v o w0 q w ⟨x,i,e,p⟩ ev fv) (s:List UInt8):WS l g v o w0 q (w.setCell ⟨q+1,2,none⟩ (.string (str s))) ⟨{ x with name:=s },i,e,p⟩ ev fv :=
 ⟨h.pq.other (by have:=h.gq;omega),h.sb.setName _,h.rb.other (by omega),SlN.keep h.ne h.fe (by omega) ((Keep.refl (q+1) w).set _ _),SlN.keep h.nf h.ff (by omega) ((Keep.refl (q+1) w).set _ _),h.fe,h.ff,ctx_above h.ctx (by have:=h.gq;omega),h.kp.above (by rw [h.hq];omega) _ _,h.hq,h.gq⟩
theorem WS.num {l:List Tok} {g q:Nat} {v o:Value} {w0 w:World} {x:St} {i:Nat} {e p:Int} {ev fv:Value} (h:WS l g v o w0 q w ⟨x,i,e,p⟩ ev fv) (n:Int):WS l g v o w0 q (w.setCell ⟨q+1,5,none⟩ (.int .i64 n)) ⟨{ x with n:=n },i,e,p⟩ ev fv :=
 ⟨h.pq.other (by have:=h.gq;omega),h.sb.setN _,h.rb.other (by omega),SlN.keep h.ne h.fe (by omega) ((Keep.refl (q+1) w).set _ _),SlN.keep h.nf h.ff (by omega) ((Keep.refl (q+1) w).set _ _),h.fe,h.ff,ctx_above h.ctx (by have:=h.gq;omega),h.kp.above (by rw [h.hq];omega) _ _,h.hq,h.gq⟩
theorem WS.nodes {l:List Tok} {g q:Nat} {v o:Value} {w0 w:World} {x:St} {i:Nat} {e p:Int} {ev fv:Value} (h:WS l g v o w0 q w ⟨x,i,e,p⟩ ev fv) (y:List Nod) (u:Value) (hn:Nods w u y) (hf:Fresh (q+2) u):WS l g v o w0 q (w.setCell ⟨q+1,3,none⟩ u) ⟨{ x with e:=y },i,e,p⟩ u fv :=
 ⟨h.pq.other (by have:=h.gq;omega),h.sb.setE y u,h.rb.other (by omega),SlN.keep hn hf (by omega) ((Keep.refl (q+1) w).set _ _),SlN.keep h.nf h.ff (by omega) ((Keep.refl (q+1) w).set _ _),hf,h.ff,ctx_above h.ctx (by have:=h.gq;omega),h.kp.above (by rw [h.hq];omega) _ _,h.hq,h.gq⟩
theorem WS.more {l:List Tok} {g q:Nat} {v o:Value} {w0 w:World} {x:St} {i:Nat} {e p:Int} {ev fv:Value} (h:WS l g v o w0 q w ⟨x,i,e,p⟩ ev fv) (y:List Nod) (u:Value) (hn:Nods w u y) (hf:Fresh (q+2) u):WS l g v o w0 q (w.setCell ⟨q+1,4,none⟩ u) ⟨{ x with f:=y },i,e,p⟩ ev u :=
 ⟨h.pq.other (by have:=h.gq;omega),h.sb.setF y u,h.rb.other (by omega),SlN.keep h.ne h.fe (by omega) ((Keep.refl (q+1) w).set _ _),SlN.keep hn hf (by omega) ((Keep.refl (q+1) w).set _ _),h.fe,hf,ctx_above h.ctx (by have:=h.gq;omega),h.kp.above (by rw [h.hq];omega) _ _,h.hq,h.gq⟩
theorem ws_new (l:List Tok) (g:Nat) (v o:Value) (w:World) (i:Nat) (p:Int) (x:St) (he:PQ w g v i 0 p o) (hc:Ctx g v l w) (h1:x.e = []:=by rfl) (h2:x.f = []:=by rfl) :
 WS l g v o w w.heap.size ((w.alloc (.cells #[.int .i64 0,.string (str []),.string (str []),.slice none 0 0,.slice none 0 0,.int .i64 0,.int .i64 0,.int .i64 0,.int .i64 0] 31)).alloc (.cells #[.int .i64 x.kind,.string (str x.reg),.string (str x.name),.slice none 0 0,.slice none 0 0,.int .i64 x.n,.int .i64 x.body,.int .i64 x.els,.int .i64 x.pos] 31)) ⟨x,i,0,p⟩ (.slice none 0 0) (.slice none 0 0):=by
 have ha:=al w (.cells #[.int .i64 0,.string (str []),.string (str []),.slice none 0 0,.slice none 0 0,.int .i64 0,.int .i64 0,.int .i64 0,.int .i64 0] 31)
 have hr:=sb_new w zeroS (.slice none 0 0) (.slice none 0 0)
 have hs:(w.alloc (.cells #[.int .i64 0,.string (str []),.string (str []),.slice none 0 0,.slice none 0 0,.int .i64 0,.int .i64 0,.int .i64 0,.int .i64 0] 31)).heap.size=w.heap.size+1:=World.size_alloc _ _
 have hb:=sb_new (w.alloc (.cells #[.int .i64 0,.string (str []),.string (str []),.slice none 0 0,.slice none 0 0,.int .i64 0,.int .i64 0,.int .i64 0,.int .i64 0] 31)) x (.slice none 0 0) (.slice none 0 0)
 rw [hs] at hb
 have ha2:=al (w.alloc (.cells #[.int .i64 0,.string (str []),.string (str []),.slice none 0 0,.slice none 0 0,.int .i64 0,.int .i64 0,.int .i64 0,.int .i64 0] 31)) (.cells #[.int .i64 x.kind,.string (str x.reg),.string (str x.name),.slice none 0 0,.slice none 0 0,.int .i64 x.n,.int .i64 x.body,.int .i64 x.els,.int .i64 x.pos] 31)
 have hg:=he.lt
 exact ⟨(he.below ha).below ha2,hb,SB.keep (g:=w.heap.size+1) hr (Keep.of ha2) (by omega),by rw [h1];exact Sl.nil _ _ _,by rw [h2];exact Sl.nil _ _ _,fresh_nil _ _ _,fresh_nil _ _ _,hc.keep (Keep.of (bt ha ha2)) hg,Keep.of (bt ha ha2),rfl,hg⟩
def PlPost (l:List Tok) (k:Nat) (at_:Int) (g:Nat) (v o:Value) (i:Nat) (p:Int) (w:World) (r:Ending) (w':World):Prop :=
 ∃ σ ev fv,r = .returned (stV σ.x ev fv)∧σ=runS l ⟨{ zeroS with kind:=k,pos:=at_ },i,0,p⟩ (opsS k)∧Nods w' ev σ.x.e∧Nods w' fv σ.x.f∧Fresh w.heap.size ev∧Fresh w.heap.size fv∧Keep g w w'∧PQ w' g v (σ.i:Nat) σ.e σ.p o∧σ.i≤1000000
theorem qplain1_c (l:List Tok) (hl:l.length≤100000) (htx:∀ t∈l,t.text.length≤1000000) (g:Nat) (v o:Value) (i:Nat) (hi:i≤1000000) (p at_:Int) (w:World) (hp:PQ w g v i 0 p o) (hc:Ctx g v l w) :
 Calls Tryz.prog 73 #[.pointer (some ⟨g,0,none⟩),.int .i64 1,.int .i64 at_] w (PlPost l 1 at_ g v o i p w):=by
 have HPA:=Lib.hid hp
 have h0:=ws_new l g v o w i p { zeroS with kind:=1,pos:=at_ } hp hc
 have HKW:Hid (∀ u,Keep g w u→Ctx g v l u):=fun u hu=>hc.keep hu hp.lt
 clear hp hc
 unfold zeroS at h0
 simp only at h0
 go_enter Tryz.func73,Tryz.ntmps73
 go_upto_region 2 with fail
 have hse:(⟨#[]⟩:ByteArray)=str []:=rfl
 rw [hse]
 generalize World.alloc (World.alloc _ _) _=X0 at h0 ⊢
 have W0:=Lib.hid h0
 clear h0
 obtain ⟨⟨s1,i1,e1,p1⟩,hq⟩:∃ a,After 0 p i (nameR l i) [] = a:=⟨_,rfl⟩
 have hb1:i1≤1000000:=by have h:=after_i (e:=0) (p:=p) (r:=nameR l i) (d:=[]) hi (fun x j hr=>by have:=nameR_good hr;omega);rw [hq] at h;exact h
 have HN:=Lib.hid (qname_c l hl htx g v o i (by omega) 0 p X0 W0.out.pq W0.out.ctx)
 rw [hq] at HN
 have Q1:=Lib.hid hq
 clear hq
 have hqx:w.heap.size+2≤X0.heap.size:=by have:=W0.out.sb.lt;omega
 go_upto_region 5 with (go_at_call 98;refine (HN.out).mono ?_;rintro r w1 ⟨x1,rfl,hx1,hk1,hp1⟩;obtain rfl:=hx1;have b1:=(W0.out.keep hk1 hp1).sb.c1;have bf:=(W0.out.keep hk1 hp1).sb.fr 1)
 have W1:=Lib.hid ((W0.out.keep hk1 hp1).reg s1)
 clear b1 bf HN hk1 hp1 hqx
 generalize World.setCell w1 _ _=X1 at W1 ⊢
 obtain ⟨⟨u2,i2,e2,p2⟩,hq⟩:∃ a,After e1 p1 i1 (signR l [61] i1) ()=a:=⟨_,rfl⟩
 have hb2:i2≤1000000:=by have h:=after_i (e:=e1) (p:=p1) (r:=signR l [61] i1) (d:=()) hb1 (fun x j hr=>by have:=signR_good (l:=l) (s:=[61]) hr;omega);rw [hq] at h;exact h
 have HN:=Lib.hid (qmust_c l hl [61] g v o i1 (by omega) e1 p1 X1 W1.out.pq W1.out.ctx)
 have hm:=must_after (l:=l) (s:=[61]) (i:=i1) (e:=e1) (p:=p1)
 rw [hq] at hm
 simp only [Prod.mk.injEq] at hm
 rw [hm.1,hm.2.1,hm.2.2] at HN
 have Q2:=Lib.hid hq
 clear hq hm
 go_upto_region 6 with (go_at_call 48;refine (HN.out).mono ?_;rintro r w1 ⟨rfl,hk1,hp1⟩)
 have W2:=Lib.hid (W1.out.keep hk1 hp1)
 clear HN hk1 hp1
 generalize w1=X2 at W2 ⊢
 obtain ⟨⟨s3,i3,e3,p3⟩,hq⟩:∃ a,After e2 p2 i2 (exprR l i2) [] = a:=⟨_,rfl⟩
 have hb3:i3≤1000000:=by have h:=after_i (e:=e2) (p:=p2) (r:=exprR l i2) (d:=[]) hb2 (fun x j hr=>by have:=exprR_good hr;omega);rw [hq] at h;exact h
 have HN:=Lib.hid (qexpr_c l hl htx g v o i2 (by omega) e2 p2 X2 W2.out.pq W2.out.ctx)
 rw [hq] at HN
 have Q3:=Lib.hid hq
 clear hq
 have hqx:w.heap.size+2≤X2.heap.size:=by have:=W2.out.sb.lt;omega
 go_upto_region 33 with (go_at_call 99;refine (HN.out).mono ?_;rintro r w1 ⟨x3,rfl,hx1,hk1,hp1⟩;obtain ⟨hx2,hx3⟩:=hx1;obtain ⟨A3,c3,rfl,_⟩:=Nods.shape hx2;have b1:=(W2.out.keep hk1 hp1).sb.c3;have bf:=(W2.out.keep hk1 hp1).sb.fr 3)
 have W3:=Lib.hid ((W2.out.keep hk1 hp1).nodes s3 _ hx2 (hx3.mono hqx))
 clear b1 bf HN hk1 hp1 hx2 hx3 hqx
 generalize World.setCell w1 _ _=X3 at W3 ⊢
 have hgq:g < w.heap.size:=HPA.out.lt
 obtain ⟨bl,b0,b1,b2,b3,b4,b5,b6,b7,b8,bfr⟩:=W3.out.sb
 obtain ⟨rl,r0,r1,r2,r3,r4,r5,r6,r7,r8,rfr⟩:=W3.out.rb
 have f0:=rfr 0;have f1:=rfr 1;have f2:=rfr 2;have f3:=rfr 3;have f4:=rfr 4;have f5:=rfr 5;have f6:=rfr 6;have f7:=rfr 7;have f8:=rfr 8
 go_wp2_with fail
 refine bodyPost_ret (v:=stV ⟨1,s1,[],s3,[],0,0,0,at_⟩ (.slice A3 s3.length c3) (.slice none 0 0)) (by simp [results,Tryz.results73,go_sem,stV,World.cell?_setCell_other,World.cell?_setCell_same',r0,r1,r2,r3,r4,r5,r6,r7,r8];try rfl) rfl ?_
 refine ⟨⟨⟨1,s1,[],s3,[],0,0,0,at_⟩,i3,e3,p3⟩,_,_,rfl,?_,SlN.keep W3.out.ne W3.out.fe (by omega) ((((((((((Keep.refl w.heap.size X3).set 0 _).set 1 _).set 2 _).set 3 _).set 4 _).set 5 _).set 6 _).set 7 _).set 8 _),SlN.keep W3.out.nf W3.out.ff (by omega) ((((((((((Keep.refl w.heap.size X3).set 0 _).set 1 _).set 2 _).set 3 _).set 4 _).set 5 _).set 6 _).set 7 _).set 8 _),W3.out.fe.mono (by omega),W3.out.ff.mono (by omega),(((((((((W3.out.kp.above (Nat.le_refl _) 0 _).above (Nat.le_refl _) 1 _).above (Nat.le_refl _) 2 _).above (Nat.le_refl _) 3 _).above (Nat.le_refl _) 4 _).above (Nat.le_refl _) 5 _).above (Nat.le_refl _) 6 _).above (Nat.le_refl _) 7 _).above (Nat.le_refl _) 8 _),(((((((((W3.out.pq.other (Nat.ne_of_lt hgq)).other (Nat.ne_of_lt hgq)).other (Nat.ne_of_lt hgq)).other (Nat.ne_of_lt hgq)).other (Nat.ne_of_lt hgq)).other (Nat.ne_of_lt hgq)).other (Nat.ne_of_lt hgq)).other (Nat.ne_of_lt hgq)).other (Nat.ne_of_lt hgq)),hb3⟩
 rw [show opsS 1 = [.reg,.sign [61],.nodes] from rfl]
 simp only [runS,List.foldl,stepS,zeroS,Q1.out,Q2.out,Q3.out]
 rfl
theorem qplain2_c (l:List Tok) (hl:l.length≤100000) (htx:∀ t∈l,t.text.length≤1000000) (g:Nat) (v o:Value) (i:Nat) (hi:i≤1000000) (p at_:Int) (w:World) (hp:PQ w g v i 0 p o) (hc:Ctx g v l w) :
 Calls Tryz.prog 73 #[.pointer (some ⟨g,0,none⟩),.int .i64 2,.int .i64 at_] w (PlPost l 2 at_ g v o i p w):=by
 have HPA:=Lib.hid hp
 have h0:=ws_new l g v o w i p { zeroS with kind:=2,pos:=at_ } hp hc
 have HKW:Hid (∀ u,Keep g w u→Ctx g v l u):=fun u hu=>hc.keep hu hp.lt
 clear hp hc
 unfold zeroS at h0
 simp only at h0
 go_enter Tryz.func73,Tryz.ntmps73
 go_upto_region 2 with fail
 have hse:(⟨#[]⟩:ByteArray)=str []:=rfl
 rw [hse]
 generalize World.alloc (World.alloc _ _) _=X0 at h0 ⊢
 have W0:=Lib.hid h0
 clear h0
 obtain ⟨⟨s1,i1,e1,p1⟩,hq⟩:∃ a,After 0 p i (nameR l i) [] = a:=⟨_,rfl⟩
 have hb1:i1≤1000000:=by have h:=after_i (e:=0) (p:=p) (r:=nameR l i) (d:=[]) hi (fun x j hr=>by have:=nameR_good hr;omega);rw [hq] at h;exact h
 have HN:=Lib.hid (qname_c l hl htx g v o i (by omega) 0 p X0 W0.out.pq W0.out.ctx)
 rw [hq] at HN
 have Q1:=Lib.hid hq
 clear hq
 have hqx:w.heap.size+2≤X0.heap.size:=by have:=W0.out.sb.lt;omega
 go_upto_region 9 with (go_at_call 98;refine (HN.out).mono ?_;rintro r w1 ⟨x1,rfl,hx1,hk1,hp1⟩;obtain rfl:=hx1;have b1:=(W0.out.keep hk1 hp1).sb.c1;have bf:=(W0.out.keep hk1 hp1).sb.fr 1)
 have W1:=Lib.hid ((W0.out.keep hk1 hp1).reg s1)
 clear b1 bf HN hk1 hp1 hqx
 generalize World.setCell w1 _ _=X1 at W1 ⊢
 obtain ⟨⟨u2,i2,e2,p2⟩,hq⟩:∃ a,After e1 p1 i1 (signR l [61] i1) ()=a:=⟨_,rfl⟩
 have hb2:i2≤1000000:=by have h:=after_i (e:=e1) (p:=p1) (r:=signR l [61] i1) (d:=()) hb1 (fun x j hr=>by have:=signR_good (l:=l) (s:=[61]) hr;omega);rw [hq] at h;exact h
 have HN:=Lib.hid (qmust_c l hl [61] g v o i1 (by omega) e1 p1 X1 W1.out.pq W1.out.ctx)
 have hm:=must_after (l:=l) (s:=[61]) (i:=i1) (e:=e1) (p:=p1)
 rw [hq] at hm
 simp only [Prod.mk.injEq] at hm
 rw [hm.1,hm.2.1,hm.2.2] at HN
 have Q2:=Lib.hid hq
 clear hq hm
 go_upto_region 10 with (go_at_call 48;refine (HN.out).mono ?_;rintro r w1 ⟨rfl,hk1,hp1⟩)
 have W2:=Lib.hid (W1.out.keep hk1 hp1)
 clear HN hk1 hp1
 generalize w1=X2 at W2 ⊢
 obtain ⟨⟨s3,i3,e3,p3⟩,hq⟩:∃ a,After e2 p2 i2 (nameR l i2) [] = a:=⟨_,rfl⟩
 have hb3:i3≤1000000:=by have h:=after_i (e:=e2) (p:=p2) (r:=nameR l i2) (d:=[]) hb2 (fun x j hr=>by have:=nameR_good hr;omega);rw [hq] at h;exact h
 have HN:=Lib.hid (qname_c l hl htx g v o i2 (by omega) e2 p2 X2 W2.out.pq W2.out.ctx)
 rw [hq] at HN
 have Q3:=Lib.hid hq
 clear hq
 have hqx:w.heap.size+2≤X2.heap.size:=by have:=W2.out.sb.lt;omega
 go_upto_region 33 with (go_at_call 98;refine (HN.out).mono ?_;rintro r w1 ⟨x3,rfl,hx1,hk1,hp1⟩;obtain rfl:=hx1;have b1:=(W2.out.keep hk1 hp1).sb.c2;have bf:=(W2.out.keep hk1 hp1).sb.fr 2)
 have W3:=Lib.hid ((W2.out.keep hk1 hp1).name s3)
 clear b1 bf HN hk1 hp1 hqx
 generalize World.setCell w1 _ _=X3 at W3 ⊢
 have hgq:g < w.heap.size:=HPA.out.lt
 obtain ⟨bl,b0,b1,b2,b3,b4,b5,b6,b7,b8,bfr⟩:=W3.out.sb
 obtain ⟨rl,r0,r1,r2,r3,r4,r5,r6,r7,r8,rfr⟩:=W3.out.rb
 have f0:=rfr 0;have f1:=rfr 1;have f2:=rfr 2;have f3:=rfr 3;have f4:=rfr 4;have f5:=rfr 5;have f6:=rfr 6;have f7:=rfr 7;have f8:=rfr 8
 go_wp2_with fail
 refine bodyPost_ret (v:=stV ⟨2,s1,s3,[],[],0,0,0,at_⟩ (.slice none 0 0) (.slice none 0 0)) (by simp [results,Tryz.results73,go_sem,stV,World.cell?_setCell_other,World.cell?_setCell_same',r0,r1,r2,r3,r4,r5,r6,r7,r8];try rfl) rfl ?_
 refine ⟨⟨⟨2,s1,s3,[],[],0,0,0,at_⟩,i3,e3,p3⟩,_,_,rfl,?_,SlN.keep W3.out.ne W3.out.fe (by omega) ((((((((((Keep.refl w.heap.size X3).set 0 _).set 1 _).set 2 _).set 3 _).set 4 _).set 5 _).set 6 _).set 7 _).set 8 _),SlN.keep W3.out.nf W3.out.ff (by omega) ((((((((((Keep.refl w.heap.size X3).set 0 _).set 1 _).set 2 _).set 3 _).set 4 _).set 5 _).set 6 _).set 7 _).set 8 _),W3.out.fe.mono (by omega),W3.out.ff.mono (by omega),(((((((((W3.out.kp.above (Nat.le_refl _) 0 _).above (Nat.le_refl _) 1 _).above (Nat.le_refl _) 2 _).above (Nat.le_refl _) 3 _).above (Nat.le_refl _) 4 _).above (Nat.le_refl _) 5 _).above (Nat.le_refl _) 6 _).above (Nat.le_refl _) 7 _).above (Nat.le_refl _) 8 _),(((((((((W3.out.pq.other (Nat.ne_of_lt hgq)).other (Nat.ne_of_lt hgq)).other (Nat.ne_of_lt hgq)).other (Nat.ne_of_lt hgq)).other (Nat.ne_of_lt hgq)).other (Nat.ne_of_lt hgq)).other (Nat.ne_of_lt hgq)).other (Nat.ne_of_lt hgq)).other (Nat.ne_of_lt hgq)),hb3⟩
 rw [show opsS 2 = [.reg,.sign [61],.name] from rfl]
 simp only [runS,List.foldl,stepS,zeroS,Q1.out,Q2.out,Q3.out]
 rfl
theorem qplain3_c (l:List Tok) (hl:l.length≤100000) (htx:∀ t∈l,t.text.length≤1000000) (g:Nat) (v o:Value) (i:Nat) (hi:i≤1000000) (p at_:Int) (w:World) (hp:PQ w g v i 0 p o) (hc:Ctx g v l w) :
 Calls Tryz.prog 73 #[.pointer (some ⟨g,0,none⟩),.int .i64 3,.int .i64 at_] w (PlPost l 3 at_ g v o i p w):=by
 have HPA:=Lib.hid hp
 have h0:=ws_new l g v o w i p { zeroS with kind:=3,pos:=at_ } hp hc
 have HKW:Hid (∀ u,Keep g w u→Ctx g v l u):=fun u hu=>hc.keep hu hp.lt
 clear hp hc
 unfold zeroS at h0
 simp only at h0
 go_enter Tryz.func73,Tryz.ntmps73
 go_upto_region 2 with fail
 have hse:(⟨#[]⟩:ByteArray)=str []:=rfl
 rw [hse]
 generalize World.alloc (World.alloc _ _) _=X0 at h0 ⊢
 have W0:=Lib.hid h0
 clear h0
 obtain ⟨⟨s1,i1,e1,p1⟩,hq⟩:∃ a,After 0 p i (nameR l i) [] = a:=⟨_,rfl⟩
 have hb1:i1≤1000000:=by have h:=after_i (e:=0) (p:=p) (r:=nameR l i) (d:=[]) hi (fun x j hr=>by have:=nameR_good hr;omega);rw [hq] at h;exact h
 have HN:=Lib.hid (qname_c l hl htx g v o i (by omega) 0 p X0 W0.out.pq W0.out.ctx)
 rw [hq] at HN
 have Q1:=Lib.hid hq
 clear hq
 have hqx:w.heap.size+2≤X0.heap.size:=by have:=W0.out.sb.lt;omega
 go_upto_region 13 with (go_at_call 98;refine (HN.out).mono ?_;rintro r w1 ⟨x1,rfl,hx1,hk1,hp1⟩;obtain rfl:=hx1;have b1:=(W0.out.keep hk1 hp1).sb.c2;have bf:=(W0.out.keep hk1 hp1).sb.fr 2)
 have W1:=Lib.hid ((W0.out.keep hk1 hp1).name s1)
 clear b1 bf HN hk1 hp1 hqx
 generalize World.setCell w1 _ _=X1 at W1 ⊢
 obtain ⟨⟨u2,i2,e2,p2⟩,hq⟩:∃ a,After e1 p1 i1 (signR l [61] i1) ()=a:=⟨_,rfl⟩
 have hb2:i2≤1000000:=by have h:=after_i (e:=e1) (p:=p1) (r:=signR l [61] i1) (d:=()) hb1 (fun x j hr=>by have:=signR_good (l:=l) (s:=[61]) hr;omega);rw [hq] at h;exact h
 have HN:=Lib.hid (qmust_c l hl [61] g v o i1 (by omega) e1 p1 X1 W1.out.pq W1.out.ctx)
 have hm:=must_after (l:=l) (s:=[61]) (i:=i1) (e:=e1) (p:=p1)
 rw [hq] at hm
 simp only [Prod.mk.injEq] at hm
 rw [hm.1,hm.2.1,hm.2.2] at HN
 have Q2:=Lib.hid hq
 clear hq hm
 go_upto_region 14 with (go_at_call 48;refine (HN.out).mono ?_;rintro r w1 ⟨rfl,hk1,hp1⟩)
 have W2:=Lib.hid (W1.out.keep hk1 hp1)
 clear HN hk1 hp1
 generalize w1=X2 at W2 ⊢
 obtain ⟨⟨s3,i3,e3,p3⟩,hq⟩:∃ a,After e2 p2 i2 (exprR l i2) [] = a:=⟨_,rfl⟩
 have hb3:i3≤1000000:=by have h:=after_i (e:=e2) (p:=p2) (r:=exprR l i2) (d:=[]) hb2 (fun x j hr=>by have:=exprR_good hr;omega);rw [hq] at h;exact h
 have HN:=Lib.hid (qexpr_c l hl htx g v o i2 (by omega) e2 p2 X2 W2.out.pq W2.out.ctx)
 rw [hq] at HN
 have Q3:=Lib.hid hq
 clear hq
 have hqx:w.heap.size+2≤X2.heap.size:=by have:=W2.out.sb.lt;omega
 go_upto_region 33 with (go_at_call 99;refine (HN.out).mono ?_;rintro r w1 ⟨x3,rfl,hx1,hk1,hp1⟩;obtain ⟨hx2,hx3⟩:=hx1;obtain ⟨A3,c3,rfl,_⟩:=Nods.shape hx2;have b1:=(W2.out.keep hk1 hp1).sb.c3;have bf:=(W2.out.keep hk1 hp1).sb.fr 3)
 have W3:=Lib.hid ((W2.out.keep hk1 hp1).nodes s3 _ hx2 (hx3.mono hqx))
 clear b1 bf HN hk1 hp1 hx2 hx3 hqx
 generalize World.setCell w1 _ _=X3 at W3 ⊢
 have hgq:g < w.heap.size:=HPA.out.lt
 obtain ⟨bl,b0,b1,b2,b3,b4,b5,b6,b7,b8,bfr⟩:=W3.out.sb
 obtain ⟨rl,r0,r1,r2,r3,r4,r5,r6,r7,r8,rfr⟩:=W3.out.rb
 have f0:=rfr 0;have f1:=rfr 1;have f2:=rfr 2;have f3:=rfr 3;have f4:=rfr 4;have f5:=rfr 5;have f6:=rfr 6;have f7:=rfr 7;have f8:=rfr 8
 go_wp2_with fail
 refine bodyPost_ret (v:=stV ⟨3,[],s1,s3,[],0,0,0,at_⟩ (.slice A3 s3.length c3) (.slice none 0 0)) (by simp [results,Tryz.results73,go_sem,stV,World.cell?_setCell_other,World.cell?_setCell_same',r0,r1,r2,r3,r4,r5,r6,r7,r8];try rfl) rfl ?_
 refine ⟨⟨⟨3,[],s1,s3,[],0,0,0,at_⟩,i3,e3,p3⟩,_,_,rfl,?_,SlN.keep W3.out.ne W3.out.fe (by omega) ((((((((((Keep.refl w.heap.size X3).set 0 _).set 1 _).set 2 _).set 3 _).set 4 _).set 5 _).set 6 _).set 7 _).set 8 _),SlN.keep W3.out.nf W3.out.ff (by omega) ((((((((((Keep.refl w.heap.size X3).set 0 _).set 1 _).set 2 _).set 3 _).set 4 _).set 5 _).set 6 _).set 7 _).set 8 _),W3.out.fe.mono (by omega),W3.out.ff.mono (by omega),(((((((((W3.out.kp.above (Nat.le_refl _) 0 _).above (Nat.le_refl _) 1 _).above (Nat.le_refl _) 2 _).above (Nat.le_refl _) 3 _).above (Nat.le_refl _) 4 _).above (Nat.le_refl _) 5 _).above (Nat.le_refl _) 6 _).above (Nat.le_refl _) 7 _).above (Nat.le_refl _) 8 _),(((((((((W3.out.pq.other (Nat.ne_of_lt hgq)).other (Nat.ne_of_lt hgq)).other (Nat.ne_of_lt hgq)).other (Nat.ne_of_lt hgq)).other (Nat.ne_of_lt hgq)).other (Nat.ne_of_lt hgq)).other (Nat.ne_of_lt hgq)).other (Nat.ne_of_lt hgq)).other (Nat.ne_of_lt hgq)),hb3⟩
 rw [show opsS 3 = [.name,.sign [61],.nodes] from rfl]
 simp only [runS,List.foldl,stepS,zeroS,Q1.out,Q2.out,Q3.out]
 rfl
theorem qplain4_c (l:List Tok) (hl:l.length≤100000) (htx:∀ t∈l,t.text.length≤1000000) (g:Nat) (v o:Value) (i:Nat) (hi:i≤1000000) (p at_:Int) (w:World) (hp:PQ w g v i 0 p o) (hc:Ctx g v l w) :
 Calls Tryz.prog 73 #[.pointer (some ⟨g,0,none⟩),.int .i64 4,.int .i64 at_] w (PlPost l 4 at_ g v o i p w):=by
 have HPA:=Lib.hid hp
 have h0:=ws_new l g v o w i p { zeroS with kind:=4,pos:=at_ } hp hc
 have HKW:Hid (∀ u,Keep g w u→Ctx g v l u):=fun u hu=>hc.keep hu hp.lt
 clear hp hc
 unfold zeroS at h0
 simp only at h0
 go_enter Tryz.func73,Tryz.ntmps73
 go_upto_region 2 with fail
 have hse:(⟨#[]⟩:ByteArray)=str []:=rfl
 rw [hse]
 generalize World.alloc (World.alloc _ _) _=X0 at h0 ⊢
 have W0:=Lib.hid h0
 clear h0
 obtain ⟨⟨s1,i1,e1,p1⟩,hq⟩:∃ a,After 0 p i (nameR l i) [] = a:=⟨_,rfl⟩
 have hb1:i1≤1000000:=by have h:=after_i (e:=0) (p:=p) (r:=nameR l i) (d:=[]) hi (fun x j hr=>by have:=nameR_good hr;omega);rw [hq] at h;exact h
 have HN:=Lib.hid (qname_c l hl htx g v o i (by omega) 0 p X0 W0.out.pq W0.out.ctx)
 rw [hq] at HN
 have Q1:=Lib.hid hq
 clear hq
 have hqx:w.heap.size+2≤X0.heap.size:=by have:=W0.out.sb.lt;omega
 go_upto_region 17 with (go_at_call 98;refine (HN.out).mono ?_;rintro r w1 ⟨x1,rfl,hx1,hk1,hp1⟩;obtain rfl:=hx1;have b1:=(W0.out.keep hk1 hp1).sb.c1;have bf:=(W0.out.keep hk1 hp1).sb.fr 1)
 have W1:=Lib.hid ((W0.out.keep hk1 hp1).reg s1)
 clear b1 bf HN hk1 hp1 hqx
 generalize World.setCell w1 _ _=X1 at W1 ⊢
 obtain ⟨⟨u2,i2,e2,p2⟩,hq⟩:∃ a,After e1 p1 i1 (signR l [61] i1) ()=a:=⟨_,rfl⟩
 have hb2:i2≤1000000:=by have h:=after_i (e:=e1) (p:=p1) (r:=signR l [61] i1) (d:=()) hb1 (fun x j hr=>by have:=signR_good (l:=l) (s:=[61]) hr;omega);rw [hq] at h;exact h
 have HN:=Lib.hid (qmust_c l hl [61] g v o i1 (by omega) e1 p1 X1 W1.out.pq W1.out.ctx)
 have hm:=must_after (l:=l) (s:=[61]) (i:=i1) (e:=e1) (p:=p1)
 rw [hq] at hm
 simp only [Prod.mk.injEq] at hm
 rw [hm.1,hm.2.1,hm.2.2] at HN
 have Q2:=Lib.hid hq
 clear hq hm
 go_upto_region 18 with (go_at_call 48;refine (HN.out).mono ?_;rintro r w1 ⟨rfl,hk1,hp1⟩)
 have W2:=Lib.hid (W1.out.keep hk1 hp1)
 clear HN hk1 hp1
 generalize w1=X2 at W2 ⊢
 obtain ⟨⟨s3,i3,e3,p3⟩,hq⟩:∃ a,After e2 p2 i2 (nameR l i2) [] = a:=⟨_,rfl⟩
 have hb3:i3≤1000000:=by have h:=after_i (e:=e2) (p:=p2) (r:=nameR l i2) (d:=[]) hb2 (fun x j hr=>by have:=nameR_good hr;omega);rw [hq] at h;exact h
 have HN:=Lib.hid (qname_c l hl htx g v o i2 (by omega) e2 p2 X2 W2.out.pq W2.out.ctx)
 rw [hq] at HN
 have Q3:=Lib.hid hq
 clear hq
 have hqx:w.heap.size+2≤X2.heap.size:=by have:=W2.out.sb.lt;omega
 go_upto_region 19 with (go_at_call 98;refine (HN.out).mono ?_;rintro r w1 ⟨x3,rfl,hx1,hk1,hp1⟩;obtain rfl:=hx1;have b1:=(W2.out.keep hk1 hp1).sb.c2;have bf:=(W2.out.keep hk1 hp1).sb.fr 2)
 have W3:=Lib.hid ((W2.out.keep hk1 hp1).name s3)
 clear b1 bf HN hk1 hp1 hqx
 generalize World.setCell w1 _ _=X3 at W3 ⊢
 obtain ⟨⟨u4,i4,e4,p4⟩,hq⟩:∃ a,After e3 p3 i3 (signR l [44] i3) ()=a:=⟨_,rfl⟩
 have hb4:i4≤1000000:=by have h:=after_i (e:=e3) (p:=p3) (r:=signR l [44] i3) (d:=()) hb3 (fun x j hr=>by have:=signR_good (l:=l) (s:=[44]) hr;omega);rw [hq] at h;exact h
 have HN:=Lib.hid (qmust_c l hl [44] g v o i3 (by omega) e3 p3 X3 W3.out.pq W3.out.ctx)
 have hm:=must_after (l:=l) (s:=[44]) (i:=i3) (e:=e3) (p:=p3)
 rw [hq] at hm
 simp only [Prod.mk.injEq] at hm
 rw [hm.1,hm.2.1,hm.2.2] at HN
 have Q4:=Lib.hid hq
 clear hq hm
 go_upto_region 20 with (go_at_call 48;refine (HN.out).mono ?_;rintro r w1 ⟨rfl,hk1,hp1⟩)
 have W4:=Lib.hid (W3.out.keep hk1 hp1)
 clear HN hk1 hp1
 generalize w1=X4 at W4 ⊢
 obtain ⟨⟨s5,i5,e5,p5⟩,hq⟩:∃ a,After e4 p4 i4 (exprR l i4) [] = a:=⟨_,rfl⟩
 have hb5:i5≤1000000:=by have h:=after_i (e:=e4) (p:=p4) (r:=exprR l i4) (d:=[]) hb4 (fun x j hr=>by have:=exprR_good hr;omega);rw [hq] at h;exact h
 have HN:=Lib.hid (qexpr_c l hl htx g v o i4 (by omega) e4 p4 X4 W4.out.pq W4.out.ctx)
 rw [hq] at HN
 have Q5:=Lib.hid hq
 clear hq
 have hqx:w.heap.size+2≤X4.heap.size:=by have:=W4.out.sb.lt;omega
 go_upto_region 21 with (go_at_call 99;refine (HN.out).mono ?_;rintro r w1 ⟨x5,rfl,hx1,hk1,hp1⟩;obtain ⟨hx2,hx3⟩:=hx1;obtain ⟨A5,c5,rfl,_⟩:=Nods.shape hx2;have b1:=(W4.out.keep hk1 hp1).sb.c3;have bf:=(W4.out.keep hk1 hp1).sb.fr 3)
 have W5:=Lib.hid ((W4.out.keep hk1 hp1).nodes s5 _ hx2 (hx3.mono hqx))
 clear b1 bf HN hk1 hp1 hx2 hx3 hqx
 generalize World.setCell w1 _ _=X5 at W5 ⊢
 obtain ⟨⟨u6,i6,e6,p6⟩,hq⟩:∃ a,After e5 p5 i5 (signR l [44] i5) ()=a:=⟨_,rfl⟩
 have hb6:i6≤1000000:=by have h:=after_i (e:=e5) (p:=p5) (r:=signR l [44] i5) (d:=()) hb5 (fun x j hr=>by have:=signR_good (l:=l) (s:=[44]) hr;omega);rw [hq] at h;exact h
 have HN:=Lib.hid (qmust_c l hl [44] g v o i5 (by omega) e5 p5 X5 W5.out.pq W5.out.ctx)
 have hm:=must_after (l:=l) (s:=[44]) (i:=i5) (e:=e5) (p:=p5)
 rw [hq] at hm
 simp only [Prod.mk.injEq] at hm
 rw [hm.1,hm.2.1,hm.2.2] at HN
 have Q6:=Lib.hid hq
 clear hq hm
 go_upto_region 22 with (go_at_call 48;refine (HN.out).mono ?_;rintro r w1 ⟨rfl,hk1,hp1⟩)
 have W6:=Lib.hid (W5.out.keep hk1 hp1)
 clear HN hk1 hp1
 generalize w1=X6 at W6 ⊢
 obtain ⟨⟨s7,i7,e7,p7⟩,hq⟩:∃ a,After e6 p6 i6 (exprR l i6) [] = a:=⟨_,rfl⟩
 have hb7:i7≤1000000:=by have h:=after_i (e:=e6) (p:=p6) (r:=exprR l i6) (d:=[]) hb6 (fun x j hr=>by have:=exprR_good hr;omega);rw [hq] at h;exact h
 have HN:=Lib.hid (qexpr_c l hl htx g v o i6 (by omega) e6 p6 X6 W6.out.pq W6.out.ctx)
 rw [hq] at HN
 have Q7:=Lib.hid hq
 clear hq
 have hqx:w.heap.size+2≤X6.heap.size:=by have:=W6.out.sb.lt;omega
 go_upto_region 33 with (go_at_call 99;refine (HN.out).mono ?_;rintro r w1 ⟨x7,rfl,hx1,hk1,hp1⟩;obtain ⟨hx2,hx3⟩:=hx1;obtain ⟨A7,c7,rfl,_⟩:=Nods.shape hx2;have b1:=(W6.out.keep hk1 hp1).sb.c4;have bf:=(W6.out.keep hk1 hp1).sb.fr 4)
 have W7:=Lib.hid ((W6.out.keep hk1 hp1).more s7 _ hx2 (hx3.mono hqx))
 clear b1 bf HN hk1 hp1 hx2 hx3 hqx
 generalize World.setCell w1 _ _=X7 at W7 ⊢
 have hgq:g < w.heap.size:=HPA.out.lt
 obtain ⟨bl,b0,b1,b2,b3,b4,b5,b6,b7,b8,bfr⟩:=W7.out.sb
 obtain ⟨rl,r0,r1,r2,r3,r4,r5,r6,r7,r8,rfr⟩:=W7.out.rb
 have f0:=rfr 0;have f1:=rfr 1;have f2:=rfr 2;have f3:=rfr 3;have f4:=rfr 4;have f5:=rfr 5;have f6:=rfr 6;have f7:=rfr 7;have f8:=rfr 8
 go_wp2_with fail
 refine bodyPost_ret (v:=stV ⟨4,s1,s3,s5,s7,0,0,0,at_⟩ (.slice A5 s5.length c5) (.slice A7 s7.length c7)) (by simp [results,Tryz.results73,go_sem,stV,World.cell?_setCell_other,World.cell?_setCell_same',r0,r1,r2,r3,r4,r5,r6,r7,r8];try rfl) rfl ?_
 refine ⟨⟨⟨4,s1,s3,s5,s7,0,0,0,at_⟩,i7,e7,p7⟩,_,_,rfl,?_,SlN.keep W7.out.ne W7.out.fe (by omega) ((((((((((Keep.refl w.heap.size X7).set 0 _).set 1 _).set 2 _).set 3 _).set 4 _).set 5 _).set 6 _).set 7 _).set 8 _),SlN.keep W7.out.nf W7.out.ff (by omega) ((((((((((Keep.refl w.heap.size X7).set 0 _).set 1 _).set 2 _).set 3 _).set 4 _).set 5 _).set 6 _).set 7 _).set 8 _),W7.out.fe.mono (by omega),W7.out.ff.mono (by omega),(((((((((W7.out.kp.above (Nat.le_refl _) 0 _).above (Nat.le_refl _) 1 _).above (Nat.le_refl _) 2 _).above (Nat.le_refl _) 3 _).above (Nat.le_refl _) 4 _).above (Nat.le_refl _) 5 _).above (Nat.le_refl _) 6 _).above (Nat.le_refl _) 7 _).above (Nat.le_refl _) 8 _),(((((((((W7.out.pq.other (Nat.ne_of_lt hgq)).other (Nat.ne_of_lt hgq)).other (Nat.ne_of_lt hgq)).other (Nat.ne_of_lt hgq)).other (Nat.ne_of_lt hgq)).other (Nat.ne_of_lt hgq)).other (Nat.ne_of_lt hgq)).other (Nat.ne_of_lt hgq)).other (Nat.ne_of_lt hgq)),hb7⟩
 rw [show opsS 4 = [.reg,.sign [61],.name,.sign [44],.nodes,.sign [44],.more] from rfl]
 simp only [runS,List.foldl,stepS,zeroS,Q1.out,Q2.out,Q3.out,Q4.out,Q5.out,Q6.out,Q7.out]
 rfl
theorem qplain5_c (l:List Tok) (hl:l.length≤100000) (htx:∀ t∈l,t.text.length≤1000000) (g:Nat) (v o:Value) (i:Nat) (hi:i≤1000000) (p at_:Int) (w:World) (hp:PQ w g v i 0 p o) (hc:Ctx g v l w) :
 Calls Tryz.prog 73 #[.pointer (some ⟨g,0,none⟩),.int .i64 5,.int .i64 at_] w (PlPost l 5 at_ g v o i p w):=by
 have HPA:=Lib.hid hp
 have h0:=ws_new l g v o w i p { zeroS with kind:=5,pos:=at_ } hp hc
 have HKW:Hid (∀ u,Keep g w u→Ctx g v l u):=fun u hu=>hc.keep hu hp.lt
 clear hp hc
 unfold zeroS at h0
 simp only at h0
 go_enter Tryz.func73,Tryz.ntmps73
 go_upto_region 2 with fail
 have hse:(⟨#[]⟩:ByteArray)=str []:=rfl
 rw [hse]
 generalize World.alloc (World.alloc _ _) _=X0 at h0 ⊢
 have W0:=Lib.hid h0
 clear h0
 obtain ⟨⟨s1,i1,e1,p1⟩,hq⟩:∃ a,After 0 p i (nameR l i) [] = a:=⟨_,rfl⟩
 have hb1:i1≤1000000:=by have h:=after_i (e:=0) (p:=p) (r:=nameR l i) (d:=[]) hi (fun x j hr=>by have:=nameR_good hr;omega);rw [hq] at h;exact h
 have HN:=Lib.hid (qname_c l hl htx g v o i (by omega) 0 p X0 W0.out.pq W0.out.ctx)
 rw [hq] at HN
 have Q1:=Lib.hid hq
 clear hq
 have hqx:w.heap.size+2≤X0.heap.size:=by have:=W0.out.sb.lt;omega
 go_upto_region 33 with (go_at_call 98;refine (HN.out).mono ?_;rintro r w1 ⟨x1,rfl,hx1,hk1,hp1⟩;obtain rfl:=hx1;have b1:=(W0.out.keep hk1 hp1).sb.c2;have bf:=(W0.out.keep hk1 hp1).sb.fr 2)
 have W1:=Lib.hid ((W0.out.keep hk1 hp1).name s1)
 clear b1 bf HN hk1 hp1 hqx
 generalize World.setCell w1 _ _=X1 at W1 ⊢
 have hgq:g < w.heap.size:=HPA.out.lt
 obtain ⟨bl,b0,b1,b2,b3,b4,b5,b6,b7,b8,bfr⟩:=W1.out.sb
 obtain ⟨rl,r0,r1,r2,r3,r4,r5,r6,r7,r8,rfr⟩:=W1.out.rb
 have f0:=rfr 0;have f1:=rfr 1;have f2:=rfr 2;have f3:=rfr 3;have f4:=rfr 4;have f5:=rfr 5;have f6:=rfr 6;have f7:=rfr 7;have f8:=rfr 8
 go_wp2_with fail
 refine bodyPost_ret (v:=stV ⟨5,[],s1,[],[],0,0,0,at_⟩ (.slice none 0 0) (.slice none 0 0)) (by simp [results,Tryz.results73,go_sem,stV,World.cell?_setCell_other,World.cell?_setCell_same',r0,r1,r2,r3,r4,r5,r6,r7,r8];try rfl) rfl ?_
 refine ⟨⟨⟨5,[],s1,[],[],0,0,0,at_⟩,i1,e1,p1⟩,_,_,rfl,?_,SlN.keep W1.out.ne W1.out.fe (by omega) ((((((((((Keep.refl w.heap.size X1).set 0 _).set 1 _).set 2 _).set 3 _).set 4 _).set 5 _).set 6 _).set 7 _).set 8 _),SlN.keep W1.out.nf W1.out.ff (by omega) ((((((((((Keep.refl w.heap.size X1).set 0 _).set 1 _).set 2 _).set 3 _).set 4 _).set 5 _).set 6 _).set 7 _).set 8 _),W1.out.fe.mono (by omega),W1.out.ff.mono (by omega),(((((((((W1.out.kp.above (Nat.le_refl _) 0 _).above (Nat.le_refl _) 1 _).above (Nat.le_refl _) 2 _).above (Nat.le_refl _) 3 _).above (Nat.le_refl _) 4 _).above (Nat.le_refl _) 5 _).above (Nat.le_refl _) 6 _).above (Nat.le_refl _) 7 _).above (Nat.le_refl _) 8 _),(((((((((W1.out.pq.other (Nat.ne_of_lt hgq)).other (Nat.ne_of_lt hgq)).other (Nat.ne_of_lt hgq)).other (Nat.ne_of_lt hgq)).other (Nat.ne_of_lt hgq)).other (Nat.ne_of_lt hgq)).other (Nat.ne_of_lt hgq)).other (Nat.ne_of_lt hgq)).other (Nat.ne_of_lt hgq)),hb1⟩
 rw [show opsS 5 = [.name] from rfl]
 simp only [runS,List.foldl,stepS,zeroS,Q1.out]
 rfl
theorem qplain6_c (l:List Tok) (hl:l.length≤100000) (htx:∀ t∈l,t.text.length≤1000000) (g:Nat) (v o:Value) (i:Nat) (hi:i≤1000000) (p at_:Int) (w:World) (hp:PQ w g v i 0 p o) (hc:Ctx g v l w) :
 Calls Tryz.prog 73 #[.pointer (some ⟨g,0,none⟩),.int .i64 6,.int .i64 at_] w (PlPost l 6 at_ g v o i p w):=by
 have HPA:=Lib.hid hp
 have h0:=ws_new l g v o w i p { zeroS with kind:=6,pos:=at_ } hp hc
 have HKW:Hid (∀ u,Keep g w u→Ctx g v l u):=fun u hu=>hc.keep hu hp.lt
 clear hp hc
 unfold zeroS at h0
 simp only at h0
 go_enter Tryz.func73,Tryz.ntmps73
 go_upto_region 2 with fail
 have hse:(⟨#[]⟩:ByteArray)=str []:=rfl
 rw [hse]
 generalize World.alloc (World.alloc _ _) _=X0 at h0 ⊢
 have W0:=Lib.hid h0
 clear h0
 obtain ⟨⟨s1,i1,e1,p1⟩,hq⟩:∃ a,After 0 p i (nameR l i) [] = a:=⟨_,rfl⟩
 have hb1:i1≤1000000:=by have h:=after_i (e:=0) (p:=p) (r:=nameR l i) (d:=[]) hi (fun x j hr=>by have:=nameR_good hr;omega);rw [hq] at h;exact h
 have HN:=Lib.hid (qname_c l hl htx g v o i (by omega) 0 p X0 W0.out.pq W0.out.ctx)
 rw [hq] at HN
 have Q1:=Lib.hid hq
 clear hq
 have hqx:w.heap.size+2≤X0.heap.size:=by have:=W0.out.sb.lt;omega
 go_upto_region 33 with (go_at_call 98;refine (HN.out).mono ?_;rintro r w1 ⟨x1,rfl,hx1,hk1,hp1⟩;obtain rfl:=hx1;have b1:=(W0.out.keep hk1 hp1).sb.c2;have bf:=(W0.out.keep hk1 hp1).sb.fr 2)
 have W1:=Lib.hid ((W0.out.keep hk1 hp1).name s1)
 clear b1 bf HN hk1 hp1 hqx
 generalize World.setCell w1 _ _=X1 at W1 ⊢
 have hgq:g < w.heap.size:=HPA.out.lt
 obtain ⟨bl,b0,b1,b2,b3,b4,b5,b6,b7,b8,bfr⟩:=W1.out.sb
 obtain ⟨rl,r0,r1,r2,r3,r4,r5,r6,r7,r8,rfr⟩:=W1.out.rb
 have f0:=rfr 0;have f1:=rfr 1;have f2:=rfr 2;have f3:=rfr 3;have f4:=rfr 4;have f5:=rfr 5;have f6:=rfr 6;have f7:=rfr 7;have f8:=rfr 8
 go_wp2_with fail
 refine bodyPost_ret (v:=stV ⟨6,[],s1,[],[],0,0,0,at_⟩ (.slice none 0 0) (.slice none 0 0)) (by simp [results,Tryz.results73,go_sem,stV,World.cell?_setCell_other,World.cell?_setCell_same',r0,r1,r2,r3,r4,r5,r6,r7,r8];try rfl) rfl ?_
 refine ⟨⟨⟨6,[],s1,[],[],0,0,0,at_⟩,i1,e1,p1⟩,_,_,rfl,?_,SlN.keep W1.out.ne W1.out.fe (by omega) ((((((((((Keep.refl w.heap.size X1).set 0 _).set 1 _).set 2 _).set 3 _).set 4 _).set 5 _).set 6 _).set 7 _).set 8 _),SlN.keep W1.out.nf W1.out.ff (by omega) ((((((((((Keep.refl w.heap.size X1).set 0 _).set 1 _).set 2 _).set 3 _).set 4 _).set 5 _).set 6 _).set 7 _).set 8 _),W1.out.fe.mono (by omega),W1.out.ff.mono (by omega),(((((((((W1.out.kp.above (Nat.le_refl _) 0 _).above (Nat.le_refl _) 1 _).above (Nat.le_refl _) 2 _).above (Nat.le_refl _) 3 _).above (Nat.le_refl _) 4 _).above (Nat.le_refl _) 5 _).above (Nat.le_refl _) 6 _).above (Nat.le_refl _) 7 _).above (Nat.le_refl _) 8 _),(((((((((W1.out.pq.other (Nat.ne_of_lt hgq)).other (Nat.ne_of_lt hgq)).other (Nat.ne_of_lt hgq)).other (Nat.ne_of_lt hgq)).other (Nat.ne_of_lt hgq)).other (Nat.ne_of_lt hgq)).other (Nat.ne_of_lt hgq)).other (Nat.ne_of_lt hgq)).other (Nat.ne_of_lt hgq)),hb1⟩
 rw [show opsS 6 = [.name] from rfl]
 simp only [runS,List.foldl,stepS,zeroS,Q1.out]
 rfl
theorem qplain7_c (l:List Tok) (hl:l.length≤100000) (htx:∀ t∈l,t.text.length≤1000000) (g:Nat) (v o:Value) (i:Nat) (hi:i≤1000000) (p at_:Int) (w:World) (hp:PQ w g v i 0 p o) (hc:Ctx g v l w) :
 Calls Tryz.prog 73 #[.pointer (some ⟨g,0,none⟩),.int .i64 7,.int .i64 at_] w (PlPost l 7 at_ g v o i p w):=by
 have HPA:=Lib.hid hp
 have h0:=ws_new l g v o w i p { zeroS with kind:=7,pos:=at_ } hp hc
 have HKW:Hid (∀ u,Keep g w u→Ctx g v l u):=fun u hu=>hc.keep hu hp.lt
 clear hp hc
 unfold zeroS at h0
 simp only at h0
 go_enter Tryz.func73,Tryz.ntmps73
 go_upto_region 2 with fail
 have hse:(⟨#[]⟩:ByteArray)=str []:=rfl
 rw [hse]
 generalize World.alloc (World.alloc _ _) _=X0 at h0 ⊢
 have W0:=Lib.hid h0
 clear h0
 go_upto_region 33 with fail
 have hgq:g < w.heap.size:=HPA.out.lt
 obtain ⟨bl,b0,b1,b2,b3,b4,b5,b6,b7,b8,bfr⟩:=W0.out.sb
 obtain ⟨rl,r0,r1,r2,r3,r4,r5,r6,r7,r8,rfr⟩:=W0.out.rb
 have f0:=rfr 0;have f1:=rfr 1;have f2:=rfr 2;have f3:=rfr 3;have f4:=rfr 4;have f5:=rfr 5;have f6:=rfr 6;have f7:=rfr 7;have f8:=rfr 8
 go_wp2_with fail
 refine bodyPost_ret (v:=stV ⟨7,[],[],[],[],0,0,0,at_⟩ (.slice none 0 0) (.slice none 0 0)) (by simp [results,Tryz.results73,go_sem,stV,World.cell?_setCell_other,World.cell?_setCell_same',r0,r1,r2,r3,r4,r5,r6,r7,r8];try rfl) rfl ?_
 refine ⟨⟨⟨7,[],[],[],[],0,0,0,at_⟩,i,0,p⟩,_,_,rfl,?_,SlN.keep W0.out.ne W0.out.fe (by omega) ((((((((((Keep.refl w.heap.size X0).set 0 _).set 1 _).set 2 _).set 3 _).set 4 _).set 5 _).set 6 _).set 7 _).set 8 _),SlN.keep W0.out.nf W0.out.ff (by omega) ((((((((((Keep.refl w.heap.size X0).set 0 _).set 1 _).set 2 _).set 3 _).set 4 _).set 5 _).set 6 _).set 7 _).set 8 _),W0.out.fe.mono (by omega),W0.out.ff.mono (by omega),(((((((((W0.out.kp.above (Nat.le_refl _) 0 _).above (Nat.le_refl _) 1 _).above (Nat.le_refl _) 2 _).above (Nat.le_refl _) 3 _).above (Nat.le_refl _) 4 _).above (Nat.le_refl _) 5 _).above (Nat.le_refl _) 6 _).above (Nat.le_refl _) 7 _).above (Nat.le_refl _) 8 _),(((((((((W0.out.pq.other (Nat.ne_of_lt hgq)).other (Nat.ne_of_lt hgq)).other (Nat.ne_of_lt hgq)).other (Nat.ne_of_lt hgq)).other (Nat.ne_of_lt hgq)).other (Nat.ne_of_lt hgq)).other (Nat.ne_of_lt hgq)).other (Nat.ne_of_lt hgq)).other (Nat.ne_of_lt hgq)),hi⟩
 rw [show opsS 7 = [] from rfl]
 simp only [runS, List.foldl, zeroS]
 rfl
theorem qplain8_c (l:List Tok) (hl:l.length≤100000) (htx:∀ t∈l,t.text.length≤1000000) (g:Nat) (v o:Value) (i:Nat) (hi:i≤1000000) (p at_:Int) (w:World) (hp:PQ w g v i 0 p o) (hc:Ctx g v l w) :
 Calls Tryz.prog 73 #[.pointer (some ⟨g,0,none⟩),.int .i64 8,.int .i64 at_] w (PlPost l 8 at_ g v o i p w):=by
 have HPA:=Lib.hid hp
 have h0:=ws_new l g v o w i p { zeroS with kind:=8,pos:=at_ } hp hc
 have HKW:Hid (∀ u,Keep g w u→Ctx g v l u):=fun u hu=>hc.keep hu hp.lt
 clear hp hc
 unfold zeroS at h0
 simp only at h0
 go_enter Tryz.func73,Tryz.ntmps73
 go_upto_region 2 with fail
 have hse:(⟨#[]⟩:ByteArray)=str []:=rfl
 rw [hse]
 generalize World.alloc (World.alloc _ _) _=X0 at h0 ⊢
 have W0:=Lib.hid h0
 clear h0
 go_upto_region 33 with fail
 have hgq:g < w.heap.size:=HPA.out.lt
 obtain ⟨bl,b0,b1,b2,b3,b4,b5,b6,b7,b8,bfr⟩:=W0.out.sb
 obtain ⟨rl,r0,r1,r2,r3,r4,r5,r6,r7,r8,rfr⟩:=W0.out.rb
 have f0:=rfr 0;have f1:=rfr 1;have f2:=rfr 2;have f3:=rfr 3;have f4:=rfr 4;have f5:=rfr 5;have f6:=rfr 6;have f7:=rfr 7;have f8:=rfr 8
 go_wp2_with fail
 refine bodyPost_ret (v:=stV ⟨8,[],[],[],[],0,0,0,at_⟩ (.slice none 0 0) (.slice none 0 0)) (by simp [results,Tryz.results73,go_sem,stV,World.cell?_setCell_other,World.cell?_setCell_same',r0,r1,r2,r3,r4,r5,r6,r7,r8];try rfl) rfl ?_
 refine ⟨⟨⟨8,[],[],[],[],0,0,0,at_⟩,i,0,p⟩,_,_,rfl,?_,SlN.keep W0.out.ne W0.out.fe (by omega) ((((((((((Keep.refl w.heap.size X0).set 0 _).set 1 _).set 2 _).set 3 _).set 4 _).set 5 _).set 6 _).set 7 _).set 8 _),SlN.keep W0.out.nf W0.out.ff (by omega) ((((((((((Keep.refl w.heap.size X0).set 0 _).set 1 _).set 2 _).set 3 _).set 4 _).set 5 _).set 6 _).set 7 _).set 8 _),W0.out.fe.mono (by omega),W0.out.ff.mono (by omega),(((((((((W0.out.kp.above (Nat.le_refl _) 0 _).above (Nat.le_refl _) 1 _).above (Nat.le_refl _) 2 _).above (Nat.le_refl _) 3 _).above (Nat.le_refl _) 4 _).above (Nat.le_refl _) 5 _).above (Nat.le_refl _) 6 _).above (Nat.le_refl _) 7 _).above (Nat.le_refl _) 8 _),(((((((((W0.out.pq.other (Nat.ne_of_lt hgq)).other (Nat.ne_of_lt hgq)).other (Nat.ne_of_lt hgq)).other (Nat.ne_of_lt hgq)).other (Nat.ne_of_lt hgq)).other (Nat.ne_of_lt hgq)).other (Nat.ne_of_lt hgq)).other (Nat.ne_of_lt hgq)).other (Nat.ne_of_lt hgq)),hi⟩
 rw [show opsS 8 = [] from rfl]
 simp only [runS, List.foldl, zeroS]
 rfl
theorem qplain9_c (l:List Tok) (hl:l.length≤100000) (htx:∀ t∈l,t.text.length≤1000000) (g:Nat) (v o:Value) (i:Nat) (hi:i≤1000000) (p at_:Int) (w:World) (hp:PQ w g v i 0 p o) (hc:Ctx g v l w) :
 Calls Tryz.prog 73 #[.pointer (some ⟨g,0,none⟩),.int .i64 9,.int .i64 at_] w (PlPost l 9 at_ g v o i p w):=by
 have HPA:=Lib.hid hp
 have h0:=ws_new l g v o w i p { zeroS with kind:=9,pos:=at_ } hp hc
 have HKW:Hid (∀ u,Keep g w u→Ctx g v l u):=fun u hu=>hc.keep hu hp.lt
 clear hp hc
 unfold zeroS at h0
 simp only at h0
 go_enter Tryz.func73,Tryz.ntmps73
 go_upto_region 2 with fail
 have hse:(⟨#[]⟩:ByteArray)=str []:=rfl
 rw [hse]
 generalize World.alloc (World.alloc _ _) _=X0 at h0 ⊢
 have W0:=Lib.hid h0
 clear h0
 obtain ⟨⟨s1,i1,e1,p1⟩,hq⟩:∃ a,After 0 p i (nameR l i) [] = a:=⟨_,rfl⟩
 have hb1:i1≤1000000:=by have h:=after_i (e:=0) (p:=p) (r:=nameR l i) (d:=[]) hi (fun x j hr=>by have:=nameR_good hr;omega);rw [hq] at h;exact h
 have HN:=Lib.hid (qname_c l hl htx g v o i (by omega) 0 p X0 W0.out.pq W0.out.ctx)
 rw [hq] at HN
 have Q1:=Lib.hid hq
 clear hq
 have hqx:w.heap.size+2≤X0.heap.size:=by have:=W0.out.sb.lt;omega
 go_upto_region 33 with (go_at_call 98;refine (HN.out).mono ?_;rintro r w1 ⟨x1,rfl,hx1,hk1,hp1⟩;obtain rfl:=hx1;have b1:=(W0.out.keep hk1 hp1).sb.c2;have bf:=(W0.out.keep hk1 hp1).sb.fr 2)
 have W1:=Lib.hid ((W0.out.keep hk1 hp1).name s1)
 clear b1 bf HN hk1 hp1 hqx
 generalize World.setCell w1 _ _=X1 at W1 ⊢
 have hgq:g < w.heap.size:=HPA.out.lt
 obtain ⟨bl,b0,b1,b2,b3,b4,b5,b6,b7,b8,bfr⟩:=W1.out.sb
 obtain ⟨rl,r0,r1,r2,r3,r4,r5,r6,r7,r8,rfr⟩:=W1.out.rb
 have f0:=rfr 0;have f1:=rfr 1;have f2:=rfr 2;have f3:=rfr 3;have f4:=rfr 4;have f5:=rfr 5;have f6:=rfr 6;have f7:=rfr 7;have f8:=rfr 8
 go_wp2_with fail
 refine bodyPost_ret (v:=stV ⟨9,[],s1,[],[],0,0,0,at_⟩ (.slice none 0 0) (.slice none 0 0)) (by simp [results,Tryz.results73,go_sem,stV,World.cell?_setCell_other,World.cell?_setCell_same',r0,r1,r2,r3,r4,r5,r6,r7,r8];try rfl) rfl ?_
 refine ⟨⟨⟨9,[],s1,[],[],0,0,0,at_⟩,i1,e1,p1⟩,_,_,rfl,?_,SlN.keep W1.out.ne W1.out.fe (by omega) ((((((((((Keep.refl w.heap.size X1).set 0 _).set 1 _).set 2 _).set 3 _).set 4 _).set 5 _).set 6 _).set 7 _).set 8 _),SlN.keep W1.out.nf W1.out.ff (by omega) ((((((((((Keep.refl w.heap.size X1).set 0 _).set 1 _).set 2 _).set 3 _).set 4 _).set 5 _).set 6 _).set 7 _).set 8 _),W1.out.fe.mono (by omega),W1.out.ff.mono (by omega),(((((((((W1.out.kp.above (Nat.le_refl _) 0 _).above (Nat.le_refl _) 1 _).above (Nat.le_refl _) 2 _).above (Nat.le_refl _) 3 _).above (Nat.le_refl _) 4 _).above (Nat.le_refl _) 5 _).above (Nat.le_refl _) 6 _).above (Nat.le_refl _) 7 _).above (Nat.le_refl _) 8 _),(((((((((W1.out.pq.other (Nat.ne_of_lt hgq)).other (Nat.ne_of_lt hgq)).other (Nat.ne_of_lt hgq)).other (Nat.ne_of_lt hgq)).other (Nat.ne_of_lt hgq)).other (Nat.ne_of_lt hgq)).other (Nat.ne_of_lt hgq)).other (Nat.ne_of_lt hgq)).other (Nat.ne_of_lt hgq)),hb1⟩
 rw [show opsS 9 = [.name] from rfl]
 simp only [runS,List.foldl,stepS,zeroS,Q1.out]
 rfl
theorem qplain10_c (l:List Tok) (hl:l.length≤100000) (htx:∀ t∈l,t.text.length≤1000000) (g:Nat) (v o:Value) (i:Nat) (hi:i≤1000000) (p at_:Int) (w:World) (hp:PQ w g v i 0 p o) (hc:Ctx g v l w) :
 Calls Tryz.prog 73 #[.pointer (some ⟨g,0,none⟩),.int .i64 10,.int .i64 at_] w (PlPost l 10 at_ g v o i p w):=by
 have HPA:=Lib.hid hp
 have h0:=ws_new l g v o w i p { zeroS with kind:=10,pos:=at_ } hp hc
 have HKW:Hid (∀ u,Keep g w u→Ctx g v l u):=fun u hu=>hc.keep hu hp.lt
 clear hp hc
 unfold zeroS at h0
 simp only at h0
 go_enter Tryz.func73,Tryz.ntmps73
 go_upto_region 2 with fail
 have hse:(⟨#[]⟩:ByteArray)=str []:=rfl
 rw [hse]
 generalize World.alloc (World.alloc _ _) _=X0 at h0 ⊢
 have W0:=Lib.hid h0
 clear h0
 obtain ⟨⟨s1,i1,e1,p1⟩,hq⟩:∃ a,After 0 p i (nameR l i) [] = a:=⟨_,rfl⟩
 have hb1:i1≤1000000:=by have h:=after_i (e:=0) (p:=p) (r:=nameR l i) (d:=[]) hi (fun x j hr=>by have:=nameR_good hr;omega);rw [hq] at h;exact h
 have HN:=Lib.hid (qname_c l hl htx g v o i (by omega) 0 p X0 W0.out.pq W0.out.ctx)
 rw [hq] at HN
 have Q1:=Lib.hid hq
 clear hq
 have hqx:w.heap.size+2≤X0.heap.size:=by have:=W0.out.sb.lt;omega
 go_upto_region 33 with (go_at_call 98;refine (HN.out).mono ?_;rintro r w1 ⟨x1,rfl,hx1,hk1,hp1⟩;obtain rfl:=hx1;have b1:=(W0.out.keep hk1 hp1).sb.c2;have bf:=(W0.out.keep hk1 hp1).sb.fr 2)
 have W1:=Lib.hid ((W0.out.keep hk1 hp1).name s1)
 clear b1 bf HN hk1 hp1 hqx
 generalize World.setCell w1 _ _=X1 at W1 ⊢
 have hgq:g < w.heap.size:=HPA.out.lt
 obtain ⟨bl,b0,b1,b2,b3,b4,b5,b6,b7,b8,bfr⟩:=W1.out.sb
 obtain ⟨rl,r0,r1,r2,r3,r4,r5,r6,r7,r8,rfr⟩:=W1.out.rb
 have f0:=rfr 0;have f1:=rfr 1;have f2:=rfr 2;have f3:=rfr 3;have f4:=rfr 4;have f5:=rfr 5;have f6:=rfr 6;have f7:=rfr 7;have f8:=rfr 8
 go_wp2_with fail
 refine bodyPost_ret (v:=stV ⟨10,[],s1,[],[],0,0,0,at_⟩ (.slice none 0 0) (.slice none 0 0)) (by simp [results,Tryz.results73,go_sem,stV,World.cell?_setCell_other,World.cell?_setCell_same',r0,r1,r2,r3,r4,r5,r6,r7,r8];try rfl) rfl ?_
 refine ⟨⟨⟨10,[],s1,[],[],0,0,0,at_⟩,i1,e1,p1⟩,_,_,rfl,?_,SlN.keep W1.out.ne W1.out.fe (by omega) ((((((((((Keep.refl w.heap.size X1).set 0 _).set 1 _).set 2 _).set 3 _).set 4 _).set 5 _).set 6 _).set 7 _).set 8 _),SlN.keep W1.out.nf W1.out.ff (by omega) ((((((((((Keep.refl w.heap.size X1).set 0 _).set 1 _).set 2 _).set 3 _).set 4 _).set 5 _).set 6 _).set 7 _).set 8 _),W1.out.fe.mono (by omega),W1.out.ff.mono (by omega),(((((((((W1.out.kp.above (Nat.le_refl _) 0 _).above (Nat.le_refl _) 1 _).above (Nat.le_refl _) 2 _).above (Nat.le_refl _) 3 _).above (Nat.le_refl _) 4 _).above (Nat.le_refl _) 5 _).above (Nat.le_refl _) 6 _).above (Nat.le_refl _) 7 _).above (Nat.le_refl _) 8 _),(((((((((W1.out.pq.other (Nat.ne_of_lt hgq)).other (Nat.ne_of_lt hgq)).other (Nat.ne_of_lt hgq)).other (Nat.ne_of_lt hgq)).other (Nat.ne_of_lt hgq)).other (Nat.ne_of_lt hgq)).other (Nat.ne_of_lt hgq)).other (Nat.ne_of_lt hgq)).other (Nat.ne_of_lt hgq)),hb1⟩
 rw [show opsS 10 = [.name] from rfl]
 simp only [runS,List.foldl,stepS,zeroS,Q1.out]
 rfl
theorem qplain11_c (l:List Tok) (hl:l.length≤100000) (htx:∀ t∈l,t.text.length≤1000000) (g:Nat) (v o:Value) (i:Nat) (hi:i≤1000000) (p at_:Int) (w:World) (hp:PQ w g v i 0 p o) (hc:Ctx g v l w) :
 Calls Tryz.prog 73 #[.pointer (some ⟨g,0,none⟩),.int .i64 11,.int .i64 at_] w (PlPost l 11 at_ g v o i p w):=by
 have HPA:=Lib.hid hp
 have h0:=ws_new l g v o w i p { zeroS with kind:=11,pos:=at_ } hp hc
 have HKW:Hid (∀ u,Keep g w u→Ctx g v l u):=fun u hu=>hc.keep hu hp.lt
 clear hp hc
 unfold zeroS at h0
 simp only at h0
 go_enter Tryz.func73,Tryz.ntmps73
 go_upto_region 2 with fail
 have hse:(⟨#[]⟩:ByteArray)=str []:=rfl
 rw [hse]
 generalize World.alloc (World.alloc _ _) _=X0 at h0 ⊢
 have W0:=Lib.hid h0
 clear h0
 obtain ⟨⟨s1,i1,e1,p1⟩,hq⟩:∃ a,After 0 p i (exprR l i) [] = a:=⟨_,rfl⟩
 have hb1:i1≤1000000:=by have h:=after_i (e:=0) (p:=p) (r:=exprR l i) (d:=[]) hi (fun x j hr=>by have:=exprR_good hr;omega);rw [hq] at h;exact h
 have HN:=Lib.hid (qexpr_c l hl htx g v o i (by omega) 0 p X0 W0.out.pq W0.out.ctx)
 rw [hq] at HN
 have Q1:=Lib.hid hq
 clear hq
 have hqx:w.heap.size+2≤X0.heap.size:=by have:=W0.out.sb.lt;omega
 go_upto_region 33 with (go_at_call 99;refine (HN.out).mono ?_;rintro r w1 ⟨x1,rfl,hx1,hk1,hp1⟩;obtain ⟨hx2,hx3⟩:=hx1;obtain ⟨A1,c1,rfl,_⟩:=Nods.shape hx2;have b1:=(W0.out.keep hk1 hp1).sb.c3;have bf:=(W0.out.keep hk1 hp1).sb.fr 3)
 have W1:=Lib.hid ((W0.out.keep hk1 hp1).nodes s1 _ hx2 (hx3.mono hqx))
 clear b1 bf HN hk1 hp1 hx2 hx3 hqx
 generalize World.setCell w1 _ _=X1 at W1 ⊢
 have hgq:g < w.heap.size:=HPA.out.lt
 obtain ⟨bl,b0,b1,b2,b3,b4,b5,b6,b7,b8,bfr⟩:=W1.out.sb
 obtain ⟨rl,r0,r1,r2,r3,r4,r5,r6,r7,r8,rfr⟩:=W1.out.rb
 have f0:=rfr 0;have f1:=rfr 1;have f2:=rfr 2;have f3:=rfr 3;have f4:=rfr 4;have f5:=rfr 5;have f6:=rfr 6;have f7:=rfr 7;have f8:=rfr 8
 go_wp2_with fail
 refine bodyPost_ret (v:=stV ⟨11,[],[],s1,[],0,0,0,at_⟩ (.slice A1 s1.length c1) (.slice none 0 0)) (by simp [results,Tryz.results73,go_sem,stV,World.cell?_setCell_other,World.cell?_setCell_same',r0,r1,r2,r3,r4,r5,r6,r7,r8];try rfl) rfl ?_
 refine ⟨⟨⟨11,[],[],s1,[],0,0,0,at_⟩,i1,e1,p1⟩,_,_,rfl,?_,SlN.keep W1.out.ne W1.out.fe (by omega) ((((((((((Keep.refl w.heap.size X1).set 0 _).set 1 _).set 2 _).set 3 _).set 4 _).set 5 _).set 6 _).set 7 _).set 8 _),SlN.keep W1.out.nf W1.out.ff (by omega) ((((((((((Keep.refl w.heap.size X1).set 0 _).set 1 _).set 2 _).set 3 _).set 4 _).set 5 _).set 6 _).set 7 _).set 8 _),W1.out.fe.mono (by omega),W1.out.ff.mono (by omega),(((((((((W1.out.kp.above (Nat.le_refl _) 0 _).above (Nat.le_refl _) 1 _).above (Nat.le_refl _) 2 _).above (Nat.le_refl _) 3 _).above (Nat.le_refl _) 4 _).above (Nat.le_refl _) 5 _).above (Nat.le_refl _) 6 _).above (Nat.le_refl _) 7 _).above (Nat.le_refl _) 8 _),(((((((((W1.out.pq.other (Nat.ne_of_lt hgq)).other (Nat.ne_of_lt hgq)).other (Nat.ne_of_lt hgq)).other (Nat.ne_of_lt hgq)).other (Nat.ne_of_lt hgq)).other (Nat.ne_of_lt hgq)).other (Nat.ne_of_lt hgq)).other (Nat.ne_of_lt hgq)).other (Nat.ne_of_lt hgq)),hb1⟩
 rw [show opsS 11 = [.nodes] from rfl]
 simp only [runS,List.foldl,stepS,zeroS,Q1.out]
 rfl
theorem qplain12_c (l:List Tok) (hl:l.length≤100000) (htx:∀ t∈l,t.text.length≤1000000) (g:Nat) (v o:Value) (i:Nat) (hi:i≤1000000) (p at_:Int) (w:World) (hp:PQ w g v i 0 p o) (hc:Ctx g v l w) :
 Calls Tryz.prog 73 #[.pointer (some ⟨g,0,none⟩),.int .i64 12,.int .i64 at_] w (PlPost l 12 at_ g v o i p w):=by
 have HPA:=Lib.hid hp
 have h0:=ws_new l g v o w i p { zeroS with kind:=12,pos:=at_ } hp hc
 have HKW:Hid (∀ u,Keep g w u→Ctx g v l u):=fun u hu=>hc.keep hu hp.lt
 clear hp hc
 unfold zeroS at h0
 simp only at h0
 go_enter Tryz.func73,Tryz.ntmps73
 go_upto_region 2 with fail
 have hse:(⟨#[]⟩:ByteArray)=str []:=rfl
 rw [hse]
 generalize World.alloc (World.alloc _ _) _=X0 at h0 ⊢
 have W0:=Lib.hid h0
 clear h0
 obtain ⟨⟨s1,i1,e1,p1⟩,hq⟩:∃ a,After 0 p i (roundsR l i) 0=a:=⟨_,rfl⟩
 have hb1:i1≤1000000:=by have h:=after_i (e:=0) (p:=p) (r:=roundsR l i) (d:=0) hi (fun x j hr=>by have:=roundsR_good hr;omega);rw [hq] at h;exact h
 have HN:=Lib.hid (qtimes_c l hl g v o i (by omega) 0 p X0 W0.out.pq W0.out.ctx)
 rw [hq] at HN
 have Q1:=Lib.hid hq
 clear hq
 have hqx:w.heap.size+2≤X0.heap.size:=by have:=W0.out.sb.lt;omega
 go_upto_region 33 with (go_at_call 100;refine (HN.out).mono ?_;rintro r w1 ⟨x1,rfl,hx1,hk1,hp1⟩;obtain rfl:=hx1;have b1:=(W0.out.keep hk1 hp1).sb.c5;have bf:=(W0.out.keep hk1 hp1).sb.fr 5)
 have W1:=Lib.hid ((W0.out.keep hk1 hp1).num s1)
 clear b1 bf HN hk1 hp1 hqx
 generalize World.setCell w1 _ _=X1 at W1 ⊢
 have hgq:g < w.heap.size:=HPA.out.lt
 obtain ⟨bl,b0,b1,b2,b3,b4,b5,b6,b7,b8,bfr⟩:=W1.out.sb
 obtain ⟨rl,r0,r1,r2,r3,r4,r5,r6,r7,r8,rfr⟩:=W1.out.rb
 have f0:=rfr 0;have f1:=rfr 1;have f2:=rfr 2;have f3:=rfr 3;have f4:=rfr 4;have f5:=rfr 5;have f6:=rfr 6;have f7:=rfr 7;have f8:=rfr 8
 go_wp2_with fail
 refine bodyPost_ret (v:=stV ⟨12,[],[],[],[],s1,0,0,at_⟩ (.slice none 0 0) (.slice none 0 0)) (by simp [results,Tryz.results73,go_sem,stV,World.cell?_setCell_other,World.cell?_setCell_same',r0,r1,r2,r3,r4,r5,r6,r7,r8];try rfl) rfl ?_
 refine ⟨⟨⟨12,[],[],[],[],s1,0,0,at_⟩,i1,e1,p1⟩,_,_,rfl,?_,SlN.keep W1.out.ne W1.out.fe (by omega) ((((((((((Keep.refl w.heap.size X1).set 0 _).set 1 _).set 2 _).set 3 _).set 4 _).set 5 _).set 6 _).set 7 _).set 8 _),SlN.keep W1.out.nf W1.out.ff (by omega) ((((((((((Keep.refl w.heap.size X1).set 0 _).set 1 _).set 2 _).set 3 _).set 4 _).set 5 _).set 6 _).set 7 _).set 8 _),W1.out.fe.mono (by omega),W1.out.ff.mono (by omega),(((((((((W1.out.kp.above (Nat.le_refl _) 0 _).above (Nat.le_refl _) 1 _).above (Nat.le_refl _) 2 _).above (Nat.le_refl _) 3 _).above (Nat.le_refl _) 4 _).above (Nat.le_refl _) 5 _).above (Nat.le_refl _) 6 _).above (Nat.le_refl _) 7 _).above (Nat.le_refl _) 8 _),(((((((((W1.out.pq.other (Nat.ne_of_lt hgq)).other (Nat.ne_of_lt hgq)).other (Nat.ne_of_lt hgq)).other (Nat.ne_of_lt hgq)).other (Nat.ne_of_lt hgq)).other (Nat.ne_of_lt hgq)).other (Nat.ne_of_lt hgq)).other (Nat.ne_of_lt hgq)).other (Nat.ne_of_lt hgq)),hb1⟩
 rw [show opsS 12 = [.times] from rfl]
 simp only [runS,List.foldl,stepS,zeroS,Q1.out]
 rfl
theorem qplain13_c (l:List Tok) (hl:l.length≤100000) (htx:∀ t∈l,t.text.length≤1000000) (g:Nat) (v o:Value) (i:Nat) (hi:i≤1000000) (p at_:Int) (w:World) (hp:PQ w g v i 0 p o) (hc:Ctx g v l w) :
 Calls Tryz.prog 73 #[.pointer (some ⟨g,0,none⟩),.int .i64 13,.int .i64 at_] w (PlPost l 13 at_ g v o i p w):=by
 have HPA:=Lib.hid hp
 have h0:=ws_new l g v o w i p { zeroS with kind:=13,pos:=at_ } hp hc
 have HKW:Hid (∀ u,Keep g w u→Ctx g v l u):=fun u hu=>hc.keep hu hp.lt
 clear hp hc
 unfold zeroS at h0
 simp only at h0
 go_enter Tryz.func73,Tryz.ntmps73
 go_upto_region 2 with fail
 have hse:(⟨#[]⟩:ByteArray)=str []:=rfl
 rw [hse]
 generalize World.alloc (World.alloc _ _) _=X0 at h0 ⊢
 have W0:=Lib.hid h0
 clear h0
 go_upto_region 33 with fail
 have hgq:g < w.heap.size:=HPA.out.lt
 obtain ⟨bl,b0,b1,b2,b3,b4,b5,b6,b7,b8,bfr⟩:=W0.out.sb
 obtain ⟨rl,r0,r1,r2,r3,r4,r5,r6,r7,r8,rfr⟩:=W0.out.rb
 have f0:=rfr 0;have f1:=rfr 1;have f2:=rfr 2;have f3:=rfr 3;have f4:=rfr 4;have f5:=rfr 5;have f6:=rfr 6;have f7:=rfr 7;have f8:=rfr 8
 go_wp2_with fail
 refine bodyPost_ret (v:=stV ⟨13,[],[],[],[],0,0,0,at_⟩ (.slice none 0 0) (.slice none 0 0)) (by simp [results,Tryz.results73,go_sem,stV,World.cell?_setCell_other,World.cell?_setCell_same',r0,r1,r2,r3,r4,r5,r6,r7,r8];try rfl) rfl ?_
 refine ⟨⟨⟨13,[],[],[],[],0,0,0,at_⟩,i,0,p⟩,_,_,rfl,?_,SlN.keep W0.out.ne W0.out.fe (by omega) ((((((((((Keep.refl w.heap.size X0).set 0 _).set 1 _).set 2 _).set 3 _).set 4 _).set 5 _).set 6 _).set 7 _).set 8 _),SlN.keep W0.out.nf W0.out.ff (by omega) ((((((((((Keep.refl w.heap.size X0).set 0 _).set 1 _).set 2 _).set 3 _).set 4 _).set 5 _).set 6 _).set 7 _).set 8 _),W0.out.fe.mono (by omega),W0.out.ff.mono (by omega),(((((((((W0.out.kp.above (Nat.le_refl _) 0 _).above (Nat.le_refl _) 1 _).above (Nat.le_refl _) 2 _).above (Nat.le_refl _) 3 _).above (Nat.le_refl _) 4 _).above (Nat.le_refl _) 5 _).above (Nat.le_refl _) 6 _).above (Nat.le_refl _) 7 _).above (Nat.le_refl _) 8 _),(((((((((W0.out.pq.other (Nat.ne_of_lt hgq)).other (Nat.ne_of_lt hgq)).other (Nat.ne_of_lt hgq)).other (Nat.ne_of_lt hgq)).other (Nat.ne_of_lt hgq)).other (Nat.ne_of_lt hgq)).other (Nat.ne_of_lt hgq)).other (Nat.ne_of_lt hgq)).other (Nat.ne_of_lt hgq)),hi⟩
 rw [show opsS 13 = [] from rfl]
 simp only [runS, List.foldl, zeroS]
 rfl
theorem qplain14_c (l:List Tok) (hl:l.length≤100000) (htx:∀ t∈l,t.text.length≤1000000) (g:Nat) (v o:Value) (i:Nat) (hi:i≤1000000) (p at_:Int) (w:World) (hp:PQ w g v i 0 p o) (hc:Ctx g v l w) :
 Calls Tryz.prog 73 #[.pointer (some ⟨g,0,none⟩),.int .i64 14,.int .i64 at_] w (PlPost l 14 at_ g v o i p w):=by
 have HPA:=Lib.hid hp
 have h0:=ws_new l g v o w i p { zeroS with kind:=14,pos:=at_ } hp hc
 have HKW:Hid (∀ u,Keep g w u→Ctx g v l u):=fun u hu=>hc.keep hu hp.lt
 clear hp hc
 unfold zeroS at h0
 simp only at h0
 go_enter Tryz.func73,Tryz.ntmps73
 go_upto_region 2 with fail
 have hse:(⟨#[]⟩:ByteArray)=str []:=rfl
 rw [hse]
 generalize World.alloc (World.alloc _ _) _=X0 at h0 ⊢
 have W0:=Lib.hid h0
 clear h0
 obtain ⟨⟨s1,i1,e1,p1⟩,hq⟩:∃ a,After 0 p i (exprR l i) [] = a:=⟨_,rfl⟩
 have hb1:i1≤1000000:=by have h:=after_i (e:=0) (p:=p) (r:=exprR l i) (d:=[]) hi (fun x j hr=>by have:=exprR_good hr;omega);rw [hq] at h;exact h
 have HN:=Lib.hid (qexpr_c l hl htx g v o i (by omega) 0 p X0 W0.out.pq W0.out.ctx)
 rw [hq] at HN
 have Q1:=Lib.hid hq
 clear hq
 have hqx:w.heap.size+2≤X0.heap.size:=by have:=W0.out.sb.lt;omega
 go_upto_region 33 with (go_at_call 99;refine (HN.out).mono ?_;rintro r w1 ⟨x1,rfl,hx1,hk1,hp1⟩;obtain ⟨hx2,hx3⟩:=hx1;obtain ⟨A1,c1,rfl,_⟩:=Nods.shape hx2;have b1:=(W0.out.keep hk1 hp1).sb.c3;have bf:=(W0.out.keep hk1 hp1).sb.fr 3)
 have W1:=Lib.hid ((W0.out.keep hk1 hp1).nodes s1 _ hx2 (hx3.mono hqx))
 clear b1 bf HN hk1 hp1 hx2 hx3 hqx
 generalize World.setCell w1 _ _=X1 at W1 ⊢
 have hgq:g < w.heap.size:=HPA.out.lt
 obtain ⟨bl,b0,b1,b2,b3,b4,b5,b6,b7,b8,bfr⟩:=W1.out.sb
 obtain ⟨rl,r0,r1,r2,r3,r4,r5,r6,r7,r8,rfr⟩:=W1.out.rb
 have f0:=rfr 0;have f1:=rfr 1;have f2:=rfr 2;have f3:=rfr 3;have f4:=rfr 4;have f5:=rfr 5;have f6:=rfr 6;have f7:=rfr 7;have f8:=rfr 8
 go_wp2_with fail
 refine bodyPost_ret (v:=stV ⟨14,[],[],s1,[],0,0,0,at_⟩ (.slice A1 s1.length c1) (.slice none 0 0)) (by simp [results,Tryz.results73,go_sem,stV,World.cell?_setCell_other,World.cell?_setCell_same',r0,r1,r2,r3,r4,r5,r6,r7,r8];try rfl) rfl ?_
 refine ⟨⟨⟨14,[],[],s1,[],0,0,0,at_⟩,i1,e1,p1⟩,_,_,rfl,?_,SlN.keep W1.out.ne W1.out.fe (by omega) ((((((((((Keep.refl w.heap.size X1).set 0 _).set 1 _).set 2 _).set 3 _).set 4 _).set 5 _).set 6 _).set 7 _).set 8 _),SlN.keep W1.out.nf W1.out.ff (by omega) ((((((((((Keep.refl w.heap.size X1).set 0 _).set 1 _).set 2 _).set 3 _).set 4 _).set 5 _).set 6 _).set 7 _).set 8 _),W1.out.fe.mono (by omega),W1.out.ff.mono (by omega),(((((((((W1.out.kp.above (Nat.le_refl _) 0 _).above (Nat.le_refl _) 1 _).above (Nat.le_refl _) 2 _).above (Nat.le_refl _) 3 _).above (Nat.le_refl _) 4 _).above (Nat.le_refl _) 5 _).above (Nat.le_refl _) 6 _).above (Nat.le_refl _) 7 _).above (Nat.le_refl _) 8 _),(((((((((W1.out.pq.other (Nat.ne_of_lt hgq)).other (Nat.ne_of_lt hgq)).other (Nat.ne_of_lt hgq)).other (Nat.ne_of_lt hgq)).other (Nat.ne_of_lt hgq)).other (Nat.ne_of_lt hgq)).other (Nat.ne_of_lt hgq)).other (Nat.ne_of_lt hgq)).other (Nat.ne_of_lt hgq)),hb1⟩
 rw [show opsS 14 = [.nodes] from rfl]
 simp only [runS,List.foldl,stepS,zeroS,Q1.out]
 rfl
theorem qplain_c (l:List Tok) (hl:l.length≤100000) (htx:∀ t∈l,t.text.length≤1000000) (k:Nat) (h1:1≤k) (h14:k≤14) (g:Nat) (v o:Value) (i:Nat) (hi:i≤1000000) (p at_:Int) (w:World) (hp:PQ w g v i 0 p o) (hc:Ctx g v l w) :
 Calls Tryz.prog 73 #[.pointer (some ⟨g,0,none⟩),.int .i64 k,.int .i64 at_] w (PlPost l k at_ g v o i p w):=by
 have hk:k=1∨k=2∨k=3∨k=4∨k=5∨k=6∨k=7∨k=8∨k=9∨k=10∨k=11∨k=12∨k=13∨k=14:=by omega
 rcases hk with rfl | rfl | rfl | rfl | rfl | rfl | rfl | rfl | rfl | rfl | rfl | rfl | rfl | rfl
 ·exact qplain1_c l hl htx g v o i hi p at_ w hp hc
 ·exact qplain2_c l hl htx g v o i hi p at_ w hp hc
 ·exact qplain3_c l hl htx g v o i hi p at_ w hp hc
 ·exact qplain4_c l hl htx g v o i hi p at_ w hp hc
 ·exact qplain5_c l hl htx g v o i hi p at_ w hp hc
 ·exact qplain6_c l hl htx g v o i hi p at_ w hp hc
 ·exact qplain7_c l hl htx g v o i hi p at_ w hp hc
 ·exact qplain8_c l hl htx g v o i hi p at_ w hp hc
 ·exact qplain9_c l hl htx g v o i hi p at_ w hp hc
 ·exact qplain10_c l hl htx g v o i hi p at_ w hp hc
 ·exact qplain11_c l hl htx g v o i hi p at_ w hp hc
 ·exact qplain12_c l hl htx g v o i hi p at_ w hp hc
 ·exact qplain13_c l hl htx g v o i hi p at_ w hp hc
 ·exact qplain14_c l hl htx g v o i hi p at_ w hp hc
theorem Off.imp {S:Nat→Prop} {w:World} {Q Q':World→Prop} (h:Off S w Q) (hi:∀ u,Q u→Q' u):Off S w Q':=fun w' h1 h2=>hi _ (h w' h1 h2)
def Sts (w:World) (v:Value) (l:List St):Prop:=∃ pl:List Sv,pl.map (·.s)=l∧SlN w v 9 pl.length (pl.flatMap Sv.cells)∧∀ x∈pl,Nods w x.ev x.s.e∧Nods w x.fv x.s.f
theorem SOwn.sts {T:Nat→Prop} {B:Nat} {w:World} {v:Value} {pl:List Sv} (h:SOwn T B w v pl):Sts w v (pl.map (·.s)) :=
 ⟨pl,rfl,sl_of_own h.own,fun x hx=>(h.nods x hx).now⟩
theorem SOwn.keep {T:Nat→Prop} {B g:Nat} {w w':World} {v:Value} {pl:List Sv} (h:SOwn T B w v pl) (hg:g < B) (hT:T g) (hk:Keep g w w'):SOwn T B w' v pl :=
 ⟨row_keep h.own (fun e=>by have:=(h.own.lt g e).1;omega) hk.block,fun x hx=>(h.nods x hx).step hk.size (fun k hlt hn=>hk.block k hlt (fun e=>hn (.inr (e ▸ hT)))) (fun _ _ e=>e)⟩
theorem SOwn.more {T T':Nat→Prop} {B:Nat} {w w':World} {v:Value} {pl:List Sv} (h:SOwn T B w v pl) (hb:Below w.heap.size w w') (hT:∀ k,k < w.heap.size→T' k→T k):SOwn T' B w' v pl :=
 ⟨own_below h.own hb,fun x hx=>(h.nods x hx).step hb.size (fun k hlt _=>hb.block k hlt) (fun k hlt e=>e.elim .inl (fun e=>.inr (hT k hlt e)))⟩
theorem SOwn.mono {T T':Nat→Prop} {B:Nat} {w:World} {v:Value} {pl:List Sv} (h:SOwn T B w v pl) (hT:∀ k,T' k→T k):SOwn T' B w v pl :=
 ⟨h.own,fun x hx=>(h.nods x hx).mono (fun k _ e=>e.elim .inl (fun e=>.inr (hT k e)))⟩
theorem SOwn.cell {T:Nat→Prop} {B b o:Nat} {w:World} {v u:Value} {pl:List Sv} (h:SOwn T B w v pl) (hT:T b) (hne:v.ownBlock≠some b):SOwn T B (w.setCell ⟨b,o,none⟩ u) v pl :=
 ⟨row_keep h.own hne (fun k hk hn=>Below.heap_setCell _ _ _ _ (fun e=>hn (by simpa using e))),fun x hx=>(h.nods x hx).setCell ⟨b,o,none⟩ (.inr hT) u⟩
theorem flat_set (pl:List Sv) (k:Nat) (hk:k < pl.length) (y:Sv):((pl.set k y).flatMap Sv.cells)=(((((((((((pl.flatMap Sv.cells).set (k*9) (.int .i64 y.s.kind)).set (k*9+1) (.string (str y.s.reg))).set (k*9+2) (.string (str y.s.name))).set (k*9+3) y.ev).set (k*9+4) y.fv).set (k*9+5) (.int .i64 y.s.n)).set (k*9+6) (.int .i64 y.s.body)).set (k*9+7) (.int .i64 y.s.els)).set (k*9+8) (.int .i64 y.s.pos))):=by
 induction pl generalizing k with
 | nil=>simp at hk
 | cons x r ih =>
   cases k with
   | zero=>simp [Sv.cells,List.flatMap_cons]
   | succ k =>
     have h:=ih k (by simpa using hk)
     have e:∀ (xs:List Value) (j:Nat) (u:Value),(x.cells++xs).set ((k+1)*9+j) u=x.cells++xs.set (k*9+j) u:=fun xs j u=>by
      rw [List.set_append]
      rw [if_neg (by rw [Sv.cells_len];omega),Sv.cells_len,show (k+1)*9+j - 9=k*9+j by omega]
     rw [List.set_cons_succ,List.flatMap_cons,List.flatMap_cons,h]
     have e0:=fun xs u=>e xs 0 u
     simp only [Nat.add_zero] at e0
     rw [e0,e,e,e,e,e,e,e,e]
theorem SOwn.put {T:Nat→Prop} {B:Nat} {w:World} {v:Value} {pl:List Sv} (h:SOwn T B w v pl) {g:Nat} (hg:v.ownBlock=some g) (k:Nat) (hk:k < pl.length) (y:Sv) (hy:Off (fun k=>v.ownBlock=some k∨T k) w (fun u=>Nods u y.ev y.s.e∧Nods u y.fv y.s.f)) :
 SOwn T B (((((((((w.setCell ⟨g,k*9,none⟩ (.int .i64 y.s.kind)).setCell ⟨g,k*9+1,none⟩ (.string (str y.s.reg))).setCell ⟨g,k*9+2,none⟩ (.string (str y.s.name))).setCell ⟨g,k*9+3,none⟩ y.ev).setCell ⟨g,k*9+4,none⟩ y.fv).setCell ⟨g,k*9+5,none⟩ (.int .i64 y.s.n)).setCell ⟨g,k*9+6,none⟩ (.int .i64 y.s.body)).setCell ⟨g,k*9+7,none⟩ (.int .i64 y.s.els)).setCell ⟨g,k*9+8,none⟩ (.int .i64 y.s.pos)) v (pl.set k y):=by
 refine ⟨?_,fun x hx2=>?_⟩
 ·rw [List.length_set,flat_set pl k hk y]
  exact (own_put (own_put (own_put (own_put (own_put (own_put (own_put (own_put (own_put h.own hg (k*9) (by omega) (.int .i64 y.s.kind)) hg (k*9+1) (by omega) (.string (str y.s.reg))) hg (k*9+2) (by omega) (.string (str y.s.name))) hg (k*9+3) (by omega) y.ev) hg (k*9+4) (by omega) y.fv) hg (k*9+5) (by omega) (.int .i64 y.s.n)) hg (k*9+6) (by omega) (.int .i64 y.s.body)) hg (k*9+7) (by omega) (.int .i64 y.s.els)) hg (k*9+8) (by omega) (.int .i64 y.s.pos))
 ·have hx:Off (fun k=>v.ownBlock=some k∨T k) w (fun u=>Nods u x.ev x.s.e∧Nods u x.fv x.s.f):=by
   rcases List.mem_or_eq_of_mem_set hx2 with hm | rfl
   ·exact h.nods x hm
   ·exact hy
  exact (((((((((hx.setCell ⟨g,k*9,none⟩ (.inl hg) (.int .i64 y.s.kind)).setCell ⟨g,k*9+1,none⟩ (.inl hg) (.string (str y.s.reg))).setCell ⟨g,k*9+2,none⟩ (.inl hg) (.string (str y.s.name))).setCell ⟨g,k*9+3,none⟩ (.inl hg) y.ev).setCell ⟨g,k*9+4,none⟩ (.inl hg) y.fv).setCell ⟨g,k*9+5,none⟩ (.inl hg) (.int .i64 y.s.n)).setCell ⟨g,k*9+6,none⟩ (.inl hg) (.int .i64 y.s.body)).setCell ⟨g,k*9+7,none⟩ (.inl hg) (.int .i64 y.s.els)).setCell ⟨g,k*9+8,none⟩ (.inl hg) (.int .i64 y.s.pos))
def kdS (l:List Tok) (i k:Nat):Nat:=if kindAt l i < k then kindAt l i else 1
theorem kdS_2 (l:List Tok) (i:Nat):kdS l i 2=1:=by
 unfold kdS
 have:=kindAt_range l i
 split <;> omega
theorem kdS_15 (l:List Tok) (i:Nat):kdS l i 15=kindAt l i:=by
 unfold kdS
 have:=kindAt_range l i
 rw [if_pos (by omega)]
theorem kdS_yes {l:List Tok} {i k:Nat} (h2:2≤k) (h14:k≤14) (h:isE l i (wordS k)=true):kdS l i (k+1)=k:=by
 unfold kdS
 rw [kindAt_of h2 h14 h,if_pos (by omega)]
theorem kdS_no {l:List Tok} {i k:Nat} (h2:2≤k) (h:isE l i (wordS k)=false):kdS l i (k+1)=kdS l i k:=by
 unfold kdS
 have hne:kindAt l i≠k:=fun e=>by
  have:=kindAt_is (l:=l) (i:=i) (by omega)
  rw [e,h] at this;cases this
 by_cases hlt:kindAt l i < k
 ·rw [if_pos hlt,if_pos (by omega)]
 ·rw [if_neg hlt,if_neg (by omega)]
structure RW (l:List Tok) (g:Nat) (T:Nat→Prop) (v o:Value) (w:World) (i:Nat) (e p:Int) (pl:List Sv):Prop where
 pq:PQ w g v i e p o
 row:SOwn T (g+1) w o pl
 ctx:Ctx g v l w
 n0:e=0→pl.length≤i
 n1:pl.length≤i+1
 im:i≤1000000
 tg:T g
 tl:∀ k,T k→k < w.heap.size
theorem RW.below {l:List Tok} {g:Nat} {T:Nat→Prop} {v o:Value} {w w':World} {i:Nat} {e p:Int} {pl:List Sv} (h:RW l g T v o w i e p pl) (hb:Below w.heap.size w w'):RW l g T v o w' i e p pl :=
 ⟨h.pq.below hb,h.row.below hb,h.ctx.keep (Keep.of hb) h.pq.lt,h.n0,h.n1,h.im,h.tg,fun k hk=>Nat.lt_of_lt_of_le (h.tl k hk) hb.size⟩
theorem RW.keep {l:List Tok} {g:Nat} {T:Nat→Prop} {v o:Value} {w w':World} {i j:Nat} {e p e' p':Int} {pl:List Sv} (h:RW l g T v o w i e p pl) (hk:Keep g w w') (hp:PQ w' g v j e' p' o) (hij:i≤j) (hj:j≤1000000) (he:e' = 0→e=0):RW l g T v o w' j e' p' pl :=
 ⟨hp,h.row.keep (Nat.lt_succ_self _) h.tg hk,h.ctx.keep hk h.pq.lt,fun h0=>Nat.le_trans (h.n0 (he h0)) hij,by have:=h.n1;omega,hj,h.tg,fun k hT=>Nat.lt_of_lt_of_le (h.tl k hT) hk.size⟩
theorem RW.drewN {l:List Tok} {g:Nat} {T:Nat→Prop} {v o:Value} {w:World} {i:Nat} {e p:Int} {pl:List Sv} (h:RW l g T v o w i e p pl) (n:Nat):RW l g T v o (w.drewN n) i e p pl:=h.below (qdrN (Below.refl _ _) n)
theorem RW.mono {l:List Tok} {g:Nat} {T T':Nat→Prop} {v o:Value} {w:World} {i:Nat} {e p:Int} {pl:List Sv} (h:RW l g T' v o w i e p pl) (hT:∀ k,T k→T' k) (hg:T g):RW l g T v o w i e p pl :=
 ⟨h.pq,h.row.mono hT,h.ctx,h.n0,h.n1,h.im,hg,fun k hk=>h.tl k (hT k hk)⟩
theorem RW.cell {l:List Tok} {g b j:Nat} {T:Nat→Prop} {v o u:Value} {w:World} {i:Nat} {e p:Int} {pl:List Sv} (h:RW l g T v o w i e p pl) (hT:T b) (hne:o.ownBlock≠some b) (hb:g < b):RW l g T v o (w.setCell ⟨b,j,none⟩ u) i e p pl :=
 ⟨h.pq.other (by omega),h.row.cell hT hne,h.ctx.belowB (below_set (Below.refl g w) (Nat.le_of_lt hb) _),h.n0,h.n1,h.im,h.tg,fun k hk=>by rw [World.size_setCell];exact h.tl k hk⟩
theorem KR.cell {g b j:Nat} {o o' u:Value} {w w':World} (h:KR g o o' w w') (hb:w.heap.size≤b):KR g o o' w (w'.setCell ⟨b,j,none⟩ u) :=
 ⟨h.os,h.tape,h.output,by rw [World.size_setCell];exact h.size,fun k hk h1 h2=>(Below.heap_setCell _ _ _ _ (fun e=>by simp only at e;omega)).trans (h.block k hk h1 h2),h.own⟩
def BlkPost (l:List Tok) (r:RS (List St)) (g:Nat) (T:Nat→Prop) (v o:Value) (p0:Int) (pl:List Sv) (w:World) (z:Ending) (w':World):Prop :=
 ∃ (j:Nat) (e p:Int) (o':Value) (pl':List Sv),z = .returned (.int .i64 (pl'.length:Nat))∧RW l g T v o' w' j e p (pl++pl')∧KR g o o' w w'∧BlkEnd r j e p p0 pl'
def OnePost (l:List Tok) (r:RS (List St)) (g:Nat) (T:Nat→Prop) (v o:Value) (p0:Int) (pl:List Sv) (w:World) (z:Ending) (w':World):Prop :=
 ∃ (j:Nat) (e p:Int) (o':Value) (pl':List Sv),z = .returned (.tuple #[])∧RW l g T v o' w' j e p (pl++pl')∧KR g o o' w w'∧BlkEnd r j e p p0 pl'
def BlkC (l:List Tok) (d:Nat):Prop:=∀ (g:Nat) (T:Nat→Prop) (v o:Value) (i:Nat) (e p:Int) (pl:List Sv) (n:Nat) (w:World),n+d≤100→RW l g T v o w i e p pl →
 Calls Tryz.prog 26 #[.pointer (some ⟨g,0,none⟩),.int .i64 (13 - (d:Int)),.int .i64 n] w (if e=0 then BlkPost l (blkR l d (decide (0 < n)) i) g T v o p pl w else fun z w'=>z = .returned (.int .i64 0)∧Keep g w w'∧RW l g T v o w' i e p pl)
theorem posAt_place {l:List Tok} {i:Nat} (h:i < l.length):placeE l i=posAt l i:=by
 rw [placeE_in h]
 unfold posAt
 rw [if_pos h]
 unfold tk
 rw [List.getD_eq_getElem?_getD,List.getElem?_eq_getElem h]
 rfl
theorem kindAt_out {l:List Tok} {i:Nat} (h:l.length≤i):kindAt l i=1:=by
 apply Decidable.byContradiction
 intro hne
 have:=isE_lt (kindAt_is hne)
 omega
theorem oneR_place (blk:Bool→Nat→RS (List St)) (b:Bool) (l:List Tok) (i:Nat):oneR blk b l i=oneP blk b l i (kindAt l i) (placeE l i):=by
 by_cases h:i < l.length
 ·unfold oneR oneP
  rw [posAt_place h]
  rfl
 ·have hk:=kindAt_out (l:=l) (i:=i) (by omega)
  have hn:∀ x:St,partsR l (lettS 1) 0 x i = .inr (badR l i 5):=fun x=>by
   rw [show lettS 1 = [114,101] from rfl]
   unfold partsR aheadR
   rw [if_pos rfl]
   simp only
   unfold partR
   rw [if_pos rfl]
   unfold nameR
   rw [if_neg (fun hh=>h hh.1)]
  unfold oneR oneP
  rw [hk]
  simp only [hn,if_true]
theorem PQ.grown {w w':World} {g:Nat} {v o:Value} {i e p:Int} {row:Option Nat} (h:PQ w g v i e p o) (hg:w.grownBy w' row) (hne:row≠some g):PQ w' g v i e p o:=by
 have hb:=hg.block g h.lt (Ne.symm hne)
 have e:=fun j y (hc:w.cell? ⟨g,j,none⟩=some y)=>(World.cell?_of_block (a:=⟨g,j,none⟩) hb).trans hc
 exact ⟨Nat.lt_of_lt_of_le h.lt hg.size,e _ _ h.c0,e _ _ h.c1,e _ _ h.c2,e _ _ h.c3,e _ _ h.c4,fun j=>(World.frozen?_of_block (a:=⟨g,j,none⟩) hb).trans (h.fr j)⟩
theorem SB.setBody {w:World} {b:Nat} {x:St} {ev fv:Value} (h:SB w b x ev fv) (n:Int):SB (w.setCell ⟨b,6,none⟩ (.int .i64 n)) b { x with body:=n } ev fv :=
 ⟨by simpa [World.setCell] using h.lt,by simp [World.cell?_setCell_other];exact h.c0,by simp [World.cell?_setCell_other];exact h.c1,by simp [World.cell?_setCell_other];exact h.c2,by simp [World.cell?_setCell_other];exact h.c3,by simp [World.cell?_setCell_other];exact h.c4,by simp [World.cell?_setCell_other];exact h.c5,by simp [World.cell?_setCell_same',h.c6],by simp [World.cell?_setCell_other];exact h.c7,by simp [World.cell?_setCell_other];exact h.c8,fun j=>by simpa using h.fr j⟩
theorem SB.setElse {w:World} {b:Nat} {x:St} {ev fv:Value} (h:SB w b x ev fv) (n:Int):SB (w.setCell ⟨b,7,none⟩ (.int .i64 n)) b { x with els:=n } ev fv :=
 ⟨by simpa [World.setCell] using h.lt,by simp [World.cell?_setCell_other];exact h.c0,by simp [World.cell?_setCell_other];exact h.c1,by simp [World.cell?_setCell_other];exact h.c2,by simp [World.cell?_setCell_other];exact h.c3,by simp [World.cell?_setCell_other];exact h.c4,by simp [World.cell?_setCell_other];exact h.c5,by simp [World.cell?_setCell_other];exact h.c6,by simp [World.cell?_setCell_same',h.c7],by simp [World.cell?_setCell_other];exact h.c8,fun j=>by simpa using h.fr j⟩
theorem one_app {l:List Tok} {g:Nat} {T:Nat→Prop} {v o o':Value} {X Y w1:World} {j:Nat} {e p:Int} {pl:List Sv} {x:Sv} (hp:PQ X g v j e p o) (hr:SOwn T (g+1) X o pl) (hc:Ctx g v l X) (ht:T g∧∀ k,T k→k < X.heap.size)
 (hx:Off (fun k=>o.ownBlock=some k∨T k) X (fun u=>Nods u x.ev x.s.e∧Nods u x.fv x.s.f)) (hY:Below X.heap.size X Y) (hown:w1.ownsRow (g+1) 31 9 o' (pl.length+1) (pl.flatMap Sv.cells++[x].flatMap Sv.cells)) (hg:Y.grownBy w1 o.ownBlock) (hat:o'.ownBlock=o.ownBlock∨o'.ownBlock=some Y.heap.size) (n1:pl.length≤j) (n0:e=0→pl.length+1≤j) (im:j≤1000000) :
 RW l g T v o' (w1.setCell ⟨g,4,none⟩ o') j e p (pl++[x])∧KR g o o' X (w1.setCell ⟨g,4,none⟩ o'):=by
 have hne:o.ownBlock≠some g:=fun e=>by have:=(hr.own.lt g e).1;omega
 have hne':o'.ownBlock≠some g:=fun e=>by have:=(hown.lt g e).1;omega
 have hpY:=hp.below hY
 have hp1:=hpY.grown hg hne
 have hr1:=(hr.below hY).app x (hx.below hY) hown hg hat
 have hgs:g < X.heap.size:=hp.lt
 have hc1:Ctx g v l w1:=hc.belowB (((hY.mono (Nat.le_of_lt hgs))).grown hg (by have:=hY.size;omega) (fun k hk=>by have:=(hr.own.lt k hk).1;omega))
 refine ⟨⟨hp1.set4 _,?_,hc1.keep ((Keep.refl g w1).set 4 _) hp1.lt,fun h=>by rw [List.length_append];exact n0 h,by rw [List.length_append];simp only [List.length_cons,List.length_nil];omega,im,ht.1,fun k hk=>?_⟩,?_⟩
 ·exact hr1.cell ht.1 hne'
 ·have:=ht.2 k hk
  have:=hY.size
  have:=hg.size
  rw [World.size_setCell];omega
 ·have hsz:X.heap.size≤w1.heap.size:=Nat.le_trans hY.size hg.size
  refine ⟨hg.os.trans hY.os,hg.tape.trans hY.tape,hg.output.trans hY.output,by rw [World.size_setCell];exact hsz,fun k hk h1 h2=>?_,?_⟩
  ·exact (Below.heap_setCell _ _ _ _ (fun e=>h1 (by simpa using e))).trans ((hg.block k (Nat.lt_of_lt_of_le hk hY.size) (fun e=>h2 e.symm)).trans (hY.block k hk))
  ·rcases hat with h | h
   ·exact .inl h
   ·exact .inr ⟨_,h,hY.size⟩
structure OX (l:List Tok) (g:Nat) (T:Nat→Prop) (v o:Value) (w X:World) (q:Nat) (x:St) (ev fv:Value) (j:Nat) (e1 p1:Int) (pl:List Sv):Prop where
 pq:PQ X g v j e1 p1 o
 row:SOwn (fun k=>T k∨k=q) (g+1) X o pl
 ctx:Ctx g v l X
 tg:T g
 tl:∀ k,T k→k < w.heap.size
 sb:SB X q x ev fv
 off:Off (fun k=>o.ownBlock=some k∨(T k∨k=q)) X (fun u=>Nods u ev x.e∧Nods u fv x.f)
 kp:Keep g w X
 hq:w.heap.size≤q
 own:o.ownBlock≠some q
 n1:pl.length≤j
 n0:e1=0→pl.length+1≤j
 im:j≤1000000
theorem ox_new {l:List Tok} {g:Nat} {T:Nat→Prop} {v o:Value} {w w1:World} {i:Nat} {p:Int} {pl:List Sv} (h:RW l g T v o w i 0 p pl) {x:St} {ev fv:Value} {j:Nat} {e1 p1:Int} (hk:Keep g w w1) (hp:PQ w1 g v j e1 p1 o) (hne:Nods w1 ev x.e) (hnf:Nods w1 fv x.f) (hfe:Fresh w.heap.size ev) (hff:Fresh w.heap.size fv) (hij:i≤j) (n0:e1=0→i < j) (im:j≤1000000) :
 OX l g T v o w (w1.alloc (.cells #[.int .i64 x.kind,.string (str x.reg),.string (str x.name),ev,fv,.int .i64 x.n,.int .i64 x.body,.int .i64 x.els,.int .i64 x.pos] 31)) w1.heap.size x ev fv j e1 p1 pl:=by
 have ha:=al w1 (.cells #[.int .i64 x.kind,.string (str x.reg),.string (str x.name),ev,fv,.int .i64 x.n,.int .i64 x.body,.int .i64 x.els,.int .i64 x.pos] 31)
 have h0:=h.n0 rfl
 have hs:=hk.size
 have howl:∀ k,o.ownBlock=some k→k < w.heap.size:=fun k hk=>(h.row.own.lt k hk).2
 refine ⟨hp.below ha,(h.row.keep (Nat.lt_succ_self _) h.tg hk).more ha (fun k hk e=>e.elim id (fun e=>absurd hk (by omega))),(h.ctx.keep hk h.pq.lt).keep (Keep.of ha) hp.lt,h.tg,h.tl,sb_new _ _ _ _,?_,hk.trans (Keep.of ha),hs,fun e=>by have:=howl _ e;omega,by omega,fun he=>by have:=n0 he;omega,im⟩
 have hS:∀ k,(o.ownBlock=some k∨T k)→k < w.heap.size:=fun k hk=>hk.elim (howl k) (h.tl k)
 have h1:Off (fun k=>o.ownBlock=some k∨T k) w1 (fun u=>Nods u ev x.e∧Nods u fv x.f):=fun w' q1 q2=>⟨off_nods hne hfe hS w' q1 q2,off_nods hnf hff hS w' q1 q2⟩
 exact h1.step ha.size (fun k hk _=>ha.block k hk) (fun k hk e=>e.elim .inl (fun e=>e.elim .inr (fun e=>absurd hk (by omega))))
theorem Off.kr {g:Nat} {T:Nat→Prop} {o o':Value} {w w':World} {Q:World→Prop} (h:Off (fun k=>o.ownBlock=some k∨T k) w Q) (hk:KR g o o' w w') (hg:T g):Off (fun k=>o'.ownBlock=some k∨T k) w' Q :=
 h.step hk.size (fun k hlt hn=>hk.block k hlt (fun e=>hn (.inr (e ▸ hg))) (fun e=>hn (.inl e))) (fun k hlt e=>e.elim (fun e=>by
  rcases hk.own with h1 | ⟨b,h1,h2⟩
  ·exact .inl (h1.symm.trans e)
  ·rw [h1] at e;injection e with e;omega) .inr)
theorem one_put {l:List Tok} {g gg:Nat} {T:Nat→Prop} {v o:Value} {W:World} {j:Nat} {e p:Int} {pl:List Sv} (h:RW l g T v o W j e p pl) (ho:o.ownBlock=some gg) (k:Nat) (hk:k < pl.length) (y:Sv) (hy:Off (fun k=>o.ownBlock=some k∨T k) W (fun u=>Nods u y.ev y.s.e∧Nods u y.fv y.s.f)) :
 RW l g T v o (((((((((W.setCell ⟨gg,k*9,none⟩ (.int .i64 y.s.kind)).setCell ⟨gg,k*9+1,none⟩ (.string (str y.s.reg))).setCell ⟨gg,k*9+2,none⟩ (.string (str y.s.name))).setCell ⟨gg,k*9+3,none⟩ y.ev).setCell ⟨gg,k*9+4,none⟩ y.fv).setCell ⟨gg,k*9+5,none⟩ (.int .i64 y.s.n)).setCell ⟨gg,k*9+6,none⟩ (.int .i64 y.s.body)).setCell ⟨gg,k*9+7,none⟩ (.int .i64 y.s.els)).setCell ⟨gg,k*9+8,none⟩ (.int .i64 y.s.pos)) j e p (pl.set k y) ∧
 KR g o o W (((((((((W.setCell ⟨gg,k*9,none⟩ (.int .i64 y.s.kind)).setCell ⟨gg,k*9+1,none⟩ (.string (str y.s.reg))).setCell ⟨gg,k*9+2,none⟩ (.string (str y.s.name))).setCell ⟨gg,k*9+3,none⟩ y.ev).setCell ⟨gg,k*9+4,none⟩ y.fv).setCell ⟨gg,k*9+5,none⟩ (.int .i64 y.s.n)).setCell ⟨gg,k*9+6,none⟩ (.int .i64 y.s.body)).setCell ⟨gg,k*9+7,none⟩ (.int .i64 y.s.els)).setCell ⟨gg,k*9+8,none⟩ (.int .i64 y.s.pos)):=by
 have hgg:=h.row.own.lt gg ho
 have hne:g≠gg:=by omega
 have hl:g≤gg:=by omega
 have hrow:=h.row.put ho k hk y hy
 refine ⟨⟨((((((((h.pq.other hne).other hne).other hne).other hne).other hne).other hne).other hne).other hne).other hne,hrow,?_,fun h0=>by rw [List.length_set];exact h.n0 h0,by rw [List.length_set];exact h.n1,h.im,h.tg,fun k hk=>by simp only [World.size_setCell];exact h.tl k hk⟩,?_⟩
 ·exact h.ctx.belowB (below_set (below_set (below_set (below_set (below_set (below_set (below_set (below_set (below_set (Below.refl g W) hl _) hl _) hl _) hl _) hl _) hl _) hl _) hl _) hl _)
 ·have hk:=(((((((((Keep.refl gg W).set (k*9) (.int .i64 y.s.kind)).set (k*9+1) (.string (str y.s.reg))).set (k*9+2) (.string (str y.s.name))).set (k*9+3) y.ev).set (k*9+4) y.fv).set (k*9+5) (.int .i64 y.s.n)).set (k*9+6) (.int .i64 y.s.body)).set (k*9+7) (.int .i64 y.s.els)).set (k*9+8) (.int .i64 y.s.pos)
  exact ⟨hk.os,hk.tape,hk.output,hk.size,fun q hq _ h2=>hk.block q hq (fun e=>h2 (e ▸ ho)),.inl rfl⟩
theorem blk_ok {l:List Tok} {d:Nat} (HB:BlkC l d) {D N:Int} {n:Nat} (hD:D=13 - (d:Int)) (hN:N=n) (h100:n+d≤100) {g:Nat} {T:Nat→Prop} {v o:Value} {w:World} {i:Nat} {p:Int} {pl:List Sv} (h:RW l g T v o w i 0 p pl) :
 Calls Tryz.prog 26 #[.pointer (some ⟨g,0,none⟩),.int .i64 D,.int .i64 N] w (BlkPost l (blkR l d (decide (0 < n)) i) g T v o p pl w):=by
 subst hD hN
 have:=HB g T v o i 0 p pl n w h100 h
 rw [if_pos rfl] at this
 exact this
theorem blk_no {l:List Tok} {d:Nat} (HB:BlkC l d) {D N:Int} {n:Nat} (hD:D=13 - (d:Int)) (hN:N=n) (h100:n+d≤100) {g:Nat} {T:Nat→Prop} {v o:Value} {w:World} {i:Nat} {e p:Int} {pl:List Sv} (he:¬ e=0) (h:RW l g T v o w i e p pl) :
 Calls Tryz.prog 26 #[.pointer (some ⟨g,0,none⟩),.int .i64 D,.int .i64 N] w fun z w'=>z = .returned (.int .i64 0)∧Keep g w w'∧RW l g T v o w' i e p pl:=by
 subst hD hN
 have:=HB g T v o i e p pl n w h100 h
 rw [if_neg he] at this
 exact this
theorem Sts.svs {w:World} {v:Value} {l:List St} (h:Sts w v l):∃ pl:List Sv,pl.map (·.s)=l∧Svs w v pl:=by
 obtain ⟨pl,h1,h2,h3⟩:=h
 exact ⟨pl,h1,h2,h3⟩
end Go.Proofs.YtaoeaaebafcegaaGreatDoor

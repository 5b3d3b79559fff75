/- Chapter 04 (statements), joined: StQA, StQC. -/
import Derived.Test.YtaoeaaebafcegaaGreatDoorPkA09
import Derived.Test.YtaoeaaebafcegaaGreatDoorPkA14
import Derived.Test.YtaoeaaebafcegaaGreatDoorPkA20
set_option maxRecDepth 100000
set_option maxHeartbeats 2000000
namespace Go.Proofs.YtaoeaaebafcegaaGreatDoor
open Go Go.RowKit
set_option linter.unusedVariables false
structure PS (lo:Int) (w:World) (g:Nat) (v:Value) (i e p:Int) (o:Value):Prop where
 lt:g < w.heap.size
 c0:w.cell? ⟨g,0,none⟩=some (v)
 c1:w.cell? ⟨g,1,none⟩=some (.int .i64 i)
 c2:w.cell? ⟨g,2,none⟩=some (.int .i64 lo)
 c3:w.cell? ⟨g,3,none⟩=some (.int .i64 e)
 c4:w.cell? ⟨g,4,none⟩=some (.int .i64 p)
 c5:w.cell? ⟨g,5,none⟩=some (o)
 fr:∀ j,w.frozen? ⟨g,j,none⟩=false
variable {lo : Int}
theorem PS.belowB {w w':World} {g B:Nat} {v o:Value} {i e p:Int} (h:PS lo w g v i e p o) (hb:Below B w w') (hlt:g < B):PS lo w' g v i e p o:=by
 have hs:=hb.size
 have hl:=h.lt
 exact ⟨by omega,(hb.cell (p:=⟨g,0,none⟩) hlt).trans h.c0,(hb.cell (p:=⟨g,1,none⟩) hlt).trans h.c1,(hb.cell (p:=⟨g,2,none⟩) hlt).trans h.c2,(hb.cell (p:=⟨g,3,none⟩) hlt).trans h.c3,(hb.cell (p:=⟨g,4,none⟩) hlt).trans h.c4,(hb.cell (p:=⟨g,5,none⟩) hlt).trans h.c5,
  fun j=>(hb.frozen (p:=⟨g,j,none⟩) hlt).trans (h.fr j)⟩
theorem PS.below {w w':World} {g:Nat} {v o:Value} {i e p:Int} (h:PS lo w g v i e p o) (hb:Below w.heap.size w w'):PS lo w' g v i e p o:=h.belowB hb h.lt
theorem PS.drew {w:World} {g:Nat} {v o:Value} {i e p:Int} (h:PS lo w g v i e p o):PS lo w.drew g v i e p o:=h.below ⟨rfl,rfl,rfl,Nat.le_refl _,fun _ _=>rfl⟩
theorem PS.drewN {w:World} {g:Nat} {v o:Value} {i e p:Int} (h:PS lo w g v i e p o) (n:Nat):PS lo (w.drewN n) g v i e p o:=h.below ⟨rfl,rfl,rfl,Nat.le_refl _,fun _ _=>rfl⟩
theorem PS.set1 {w:World} {g:Nat} {v o:Value} {i e p:Int} (h:PS lo w g v i e p o) (j:Int):PS lo (w.setCell ⟨g,1,none⟩ (.int .i64 j)) g v j e p o:=by
 obtain ⟨hl,h0,h1,h2,h3,h4,h5,hf⟩:=h
 refine ⟨by simpa [World.setCell] using hl,?_,?_,?_,?_,?_,?_,fun k=>by simpa using hf k⟩ <;> simp [*,go_sem]
theorem PS.set2 {w:World} {g:Nat} {v o:Value} {i e p:Int} (h:PS lo w g v i e p o) (j:Int):PS j (w.setCell ⟨g,2,none⟩ (.int .i64 j)) g v i e p o:=by
 obtain ⟨hl,h0,h1,h2,h3,h4,h5,hf⟩:=h
 refine ⟨by simpa [World.setCell] using hl,?_,?_,?_,?_,?_,?_,fun k=>by simpa using hf k⟩ <;> simp [*,go_sem]
theorem PS.set3 {w:World} {g:Nat} {v o:Value} {i e p:Int} (h:PS lo w g v i e p o) (j:Int):PS lo (w.setCell ⟨g,3,none⟩ (.int .i64 j)) g v i j p o:=by
 obtain ⟨hl,h0,h1,h2,h3,h4,h5,hf⟩:=h
 refine ⟨by simpa [World.setCell] using hl,?_,?_,?_,?_,?_,?_,fun k=>by simpa using hf k⟩ <;> simp [*,go_sem]
theorem PS.set4 {w:World} {g:Nat} {v o:Value} {i e p:Int} (h:PS lo w g v i e p o) (j:Int):PS lo (w.setCell ⟨g,4,none⟩ (.int .i64 j)) g v i e j o:=by
 obtain ⟨hl,h0,h1,h2,h3,h4,h5,hf⟩:=h
 refine ⟨by simpa [World.setCell] using hl,?_,?_,?_,?_,?_,?_,fun k=>by simpa using hf k⟩ <;> simp [*,go_sem]
theorem PS.set5 {w:World} {g:Nat} {v o:Value} {i e p:Int} (h:PS lo w g v i e p o) (j:Value):PS lo (w.setCell ⟨g,5,none⟩ (j)) g v i e p j:=by
 obtain ⟨hl,h0,h1,h2,h3,h4,h5,hf⟩:=h
 refine ⟨by simpa [World.setCell] using hl,?_,?_,?_,?_,?_,?_,fun k=>by simpa using hf k⟩ <;> simp [*,go_sem]
theorem PS.set34 {w:World} {g:Nat} {v o:Value} {i e p:Int} (h:PS lo w g v i e p o) (x y:Int):PS lo ((w.setCell ⟨g,3,none⟩ (.int .i64 x)).setCell ⟨g,4,none⟩ (.int .i64 y)) g v i x y o:=(h.set3 x).set4 y
theorem PS.other {w:World} {g q j:Nat} {v o u:Value} {i e p:Int} (h:PS lo w g v i e p o) (hne:g≠q):PS lo (w.setCell ⟨q,j,none⟩ u) g v i e p o:=by
 obtain ⟨hl,h0,h1,h2,h3,h4,h5,hf⟩:=h
 refine ⟨by simpa [World.setCell] using hl,?_,?_,?_,?_,?_,?_,fun k=>by simpa using hf k⟩ <;> simp [World.cell?_setCell_other] <;> assumption
theorem PS.grown {w w':World} {g:Nat} {v o:Value} {i e p:Int} {row:Option Nat} (h:PS lo w g v i e p o) (hg:w.grownBy w' row) (hne:row≠some g):PS lo w' g v i e p o:=by
 have hb:=hg.block g h.lt (Ne.symm hne)
 have e:=fun j y (hc:w.cell? ⟨g,j,none⟩=some y)=>(World.cell?_of_block (a:=⟨g,j,none⟩) hb).trans hc
 exact ⟨Nat.lt_of_lt_of_le h.lt hg.size,e _ _ h.c0,e _ _ h.c1,e _ _ h.c2,e _ _ h.c3,e _ _ h.c4,e _ _ h.c5,fun j=>(World.frozen?_of_block (a:=⟨g,j,none⟩) hb).trans (h.fr j)⟩
theorem pwrong_c (l:List Tok) (hl:l.length≤100000) (g:Nat) (v o:Value) (i:Nat) (e e0 p:Int) (w:World) (hp:PS lo w g v i e p o) (hc:Ctx g v l w) :
 Calls Tryz.prog 51 #[.pointer (some ⟨g,0,none⟩),.int .i64 e0] w fun r w'=>r = .returned (.tuple #[])∧Keep g w w'∧PS lo w' g v i (wE l i e e0) (wP l i e p) o:=by
 have hct:=hc.now hp.lt
 obtain ⟨A,c,hve,hcc⟩:=hct.shape
 subst hve
 have HP:Hid (∀ u:World,Toks u (.slice A l.length c) l→Calls Tryz.prog 74 #[.slice A l.length c,.int .i64 i] u (PlacePostD l i u)):=fun u hu=>place_c l (by omega) i _ u hu
 have HPA:=Lib.hid hp
 have HC:=Lib.hid hc
 obtain ⟨pl,p0,p1,p2,p3,p4,p5,pf⟩:=hp
 clear hc hct
 by_cases he:e=0
 ·have HW:Hid (wP l i e p=placeE l i):=if_pos he
  rw [HW.out]
  subst he
  by_cases h1:l.length≤i
  ·have hd:decide ((l.length:Int)≤(i:Int))=true:=by simp;omega
   have hd':decide (l.length≤i)=true:=by simp;omega
   have HE:Hid (wE l i 0 e0=6):=by show _=_;unfold wE;rw [if_pos rfl,if_pos h1]
   rw [HE.out]
   clear h1
   go_enter Tryz.func51,Tryz.ntmps51
   go_upto_region 1 with fail
   go_quiet (fail)
   go_upto_region 3 with fail
   generalize hW:World.drewN w _=wd
   have hK:Keep g w wd:=by subst hW;exact (Keep.refl _ _).drewN _
   have hPd:PS lo wd g (.slice A l.length c) i 0 p o:=by subst hW;exact HPA.out.drewN _
   clear hW p0 p1 p2 p3 p4 p5 pf pl
   have HPd:=Lib.hid hPd
   obtain ⟨pl,p0,p1,p2,p3,p4,p5,pf⟩:=hPd
   have pf3:=pf 3
   have pf4:=pf 4
   have HT:Hid (∀ u,Keep g wd u→Toks u (.slice A l.length c) l):=fun u hu=>(HC.out.keep (hK.trans hu) HPA.out.lt).now (Nat.lt_of_lt_of_le HPA.out.lt (hK.trans hu).size)
   go_region_with (go_at_call 74;refine (HP.out _ (HT.out _ ?_)).mono ?_;(first | exact (Keep.refl g wd) | exact (Keep.refl g wd).drew | exact (Keep.refl g wd).drew.drew | exact (Keep.refl g wd).drew.drew.drew | exact (Keep.refl g wd).drew.drew.drew.drew | exact ((Keep.refl g wd).set 3 _) | exact ((Keep.refl g wd).set 3 _).drew | exact ((Keep.refl g wd).set 3 _).drew.drew | exact ((Keep.refl g wd).set 3 _).drew.drew.drew | exact ((Keep.refl g wd).set 3 _).drew.drew.drew.drew);rintro e w5 ⟨rfl,hb5⟩;(first | (have hK5:=(Keep.refl g wd).trans (Keep.of hb5);have hP5:=HPd.out.below hb5) | (have hK5:=(Keep.refl g wd).drew.trans (Keep.of hb5);have hP5:=HPd.out.drew.below hb5) | (have hK5:=(Keep.refl g wd).drew.drew.trans (Keep.of hb5);have hP5:=HPd.out.drew.drew.below hb5) | (have hK5:=(Keep.refl g wd).drew.drew.drew.trans (Keep.of hb5);have hP5:=HPd.out.drew.drew.drew.below hb5) | (have hK5:=(Keep.refl g wd).drew.drew.drew.drew.trans (Keep.of hb5);have hP5:=HPd.out.drew.drew.drew.drew.below hb5) | (have hK5:=((Keep.refl g wd).set 3 _).trans (Keep.of hb5);have hP5:=(HPd.out.set3 _).below hb5) | (have hK5:=((Keep.refl g wd).set 3 _).drew.trans (Keep.of hb5);have hP5:=(HPd.out.set3 _).drew.below hb5) | (have hK5:=((Keep.refl g wd).set 3 _).drew.drew.trans (Keep.of hb5);have hP5:=(HPd.out.set3 _).drew.drew.below hb5) | (have hK5:=((Keep.refl g wd).set 3 _).drew.drew.drew.trans (Keep.of hb5);have hP5:=(HPd.out.set3 _).drew.drew.drew.below hb5) | (have hK5:=((Keep.refl g wd).set 3 _).drew.drew.drew.drew.trans (Keep.of hb5);have hP5:=(HPd.out.set3 _).drew.drew.drew.drew.below hb5));have HP5:=Lib.hid hP5;obtain ⟨ql,q0,q1,q2,q3,q4,q5,qf⟩:=hP5;have qf3:=qf 3;have qf4:=qf 4)
   all_goals
    go_wp2_with fail
    first | refine bodyPost_end (results_none rfl _ _ _) rfl ?_ | refine bodyPost_ret (results_none rfl _ _ _) rfl ?_
    refine ⟨rfl,?_⟩
    first
     | exact ⟨hK.trans ((hK5.set _ _).set _ _),HP5.out.set34 _ _⟩
     | exact ⟨hK.trans ((hK5.set _ _).set _ _),HP5.out.set43 _ _⟩
     | exact ⟨hK.trans (hK5.set _ _),HP5.out.set4 _⟩
     | exact ⟨hK.trans ((hK5.set _ _).set _ _).drew,(HP5.out.set34 _ _).drew⟩
     | exact ⟨hK.trans ((hK5.set _ _).set _ _).drew,(HP5.out.set43 _ _).drew⟩
     | exact ⟨hK.trans (hK5.set _ _).drew,(HP5.out.set4 _).drew⟩
     | exact ⟨hK.trans ((hK5.set _ _).set _ _).drew.drew,(HP5.out.set34 _ _).drew.drew⟩
     | exact ⟨hK.trans ((hK5.set _ _).set _ _).drew.drew,(HP5.out.set43 _ _).drew.drew⟩
     | exact ⟨hK.trans (hK5.set _ _).drew.drew,(HP5.out.set4 _).drew.drew⟩
  ·have hd:decide ((l.length:Int)≤(i:Int))=false:=by simp;omega
   have hd':decide (l.length≤i)=false:=by simp;omega
   have HE:Hid (wE l i 0 e0=e0):=by show _=_;unfold wE;rw [if_pos rfl,if_neg h1]
   rw [HE.out]
   clear h1
   go_enter Tryz.func51,Tryz.ntmps51
   go_upto_region 1 with fail
   go_quiet (fail)
   go_upto_region 3 with fail
   generalize hW:World.drewN w _=wd
   have hK:Keep g w wd:=by subst hW;exact (Keep.refl _ _).drewN _
   have hPd:PS lo wd g (.slice A l.length c) i 0 p o:=by subst hW;exact HPA.out.drewN _
   clear hW p0 p1 p2 p3 p4 p5 pf pl
   have HPd:=Lib.hid hPd
   obtain ⟨pl,p0,p1,p2,p3,p4,p5,pf⟩:=hPd
   have pf3:=pf 3
   have pf4:=pf 4
   have HT:Hid (∀ u,Keep g wd u→Toks u (.slice A l.length c) l):=fun u hu=>(HC.out.keep (hK.trans hu) HPA.out.lt).now (Nat.lt_of_lt_of_le HPA.out.lt (hK.trans hu).size)
   go_region_with (go_at_call 74;refine (HP.out _ (HT.out _ ?_)).mono ?_;(first | exact (Keep.refl g wd) | exact (Keep.refl g wd).drew | exact (Keep.refl g wd).drew.drew | exact (Keep.refl g wd).drew.drew.drew | exact (Keep.refl g wd).drew.drew.drew.drew | exact ((Keep.refl g wd).set 3 _) | exact ((Keep.refl g wd).set 3 _).drew | exact ((Keep.refl g wd).set 3 _).drew.drew | exact ((Keep.refl g wd).set 3 _).drew.drew.drew | exact ((Keep.refl g wd).set 3 _).drew.drew.drew.drew);rintro e w5 ⟨rfl,hb5⟩;(first | (have hK5:=(Keep.refl g wd).trans (Keep.of hb5);have hP5:=HPd.out.below hb5) | (have hK5:=(Keep.refl g wd).drew.trans (Keep.of hb5);have hP5:=HPd.out.drew.below hb5) | (have hK5:=(Keep.refl g wd).drew.drew.trans (Keep.of hb5);have hP5:=HPd.out.drew.drew.below hb5) | (have hK5:=(Keep.refl g wd).drew.drew.drew.trans (Keep.of hb5);have hP5:=HPd.out.drew.drew.drew.below hb5) | (have hK5:=(Keep.refl g wd).drew.drew.drew.drew.trans (Keep.of hb5);have hP5:=HPd.out.drew.drew.drew.drew.below hb5) | (have hK5:=((Keep.refl g wd).set 3 _).trans (Keep.of hb5);have hP5:=(HPd.out.set3 _).below hb5) | (have hK5:=((Keep.refl g wd).set 3 _).drew.trans (Keep.of hb5);have hP5:=(HPd.out.set3 _).drew.below hb5) | (have hK5:=((Keep.refl g wd).set 3 _).drew.drew.trans (Keep.of hb5);have hP5:=(HPd.out.set3 _).drew.drew.below hb5) | (have hK5:=((Keep.refl g wd).set 3 _).drew.drew.drew.trans (Keep.of hb5);have hP5:=(HPd.out.set3 _).drew.drew.drew.below hb5) | (have hK5:=((Keep.refl g wd).set 3 _).drew.drew.drew.drew.trans (Keep.of hb5);have hP5:=(HPd.out.set3 _).drew.drew.drew.drew.below hb5));have HP5:=Lib.hid hP5;obtain ⟨ql,q0,q1,q2,q3,q4,q5,qf⟩:=hP5;have qf3:=qf 3;have qf4:=qf 4)
   all_goals
    go_wp2_with fail
    first | refine bodyPost_end (results_none rfl _ _ _) rfl ?_ | refine bodyPost_ret (results_none rfl _ _ _) rfl ?_
    refine ⟨rfl,?_⟩
    first
     | exact ⟨hK.trans ((hK5.set _ _).set _ _),HP5.out.set34 _ _⟩
     | exact ⟨hK.trans ((hK5.set _ _).set _ _),HP5.out.set43 _ _⟩
     | exact ⟨hK.trans (hK5.set _ _),HP5.out.set4 _⟩
     | exact ⟨hK.trans ((hK5.set _ _).set _ _).drew,(HP5.out.set34 _ _).drew⟩
     | exact ⟨hK.trans ((hK5.set _ _).set _ _).drew,(HP5.out.set43 _ _).drew⟩
     | exact ⟨hK.trans (hK5.set _ _).drew,(HP5.out.set4 _).drew⟩
     | exact ⟨hK.trans ((hK5.set _ _).set _ _).drew.drew,(HP5.out.set34 _ _).drew.drew⟩
     | exact ⟨hK.trans ((hK5.set _ _).set _ _).drew.drew,(HP5.out.set43 _ _).drew.drew⟩
     | exact ⟨hK.trans (hK5.set _ _).drew.drew,(HP5.out.set4 _).drew.drew⟩
 ·have heq:(e == 0)=false:=by simpa using he
  have HE:Hid (wE l i e e0=e):=if_neg he
  have HW:Hid (wP l i e p=p):=if_neg he
  rw [HW.out,HE.out]
  go_enter Tryz.func51,Tryz.ntmps51
  go_wp2_with fail
  first | refine bodyPost_end (results_none rfl _ _ _) rfl ?_ | refine bodyPost_ret (results_none rfl _ _ _) rfl ?_
  exact ⟨rfl,Keep.refl _ _,HPA.out⟩
theorem psign_c (l:List Tok) (hl:l.length≤100000) (s:List UInt8) (g:Nat) (v o:Value) (i:Nat) (hi:i≤1000000000) (e p:Int) (w:World) (hp:PS lo w g v i e p o) (hc:Ctx g v l w) :
 Calls Tryz.prog 52 #[.pointer (some ⟨g,0,none⟩),.string (str s)] w fun r w'=>r = .returned (.tuple #[])∧Keep g w w'∧PS lo w' g v (mI l s i e:Nat) (mE l s i e) (mP l s i e p) o:=by
 have hct:=hc.now hp.lt
 obtain ⟨A,c,hve,hcc⟩:=hct.shape
 subst hve
 have HPA:=Lib.hid hp
 have HC:=Lib.hid hc
 have HBD:Hid (∀ u,Keep g w u→PS lo u g (.slice A l.length c) i e p o→Calls Tryz.prog 51 #[.pointer (some ⟨g,0,none⟩),.int .i64 5] u fun r w'=>r = .returned (.tuple #[])∧Keep g u w'∧PS lo w' g (.slice A l.length c) i (wE l i e 5) (wP l i e p) o):=fun u hk hq=>pwrong_c l hl g _ o i e 5 p u hq (HC.out.keep hk HPA.out.lt)
 have HIS:Hid (∀ u:World,Toks u (.slice A l.length c) l→Calls Tryz.prog 50 #[.slice A l.length c,.int .i64 i,.string (str s)] u (IsPost l i s u)):=fun u hu=>is_c l (by omega) i s _ u hu
 have HT0:=Lib.hid hct
 obtain ⟨pl,p0,p1,p2,p3,p4,p5,pf⟩:=hp
 have pf1:=pf 1
 clear hc hct
 by_cases he:e=0
 ·have heq:(e == 0)=true:=by simpa using he
  cases hs:isE l i s
  ·have HI:Hid (mI l s i e=i):=if_neg (fun h=>by rw [hs] at h;cases h.2)
   have HE:Hid (mE l s i e=wE l i e 5):=if_neg (fun h=>by rw [hs] at h;cases h.2)
   have HW:Hid (mP l s i e p=wP l i e p):=if_neg (fun h=>by rw [hs] at h;cases h.2)
   rw [HI.out,HE.out,HW.out]
   subst he
   unfold IsPost at HIS
   rw [hs] at HIS
   clear hs
   have HIS2:Hid (∀ u:World,Keep g w u→Calls Tryz.prog 50 #[.slice A l.length c,.int .i64 i,.string (str s)] u fun r w'=>r = .returned (.bool false)∧u=w'):=fun u hu=>HIS.out u ((HC.out.keep hu HPA.out.lt).now (Nat.lt_of_lt_of_le HPA.out.lt hu.size))
   clear HIS HT0
   go_enter Tryz.func52,Tryz.ntmps52
   go_upto_region 0 with fail
   go_quiet (first | (go_at_call 50;refine (HIS2.out _ ?_).mono ?_;(repeat (first | exact Keep.refl _ _ | refine Keep.drewN ?_ _ | refine Keep.drew ?_));rintro e w' ⟨he,hw⟩;exact ⟨he,_,hw.symm⟩))
   go_wp2_with (go_at_call 51;refine (HBD.out _ ((Keep.refl g w).drewN nq) (HPA.out.drewN nq)).mono ?_;rintro r w2 ⟨rfl,hk2,hp2⟩)
   first | refine bodyPost_end (results_none rfl _ _ _) rfl ?_ | refine bodyPost_ret (results_none rfl _ _ _) rfl ?_
   exact ⟨rfl,((Keep.refl g w).drewN nq).trans hk2,hp2⟩
  ·have HI:Hid (mI l s i e=i+1):=if_pos ⟨he,hs⟩
   have HE:Hid (mE l s i e=0):=if_pos ⟨he,hs⟩
   have HW:Hid (mP l s i e p=p):=if_pos ⟨he,hs⟩
   rw [HI.out,HE.out,HW.out]
   subst he
   unfold IsPost at HIS
   rw [hs] at HIS
   clear hs
   have HIS2:Hid (∀ u:World,Keep g w u→Calls Tryz.prog 50 #[.slice A l.length c,.int .i64 i,.string (str s)] u fun r w'=>r = .returned (.bool true)∧u=w'):=fun u hu=>HIS.out u ((HC.out.keep hu HPA.out.lt).now (Nat.lt_of_lt_of_le HPA.out.lt hu.size))
   clear HIS HT0
   go_enter Tryz.func52,Tryz.ntmps52
   go_upto_region 0 with fail
   go_quiet (first | (go_at_call 50;refine (HIS2.out _ ?_).mono ?_;(repeat (first | exact Keep.refl _ _ | refine Keep.drewN ?_ _ | refine Keep.drew ?_));rintro e w' ⟨he,hw⟩;exact ⟨he,_,hw.symm⟩))
   have HPd:=Lib.hid (HPA.out.drewN nq)
   have HKd:=Lib.hid ((Keep.refl g w).drewN nq)
   clear pl p0 p1 p2 p3 p4 p5 pf pf1
   generalize World.drewN _ _=X at HPd HKd ⊢
   obtain ⟨pl,p0,p1,p2,p3,p4,p5,pf⟩:=HPd.out
   have pf1:=pf 1
   have hi1:(i:Int)≤1000000000:=by omega
   go_wp2_with fail
   first | refine bodyPost_end (results_none rfl _ _ _) rfl ?_ | refine bodyPost_ret (results_none rfl _ _ _) rfl ?_
   exact ⟨rfl,HKd.out.set 1 _,HPd.out.set1 _⟩
 ·have heq:(e == 0)=false:=by simpa using he
  have HI:Hid (mI l s i e=i):=if_neg (fun h=>he h.1)
  have HE:Hid (mE l s i e=wE l i e 5):=if_neg (fun h=>he h.1)
  have HW:Hid (mP l s i e p=wP l i e p):=if_neg (fun h=>he h.1)
  rw [HI.out,HE.out,HW.out]
  clear HIS HT0
  go_enter Tryz.func52,Tryz.ntmps52
  go_upto_region 0 with fail
  go_quiet (fail)
  go_wp2_with (go_at_call 51;refine (HBD.out _ ((Keep.refl g w).drewN nq) (HPA.out.drewN nq)).mono ?_;rintro r w2 ⟨rfl,hk2,hp2⟩)
  first | refine bodyPost_end (results_none rfl _ _ _) rfl ?_ | refine bodyPost_ret (results_none rfl _ _ _) rfl ?_
  exact ⟨rfl,((Keep.refl g w).drewN nq).trans hk2,hp2⟩
theorem pword_c (k:Nat) (hk:k≤14) (w:World):Calls Tryz.prog 95 #[.int .i64 k] w fun e w'=>e = .returned (.string (str (wordS k)))∧Below w.heap.size w w':=by
 have hn:=fun j x h=>cells_new w #[.string ⟨#[]⟩,.string ⟨#[]⟩,.string ⟨#[108,111,97,100]⟩,.string ⟨#[115,116,111,114,101]⟩,.string ⟨#[99,97,115]⟩,.string ⟨#[102,108,117,115,104]⟩,.string ⟨#[111,112,116]⟩,.string ⟨#[115,102,101,110,99,101]⟩,.string ⟨#[109,102,101,110,99,101]⟩,.string ⟨#[116,97,107,101]⟩,.string ⟨#[103,105,118,101]⟩,.string ⟨#[105,102]⟩,.string ⟨#[108,111,111,112]⟩,.string ⟨#[98,114,101,97,107]⟩,.string ⟨#[99,104,101,99,107]⟩] 69 j x h
 have hb:=al w (.cells #[.string ⟨#[]⟩,.string ⟨#[]⟩,.string ⟨#[108,111,97,100]⟩,.string ⟨#[115,116,111,114,101]⟩,.string ⟨#[99,97,115]⟩,.string ⟨#[102,108,117,115,104]⟩,.string ⟨#[111,112,116]⟩,.string ⟨#[115,102,101,110,99,101]⟩,.string ⟨#[109,102,101,110,99,101]⟩,.string ⟨#[116,97,107,101]⟩,.string ⟨#[103,105,118,101]⟩,.string ⟨#[105,102]⟩,.string ⟨#[108,111,111,112]⟩,.string ⟨#[98,114,101,97,107]⟩,.string ⟨#[99,104,101,99,107]⟩] 69)
 have hk0:(0:Int)≤(k:Int):=Int.natCast_nonneg _
 have hk1:(k:Int) < 15:=by omega
 have hx:(w.alloc (.cells #[.string ⟨#[]⟩,.string ⟨#[]⟩,.string ⟨#[108,111,97,100]⟩,.string ⟨#[115,116,111,114,101]⟩,.string ⟨#[99,97,115]⟩,.string ⟨#[102,108,117,115,104]⟩,.string ⟨#[111,112,116]⟩,.string ⟨#[115,102,101,110,99,101]⟩,.string ⟨#[109,102,101,110,99,101]⟩,.string ⟨#[116,97,107,101]⟩,.string ⟨#[103,105,118,101]⟩,.string ⟨#[105,102]⟩,.string ⟨#[108,111,111,112]⟩,.string ⟨#[98,114,101,97,107]⟩,.string ⟨#[99,104,101,99,107]⟩] 69)).cell? ⟨w.heap.size,k,none⟩=some (.string (str (wordS k))):=by
  have h15:k=0∨k=1∨k=2∨k=3∨k=4∨k=5∨k=6∨k=7∨k=8∨k=9∨k=10∨k=11∨k=12∨k=13∨k=14:=by omega
  rcases h15 with rfl | rfl | rfl | rfl | rfl | rfl | rfl | rfl | rfl | rfl | rfl | rfl | rfl | rfl | rfl <;> exact hn _ _ rfl
 clear hn
 generalize str (wordS k)=S at hx ⊢
 go_enter Tryz.func95,Tryz.ntmps95
 go_wp2_with fail
 go_ret
 exact ⟨rfl,hb⟩
def hvA:Value:=.agg #[.string ⟨#[]⟩,.string ⟨#[114,101]⟩,.string ⟨#[114,110]⟩,.string ⟨#[110,101]⟩,.string ⟨#[114,110,101,102]⟩,.string ⟨#[110]⟩,.string ⟨#[110]⟩,.string ⟨#[]⟩,.string ⟨#[]⟩,.string ⟨#[110]⟩,.string ⟨#[110]⟩,.string ⟨#[101,98]⟩,.string ⟨#[107,98]⟩,.string ⟨#[]⟩,.string ⟨#[101]⟩]
theorem haves_c (w:World):Calls Tryz.prog 38 #[] w fun e w'=>e = .returned hvA∧Below w.heap.size w w':=by
 go_enter Tryz.func38,Tryz.ntmps38
 go_wp2_with fail
 refine ret_read hvA rfl ?_ ?_
 ·exact ⟨rfl,al _ _⟩
 ·simp [results,Tryz.results38,go_sem,hvA]
theorem hvA_at (w : World) : ∀ (j : Nat), j < 15 → (Instr.index 69 hvA (.int .i64 (j : Int))).run Tryz.prog w = .ok (.string (str (hasS j))) w
  | 0, _ => by kernel_rfl
  | 1, _ => by kernel_rfl
  | 2, _ => by kernel_rfl
  | 3, _ => by kernel_rfl
  | 4, _ => by kernel_rfl
  | 5, _ => by kernel_rfl
  | 6, _ => by kernel_rfl
  | 7, _ => by kernel_rfl
  | 8, _ => by kernel_rfl
  | 9, _ => by kernel_rfl
  | 10, _ => by kernel_rfl
  | 11, _ => by kernel_rfl
  | 12, _ => by kernel_rfl
  | 13, _ => by kernel_rfl
  | 14, _ => by kernel_rfl
  | n + 15, h => absurd h (by omega)
theorem has_c (k:Nat) (hk:k < 15) (w:World):Calls Tryz.prog 22 #[.int .i64 k] w fun e w'=>e = .returned (.string (str (hasS k)))∧Below w.heap.size w w':=by
 have h0:decide ((k:Int) < 0)=false:=by simp
 have h15:decide ((15:Int)≤(k:Int))=false:=by simp;omega
 have hx:=fun u=>hvA_at u k hk
 have HH:Hid (∀ u:World,Calls Tryz.prog 38 #[] u fun e w'=>e = .returned hvA∧Below u.heap.size u w'):=fun u=>haves_c u
 generalize str (hasS k)=R at hx ⊢
 generalize hvA=HV at hx HH
 go_enter Tryz.func22,Tryz.ntmps22
 go_wp2_with (go_at_call 38;(with_reducible refine (HH.out _).mono ?_);rintro e w' ⟨rfl,hb⟩;have hx2:=hx w')
 go_ret
 exact ⟨rfl,hb⟩
theorem has_no (k:Int) (hk:k < 0∨15≤k) (w:World):Calls Tryz.prog 22 #[.int .i64 k] w fun e w'=>e = .returned (.string ⟨#[]⟩)∧w=w':=by
 rcases hk with hk | hk
 ·have h0:decide (k < 0)=true:=by simp;omega
  go_enter Tryz.func22,Tryz.ntmps22
  go_wp2_with fail
  go_ret
  exact ⟨rfl,rfl⟩
 ·have h0:decide (k < 0)=false:=by simp;omega
  have h15:decide ((15:Int)≤k)=true:=by simp;omega
  go_enter Tryz.func22,Tryz.ntmps22
  go_wp2_with fail
  go_ret
  exact ⟨rfl,rfl⟩
theorem trim_lett:∀ k,k < 15→Lib.trimSuffix (hasS k) [98] = lettS k:=by decide
theorem lett_c (k:Nat) (hk:k < 15) (w:World):Calls Tryz.prog 76 #[.string (str (hasS k)),.string ⟨#[98]⟩] w fun e w'=>e = .returned (.string (str (lettS k)))∧w=w' :=
 (Tryz.strings_TrimSuffix (str (hasS k)) ⟨#[98]⟩ w (by
   have:∀ k,k < 15→(str (hasS k)).size≤9223372036854775807:=by decide
   exact this k hk)).mono (fun e w' h=>by
    obtain ⟨h1,h2⟩:=h
    refine ⟨?_,h2.symm⟩
    rw [h1,str_data,← trim_lett k hk]
    rfl)
variable {lo : Int}
theorem pkind_c (l:List Tok) (hl:l.length≤100000) (g:Nat) (v o:Value) (i:Nat) (e p:Int) (w:World) (hp:PS lo w g v i e p o) (hc:Ctx g v l w) :
 Calls Tryz.prog 75 #[.pointer (some ⟨g,0,none⟩)] w fun r w'=>r = .returned (.int .i64 (kindAt l i:Nat))∧Below w.heap.size w w':=by
 have HPA:=Lib.hid hp
 have HC:=Lib.hid hc
 obtain ⟨A,c,hve,hcc⟩:=(hc.now hp.lt).shape
 subst hve
 have HS:Hid (∀ u,Below w.heap.size w u→u.cell? ⟨g,0,none⟩=some (.slice A l.length c)∧u.cell? ⟨g,1,none⟩=some (.int .i64 i)):=fun u hu=>⟨(HPA.out.below hu).c0,(HPA.out.below hu).c1⟩
 have HIS:Hid (∀ (k:Nat) u,Below w.heap.size w u→Calls Tryz.prog 50 #[.slice A l.length c,.int .i64 i,.string (str (wordS k))] u fun e w'=>e = .returned (.bool (isE l i (wordS k)))∧Below u.heap.size u w'):=fun k u hu=>(is_c l (by omega) i (wordS k) _ u ((HC.out.keep (Keep.of hu) HPA.out.lt).now (Nat.lt_of_lt_of_le HPA.out.lt hu.size))).mono (fun e w' he=>⟨he.1,by rw [he.2];exact Below.refl _ _⟩)
 clear hp hc
 go_enter Tryz.func75,Tryz.ntmps75
 go_upto_region 2 with fail
 go_loopw [3] (fun k wr=>∃ j:Nat,2≤j∧j≤15∧k = .int .i64 j∧Below w.heap.size w wr∧∀ m,2≤m→m < j→isE l i (wordS m)=false) (fun k _=>15 - (intOf k).toNat)
 case atStart=>exact ⟨2,Nat.le_refl _,by decide,rfl,Below.refl _ _,fun m h1 h2=>absurd h2 (by omega)⟩
 case round =>
  obtain ⟨j,hj2,hj15,rfl,hb,hno⟩:=hrel
  have HNO:=Lib.hid hno
  have HHB:=Lib.hid hb
  clear hno
  by_cases hj:j < 15
  ·have hj14:j≤14:=by omega
   have hjl:(j:Int) < 15:=by omega
   have HS2:Hid (∀ u,Below wr.heap.size wr u→u.cell? ⟨g,0,none⟩=some (.slice A l.length c)∧u.cell? ⟨g,1,none⟩=some (.int .i64 i)):=fun u hu=>HS.out u (bt HHB.out hu)
   have HW:Hid (∀ u,Calls Tryz.prog 95 #[.int .i64 j] u fun e w'=>e = .returned (.string (str (wordS j)))∧Below u.heap.size u w'):=fun u=>pword_c j hj14 u
   have HI:=Lib.hid (fun u hu=>HIS.out j u (bt hb hu))
   obtain ⟨p0,p1⟩:=HS2.out wr (Below.refl _ _)
   have HWS:Hid (wordS j=wordS j):=rfl
   generalize hsj:wordS j=sj at HW HI
   have HSJ:=Lib.hid hsj
   clear hb HIS hsj
   cases hw:isE l i sj
   all_goals
    rw [hw] at HI
    have HWW:=Lib.hid hw
    clear hw
    go_upto_region 4 with fail
    go_region_held3 (fun u=>u.cell? ⟨g,0,none⟩=some (.slice A l.length c)∧u.cell? ⟨g,1,none⟩=some (.int .i64 i))
     (exact HS2.out _ (blq))
     (first
       | (go_at_call 95;(with_reducible refine (HW.out _).mono ?_);rintro r w6 ⟨rfl,hb6⟩;have h6:Below wr.heap.size wr w6:=bt (blq) hb6)
       | (go_at_call 50;(with_reducible refine (HI.out _ (blq)).mono ?_);rintro r w7 ⟨rfl,hb7⟩;have h7:Below wr.heap.size wr w7:=bt (blq) hb7))
   ·all_goals
     go_wp2_with fail
     go_roundw
     case rel=>exact ⟨j+1,by omega,by omega,by go_num,bt HHB.out (blq),fun m h1 h2=>by
      by_cases hm:m=j
      ·subst hm;rw [HSJ.out];exact HWW.out
      ·exact HNO.out m h1 (by omega)⟩
     case measure=>simp only [intOf];omega
   ·all_goals
     go_wp2_with fail
     go_ret
     exact ⟨ret_int (by rw [kindAt_of hj2 hj14 (by rw [HSJ.out];exact HWW.out)]),bt HHB.out (blq)⟩
  ·obtain rfl:j=15:=by omega
   clear hj hj2 hj15
   go_wp2_with fail
   go_ret
   refine ⟨ret_int ?_,HHB.out⟩
   have h1:kindAt l i=1:=Decidable.byContradiction fun hne=>by
    have hr:=kindAt_range l i
    have:=kindAt_is hne
    rw [HNO.out _ (by omega) (by omega)] at this
    cases this
   rw [h1];rfl
end Go.Proofs.YtaoeaaebafcegaaGreatDoor

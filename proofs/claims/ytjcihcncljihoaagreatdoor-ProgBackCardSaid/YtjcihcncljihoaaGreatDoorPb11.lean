/- Chapter 05 (programs), joined: StQA, StQB, StQD, StQC, StmM, StmN, StmO, StQE, StQF. -/
import Derived.Test.YtjcihcncljihoaaGreatDoorPb10
set_option maxRecDepth 100000
set_option maxHeartbeats 2000000
namespace Go.Proofs.YtjcihcncljihoaaGreatDoor
open Go Go.RowKit
set_option linter.unusedVariables false
open Go.Lib renaming hid→kaa
open Nat renaming le_refl→aaa,lt_of_lt_of_le→mba
open Go.Proofs.Tryz renaming prog→maa
theorem ca{P:Prop}(h:P:=by
 rw[HE.out];clear h1;go_enter Tryz.func241,Tryz.ntmps241;go_upto_region 1 with fail;go_quiet (fail);go_upto_region 3 with fail;generalize hW:World.drewN w _=wd;have hK:uh g w wd:=by subst hW;exact(uh.refl _ _).drewN _
 have hPd:PS lo wd g (.slice A l.length c) i 0 p o:=by subst hW;exact HPA.out.drewN _
 clear hW p0 p1 p2 p3 p4 p5 pf pl;have HPd:=Lib.hid hPd;obtain⟨pl,p0,p1,p2,p3,p4,p5,pf⟩:=hPd;have pf3:=pf 3;have pf4:=pf 4;have HT:Hid (∀ u,uh g wd u→Vi u (.slice A l.length c) l):=fun u hu=>(HC.out.keep (hK.trans hu) HPA.out.lt).now (Nat.lt_of_lt_of_le HPA.out.lt (hK.trans hu).size);go_region_with (go_at_call 87;refine(HP.out _ (HT.out _ ?_)).mono ?_;(first|exact(uh.refl g wd)|exact(uh.refl g wd).drew|exact(uh.refl g wd).drew.drew|exact(uh.refl g wd).drew.drew.drew|exact(uh.refl g wd).drew.drew.drew.drew|exact((uh.refl g wd).set 3 _)|exact((uh.refl g wd).set 3 _).drew|exact((uh.refl g wd).set 3 _).drew.drew|exact((uh.refl g wd).set 3 _).drew.drew.drew|exact((uh.refl g wd).set 3 _).drew.drew.drew.drew);rintro e w5 ⟨rfl,hb5⟩;(first|(have hK5:=(uh.refl g wd).trans (uh.of hb5);have hP5:=HPd.out.below hb5)|(have hK5:=(uh.refl g wd).drew.trans (uh.of hb5);have hP5:=HPd.out.drew.below hb5)|(have hK5:=(uh.refl g wd).drew.drew.trans (uh.of hb5);have hP5:=HPd.out.drew.drew.below hb5)|(have hK5:=(uh.refl g wd).drew.drew.drew.trans (uh.of hb5);have hP5:=HPd.out.drew.drew.drew.below hb5)|(have hK5:=(uh.refl g wd).drew.drew.drew.drew.trans (uh.of hb5);have hP5:=HPd.out.drew.drew.drew.drew.below hb5)|(have hK5:=((uh.refl g wd).set 3 _).trans (uh.of hb5);have hP5:=(HPd.out.set3 _).below hb5)|(have hK5:=((uh.refl g wd).set 3 _).drew.trans (uh.of hb5);have hP5:=(HPd.out.set3 _).drew.below hb5)|(have hK5:=((uh.refl g wd).set 3 _).drew.drew.trans (uh.of hb5);have hP5:=(HPd.out.set3 _).drew.drew.below hb5)|(have hK5:=((uh.refl g wd).set 3 _).drew.drew.drew.trans (uh.of hb5);have hP5:=(HPd.out.set3 _).drew.drew.drew.below hb5)|(have hK5:=((uh.refl g wd).set 3 _).drew.drew.drew.drew.trans (uh.of hb5);have hP5:=(HPd.out.set3 _).drew.drew.drew.drew.below hb5));have HP5:=Lib.hid hP5;obtain⟨ql,q0,q1,q2,q3,q4,q5,qf⟩:=hP5;have qf3:=qf 3;have qf4:=qf 4);all_goals
  go_wp2_with fail;first|refine bodyPost_end (results_none rfl _ _ _) rfl ?_|refine bodyPost_ret (results_none rfl _ _ _) rfl ?_
  refine⟨rfl,?_⟩;first
   |exact⟨hK.trans ((hK5.set _ _).set _ _),HP5.out.set34 _ _⟩
   |exact⟨hK.trans ((hK5.set _ _).set _ _),HP5.out.set43 _ _⟩
   |exact⟨hK.trans (hK5.set _ _),HP5.out.set4 _⟩
   |exact⟨hK.trans ((hK5.set _ _).set _ _).drew,(HP5.out.set34 _ _).drew⟩
   |exact⟨hK.trans ((hK5.set _ _).set _ _).drew,(HP5.out.set43 _ _).drew⟩
   |exact⟨hK.trans (hK5.set _ _).drew,(HP5.out.set4 _).drew⟩
   |exact⟨hK.trans ((hK5.set _ _).set _ _).drew.drew,(HP5.out.set34 _ _).drew.drew⟩
   |exact⟨hK.trans ((hK5.set _ _).set _ _).drew.drew,(HP5.out.set43 _ _).drew.drew⟩
   |exact⟨hK.trans (hK5.set _ _).drew.drew,(HP5.out.set4 _).drew.drew⟩):P:=h
theorem oa{P:Prop}(h:P:=by have hw1:=HWX.out.keep hk1 hp1 (iq hl _ HWX.out.im _);rw[HI1.out,HE1.out,HP1.out]at hw1;have HW1:=Lib.hid hw1;clear hk1 hp1 hw1;clear HWX HI1 HE1 HP1;go_upto_region 11 with fail;go_wp2_with (go_at_call 272;refine(iv l hl htx g _ _ i1 (Nat.le_trans HW1.out.im (by decide)) e1 p1 _ HW1.out.pq HW1.out.ctx).mono ?_;rintro r w2 ⟨x1,rfl,hx1,hk2,hp2⟩;obtain⟨A1,c1,rfl,_⟩:=nk.shape hx1.1;have HX1:=Lib.hid hx1;have HW2:=Lib.hid (HW1.out.keep hk2 hp2 (Im HW1.out.im (fun y j hr=>by have:=Mj hr;omega)));obtain⟨sl,s0,s1,s2,s3,s4,s5,s6,s7,s8,sfr⟩:=HW2.out.sb;have sfc:=sfr 3);refine bodyPost_end (results_none rfl _ _ _) rfl ?_;exact⟨rfl,_,_,HW2.out.nodes (ri e1 p1 i1 (Ri l i1) []).1 _ HX1.out.1 (HX1.out.2.mono (Nat.le_trans (Nat.succ_le_of_lt HW1.out.sb.lt) (Nat.le_refl _)))⟩):P:=h
theorem qa{P:Prop}(h:P:=by have hw1:=HWX.out.keep hk1 hp1 (iq hl _ HWX.out.im _);rw[HI1.out,HE1.out,HP1.out]at hw1;have HW1:=Lib.hid hw1;clear hk1 hp1 hw1;clear HWX HI1 HE1 HP1;go_upto_region 13 with fail;go_wp2_with (go_at_call 272;refine(iv l hl htx g _ _ i1 (Nat.le_trans HW1.out.im (by decide)) e1 p1 _ HW1.out.pq HW1.out.ctx).mono ?_;rintro r w2 ⟨x1,rfl,hx1,hk2,hp2⟩;obtain⟨A1,c1,rfl,_⟩:=nk.shape hx1.1;have HX1:=Lib.hid hx1;have HW2:=Lib.hid (HW1.out.keep hk2 hp2 (Im HW1.out.im (fun y j hr=>by have:=Mj hr;omega)));obtain⟨sl,s0,s1,s2,s3,s4,s5,s6,s7,s8,sfr⟩:=HW2.out.sb;have sfc:=sfr 4);refine bodyPost_end (results_none rfl _ _ _) rfl ?_;exact⟨rfl,_,_,HW2.out.more (ri e1 p1 i1 (Ri l i1) []).1 _ HX1.out.1 (HX1.out.2.mono (Nat.le_trans (Nat.succ_le_of_lt HW1.out.sb.lt) (Nat.le_refl _)))⟩):P:=h
theorem ya{P:Prop}(h:P:=by have hw1:=HWX.out.keep hk1 hp1 (iq hl _ HWX.out.im _);rw[HI1.out,HE1.out,HP1.out]at hw1;have HW1:=Lib.hid hw1;clear hk1 hp1 hw1;clear HWX HI1 HE1 HP1;go_upto_region 15 with fail;go_wp2_with (go_at_call 273;refine(sy l hl g _ _ i1 (Nat.le_trans HW1.out.im (by decide)) e1 p1 _ HW1.out.pq HW1.out.ctx).mono ?_;rintro r w2 ⟨x1,rfl,hx1,hk2,hp2⟩;subst hx1;have HW2:=Lib.hid (HW1.out.keep hk2 hp2 (Im HW1.out.im (fun y j hr=>by have:=Ql hr;omega)));obtain⟨sl,s0,s1,s2,s3,s4,s5,s6,s7,s8,sfr⟩:=HW2.out.sb;have sfc:=sfr 5);refine bodyPost_end (results_none rfl _ _ _) rfl ?_;exact⟨rfl,_,_,HW2.out.num (ri e1 p1 i1 (Gi l i1) 0).1⟩):P:=h
theorem za{P:Prop}(h:P:=by have hw1:=HWX.out.keep hk1 hp1 (iq hl _ HWX.out.im _);rw[HI1.out,HE1.out,HP1.out]at hw1;have HW1:=Lib.hid hw1;clear hk1 hp1 hw1;clear HWX HI1 HE1 HP1;go_upto_region 9 with fail;go_wp2_with (go_at_call 271;refine(dv l hl htx g _ _ i1 (Nat.le_trans HW1.out.im (by decide)) e1 p1 _ HW1.out.pq HW1.out.ctx).mono ?_;rintro r w2 ⟨x1,rfl,hx1,hk2,hp2⟩;subst hx1;have HW2:=Lib.hid (HW1.out.keep hk2 hp2 (Im HW1.out.im (fun y j hr=>by have:=Si hr;omega)));obtain⟨sl,s0,s1,s2,s3,s4,s5,s6,s7,s8,sfr⟩:=HW2.out.sb;have sfc:=sfr 2);refine bodyPost_end (results_none rfl _ _ _) rfl ?_;exact⟨rfl,_,_,HW2.out.name (ri e1 p1 i1 (Th l i1) []).1⟩):P:=h
theorem Aa{P:Prop}(h:P:=by have hw1:=HWX.out.keep hk1 hp1 (iq hl _ HWX.out.im _);rw[HI1.out,HE1.out,HP1.out]at hw1;have HW1:=Lib.hid hw1;clear hk1 hp1 hw1;clear HWX HI1 HE1 HP1;go_upto_region 7 with fail;go_wp2_with (go_at_call 271;refine(dv l hl htx g _ _ i1 (Nat.le_trans HW1.out.im (by decide)) e1 p1 _ HW1.out.pq HW1.out.ctx).mono ?_;rintro r w2 ⟨x1,rfl,hx1,hk2,hp2⟩;subst hx1;have HW2:=Lib.hid (HW1.out.keep hk2 hp2 (Im HW1.out.im (fun y j hr=>by have:=Si hr;omega)));obtain⟨sl,s0,s1,s2,s3,s4,s5,s6,s7,s8,sfr⟩:=HW2.out.sb;have sfc:=sfr 1);refine bodyPost_end (results_none rfl _ _ _) rfl ?_;exact⟨rfl,_,_,HW2.out.reg (ri e1 p1 i1 (Th l i1) []).1⟩):P:=h
theorem Ba{P:Prop}(h:P:=by
 go_enter Tryz.func242,Tryz.ntmps242;go_upto_region 0 with fail;go_quiet (first|(go_at_call 23;refine(HIS2.out _ ?_).mono ?_;(repeat (first|exact uh.refl _ _|refine uh.drewN ?_ _|refine uh.drew ?_));rintro e w' ⟨he,hw⟩;exact⟨he,_,hw.symm⟩));go_wp2_with (go_at_call 241;refine(HBD.out _ ((uh.refl g w).drewN nq) (HPA.out.drewN nq)).mono ?_;rintro r w2 ⟨rfl,hk2,hp2⟩);first|refine bodyPost_end (results_none rfl _ _ _) rfl ?_|refine bodyPost_ret (results_none rfl _ _ _) rfl ?_
 exact⟨rfl,((uh.refl g w).drewN nq).trans hk2,hp2⟩):P:=h
theorem Ea{P:Prop}(h:P:=by clear hA hc;obtain⟨pl,p0,p1,p2,p3,p4,p5,pf⟩:=hp;go_enter Tryz.func273,Tryz.ntmps273;go_upto_region 1 with fail;go_quiet (fail);have HPd:=Lib.hid (HPA.out.drewN nq);have HKd:=Lib.hid ((uh.refl g w).drewN nq);clear pl p0 p1 p2 p3 p4 p5 pf;generalize World.drewN _ _=X at HPd HKd ⊢;obtain⟨pl,p0,p1,p2,p3,p4,p5,pf⟩:=HPd.out;go_wp2_with (go_at_call 241;refine(HBD.out 5 _ HKd.out HPd.out).mono ?_;rintro r w2 ⟨rfl,hk2,hp2⟩);go_ret;exact Nv (HA.out) rfl (HKd.out.trans hk2) hp2):P:=h
theorem Fa{P:Prop}(h:P:=by clear hA hc;obtain⟨pl,p0,p1,p2,p3,p4,p5,pf⟩:=hp;go_enter Tryz.func271,Tryz.ntmps271;go_upto_region 1 with fail;go_quiet (fail);have HPd:=Lib.hid (HPA.out.drewN nq);have HKd:=Lib.hid ((uh.refl g w).drewN nq);clear pl p0 p1 p2 p3 p4 p5 pf;generalize World.drewN _ _=X at HPd HKd ⊢;obtain⟨pl,p0,p1,p2,p3,p4,p5,pf⟩:=HPd.out;go_wp2_with (go_at_call 241;refine(HBD.out 5 _ HKd.out HPd.out).mono ?_;rintro r w2 ⟨rfl,hk2,hp2⟩);go_ret;exact Nv (HA.out) rfl (HKd.out.trans hk2) hp2):P:=h
theorem Ia{P:Prop}(h:P:=by
 go_enter Tryz.func242,Tryz.ntmps242;go_upto_region 0 with fail;go_quiet (fail);go_wp2_with (go_at_call 241;refine(HBD.out _ ((uh.refl g w).drewN nq) (HPA.out.drewN nq)).mono ?_;rintro r w2 ⟨rfl,hk2,hp2⟩);first|refine bodyPost_end (results_none rfl _ _ _) rfl ?_|refine bodyPost_ret (results_none rfl _ _ _) rfl ?_
 exact⟨rfl,((uh.refl g w).drewN nq).trans hk2,hp2⟩):P:=h
theorem Oa{P:Prop}(h:P:=by go_quiet (fail);replace HPd:=Lib.hid (HPd.out.drewN nq);replace HKd:=Lib.hid (HKd.out.drewN nq);clear pl p0 p1 p2 p3 p4 p5 pf x0 x2;generalize World.drewN _ _=X2 at HPd HKd ⊢;go_wp2_with (go_at_call 241;refine(HBD.out 11 _ HKd.out HPd.out).mono ?_;rintro r w2 ⟨rfl,hk2,hp2⟩);go_ret;exact Nv (HA.out) rfl (HKd.out.trans hk2) hp2):P:=h
theorem Tb{P:Prop}(h:P:=by obtain⟨hl,h0,h1,h2,h3,h4,h5,hf⟩:=h;refine⟨by simpa[World.setCell]using hl,?_,?_,?_,?_,?_,?_,fun k=>by simpa using hf k⟩<;>simp[*,go_sem]):P:=h
theorem Tc{P:Prop}(h:P:=by go_enter Tryz.func196,Tryz.ntmps196;go_wp2_with fail;go_ret;exact⟨rfl,rfl⟩):P:=h
theorem Od{P:Prop}(h:P:=by unfold fi;rw[if_neg (by omega),if_neg (by omega)];exact Xx l x i e p [44]):P:=h
theorem ae{P:Prop}(h:P:=by unfold fi;rw[if_neg (by decide),if_pos rfl];exact Xx l x i e p [61]):P:=h
theorem Bg{P:Prop}(h:P:=by first|exact Nat.le_refl _|(have:=(show Below w.heap.size w _ from(Wo)).size;exact this)):P:=h
theorem Hg{P:Prop}(h:P:=by have:=h.gq;omega):P:=h
structure PS (lo:Int) (w:World) (g:Nat) (v:Value) (i e p:Int) (o:Value):Prop where
 lt:g < w.heap.size
 c0:w.cell? ⟨g,0,none⟩=some (v)
 c1:w.cell? ⟨g,1,none⟩=some (.int .i64 i)
 c2:w.cell? ⟨g,2,none⟩=some (.int .i64 lo)
 c3:w.cell? ⟨g,3,none⟩=some (.int .i64 e)
 c4:w.cell? ⟨g,4,none⟩=some (.int .i64 p)
 c5:w.cell? ⟨g,5,none⟩=some (o)
 fr:∀ j,w.frozen? ⟨g,j,none⟩=false
variable {lo : Int}
theorem PS.belowB{w w':World}{g B:Nat}{v o:Value}{i e p:Int}(h:PS lo w g v i e p o)(E:Below B w w')(A:g<B):PS lo w' g v i e p o:=by
 have H:=E.size;have G:=h.lt;exact⟨by omega,(E.cell (p:=⟨g,0,none⟩) A).trans h.c0,(E.cell (p:=⟨g,1,none⟩) A).trans h.c1,(E.cell (p:=⟨g,2,none⟩) A).trans h.c2,(E.cell (p:=⟨g,3,none⟩) A).trans h.c3,(E.cell (p:=⟨g,4,none⟩) A).trans h.c4,(E.cell (p:=⟨g,5,none⟩) A).trans h.c5,
  fun j=>(E.frozen (p:=⟨g,j,none⟩) A).trans (h.fr j)⟩
theorem PS.below{w w':World}{g:Nat}{v o:Value}{i e p:Int}(h:PS lo w g v i e p o)(A:Below w.heap.size w w'):PS lo w' g v i e p o:=h.belowB A h.lt
theorem PS.drew{w:World}{g:Nat}{v o:Value}{i e p:Int}(h:PS lo w g v i e p o):PS lo w.drew g v i e p o:=h.below ⟨rfl,rfl,rfl,aaa _,fun _ _=>rfl⟩
theorem PS.drewN{w:World}{g:Nat}{v o:Value}{i e p:Int}(h:PS lo w g v i e p o)(n:Nat):PS lo (w.drewN n) g v i e p o:=h.below ⟨rfl,rfl,rfl,aaa _,fun _ _=>rfl⟩
theorem PS.set1{w:World}{g:Nat}{v o:Value}{i e p:Int}(h:PS lo w g v i e p o)(j:Int):PS lo (w.setCell ⟨g,1,none⟩ (.int .i64 j)) g v j e p o:=by exact Tb
theorem PS.set2{w:World}{g:Nat}{v o:Value}{i e p:Int}(h:PS lo w g v i e p o)(j:Int):PS j (w.setCell ⟨g,2,none⟩ (.int .i64 j)) g v i e p o:=by exact Tb
theorem PS.set3{w:World}{g:Nat}{v o:Value}{i e p:Int}(h:PS lo w g v i e p o)(j:Int):PS lo (w.setCell ⟨g,3,none⟩ (.int .i64 j)) g v i j p o:=by exact Tb
theorem PS.set4{w:World}{g:Nat}{v o:Value}{i e p:Int}(h:PS lo w g v i e p o)(j:Int):PS lo (w.setCell ⟨g,4,none⟩ (.int .i64 j)) g v i e j o:=by exact Tb
theorem PS.set5{w:World}{g:Nat}{v o:Value}{i e p:Int}(h:PS lo w g v i e p o)(j:Value):PS lo (w.setCell ⟨g,5,none⟩ (j)) g v i e p j:=by exact Tb
theorem PS.set34{w:World}{g:Nat}{v o:Value}{i e p:Int}(h:PS lo w g v i e p o)(x y:Int):PS lo ((w.setCell ⟨g,3,none⟩ (.int .i64 x)).setCell ⟨g,4,none⟩ (.int .i64 y)) g v i x y o:=(h.set3 x).set4 y
theorem PS.other{w:World}{g q j:Nat}{v o u:Value}{i e p:Int}(h:PS lo w g v i e p o)(A:g≠q):PS lo (w.setCell ⟨q,j,none⟩ u) g v i e p o:=by obtain⟨G,H,I,J,L,M,h5,E⟩:=h;refine⟨by simpa[World.setCell]using G,?_,?_,?_,?_,?_,?_,fun k=>by simpa using E k⟩<;>simp[World.cell?_setCell_other]<;>assumption
theorem PS.grown{w w':World}{g:Nat}{v o:Value}{i e p:Int}{row:Option Nat}(h:PS lo w g v i e p o)(G:w.grownBy w' row)(A:row≠some g):PS lo w' g v i e p o:=by have E:=G.block g h.lt (Ne.symm A);have e:=fun j y (H:w.cell? ⟨g,j,none⟩=some y)=>(World.cell?_of_block (a:=⟨g,j,none⟩) E).trans H;exact⟨mba h.lt G.size,e _ _ h.c0,e _ _ h.c1,e _ _ h.c2,e _ _ h.c3,e _ _ h.c4,e _ _ h.c5,fun j=>(World.frozen?_of_block (a:=⟨g,j,none⟩) E).trans (h.fr j)⟩
theorem Fo(l:List xh)(hl:l.length≤100000)(g:Nat)(v o:Value)(i:Nat)(e E p:Int)(w:World)(M:PS lo w g v i e p o)(J:Jm g v l w):Calls maa 241 #[.pointer (some ⟨g,0,none⟩),.int .i64 E] w fun r w'=>r = .returned (.tuple #[])∧uh g w w'∧PS lo w' g v i (wE l i e E) (wP l i e p) o:=by
 have G:=J.now M.lt;obtain⟨A,c,O,Q⟩:=G.shape;subst O;have HP:Hid (∀ u:World,Vi u (.slice A l.length c) l→Calls maa 87 #[.slice A l.length c,.int .i64 i] u (Vj l i u)):=fun u hu=>gv l Tf i _ u hu;have HPA:=kaa M;have HC:=kaa J;obtain⟨pl,p0,p1,p2,p3,p4,p5,pf⟩:=M;clear J G;by_cases H:e=0
 ·have I:Hid (wP l i e p=Ch l i):=if_pos H;rw[I.out];subst H;by_cases h1:l.length≤i
  ·have Y:decide ((l.length:Int)≤(i:Int))=true:=by simp;omega
   have L:decide (l.length≤i)=true:=by simp;omega
   have HE:Hid (wE l i 0 E=6):=by show _=_;unfold wE;rw[if_pos rfl,if_pos h1]
   exact ca
  ·have Y:decide ((l.length:Int)≤(i:Int))=false:=by simp;omega
   have L:decide (l.length≤i)=false:=by simp;omega
   have HE:Hid (wE l i 0 E=E):=by show _=_;unfold wE;rw[if_pos rfl,if_neg h1]
   exact ca
 ·have Z:(e==0)=false:=by simpa using H
  have HE:Hid (wE l i e E=e):=if_neg H;have I:Hid (wP l i e p=p):=if_neg H;rw[I.out,HE.out];go_enter Tryz.func241,Tryz.ntmps241;go_wp2_with fail;first|refine bodyPost_end (results_none rfl _ _ _) rfl ?_|refine bodyPost_ret (results_none rfl _ _ _) rfl ?_
  exact⟨rfl,uh.refl _ _,HPA.out⟩
theorem Sj(l:List xh)(hl:l.length≤100000)(s:List UInt8)(g:Nat)(v o:Value)(i:Nat)(hi:i≤1000000000)(e p:Int)(w:World)(hp:PS lo w g v i e p o)(hc:Jm g v l w):Calls maa 242 #[.pointer (some ⟨g,0,none⟩),.string (vh s)] w fun r w'=>r = .returned (.tuple #[])∧uh g w w'∧PS lo w' g v (mI l s i e:Nat) (mE l s i e) (mP l s i e p) o:=by
 have J:=hc.now hp.lt;obtain⟨A,c,af,al⟩:=J.shape;subst af;have HPA:=kaa hp;have HC:=kaa hc;have HBD:Hid (∀ u,uh g w u→PS lo u g (.slice A l.length c) i e p o→Calls maa 241 #[.pointer (some ⟨g,0,none⟩),.int .i64 5] u fun r w'=>r = .returned (.tuple #[])∧uh g u w'∧PS lo w' g (.slice A l.length c) i (wE l i e 5) (wP l i e p) o):=fun u hk hq=>Fo l hl g _ o i e 5 p u hq (HC.out.keep hk HPA.out.lt);have E:Hid (∀ u:World,Vi u (.slice A l.length c) l→Calls maa 23 #[.slice A l.length c,.int .i64 i,.string (vh s)] u (Vk l i s u)):=fun u L=>Tu l Tf i s _ u L;have I:=kaa J;obtain⟨pl,p0,p1,p2,p3,p4,p5,pf⟩:=hp;have Z:=pf 1;clear hc J;by_cases he:e=0
 ·have ad:(e==0)=true:=by simpa using he
  cases G:Qh l i s;·have O:Hid (mI l s i e=i):=if_neg (fun h=>by rw[G]at h;cases h.2);have M:Hid (mE l s i e=wE l i e 5):=if_neg (fun h=>by rw[G]at h;cases h.2);have Y:Hid (mP l s i e p=wP l i e p):=if_neg (fun h=>by rw[G]at h;cases h.2);rw[O.out,M.out,Y.out];subst he;unfold Vk at E;rw[G]at E;clear G;have HIS2:Hid (∀ u:World,uh g w u→Calls maa 23 #[.slice A l.length c,.int .i64 i,.string (vh s)] u fun r w'=>r = .returned (.bool false)∧u=w'):=fun u L=>E.out u ((HC.out.keep L HPA.out.lt).now (mba HPA.out.lt L.size));clear E I;exact Ba
  ·have O:Hid (mI l s i e=i+1):=if_pos ⟨he,G⟩;have M:Hid (mE l s i e=0):=if_pos ⟨he,G⟩;have Y:Hid (mP l s i e p=p):=if_pos ⟨he,G⟩;rw[O.out,M.out,Y.out];subst he;unfold Vk at E;rw[G]at E;clear G;have HIS2:Hid (∀ u:World,uh g w u→Calls maa 23 #[.slice A l.length c,.int .i64 i,.string (vh s)] u fun r w'=>r = .returned (.bool true)∧u=w'):=fun u L=>E.out u ((HC.out.keep L HPA.out.lt).now (mba HPA.out.lt L.size));clear E I;go_enter Tryz.func242,Tryz.ntmps242;go_upto_region 0 with fail;go_quiet (first|(go_at_call 23;refine(HIS2.out _ ?_).mono ?_;(repeat (first|exact uh.refl _ _|refine uh.drewN ?_ _|refine uh.drew ?_));rintro e w' ⟨he,hw⟩;exact⟨he,_,hw.symm⟩));have H:=kaa (HPA.out.drewN nq);have Q:=kaa ((uh.refl g w).drewN nq);clear pl p0 p1 p2 p3 p4 p5 pf Z;generalize World.drewN _ _=X at H Q ⊢;obtain⟨pl,p0,p1,p2,p3,p4,p5,pf⟩:=H.out;have Z:=pf 1;have ao:(i:Int)≤1000000000:=by omega
   go_wp2_with fail;first|refine bodyPost_end (results_none rfl _ _ _) rfl ?_|refine bodyPost_ret (results_none rfl _ _ _) rfl ?_
   exact⟨rfl,Q.out.set 1 _,H.out.set1 _⟩
 ·have ad:(e==0)=false:=by simpa using he
  have O:Hid (mI l s i e=i):=if_neg (fun h=>he h.1);have M:Hid (mE l s i e=wE l i e 5):=if_neg (fun h=>he h.1);have Y:Hid (mP l s i e p=wP l i e p):=if_neg (fun h=>he h.1);rw[O.out,M.out,Y.out];clear E I;exact Ia
end Go.Proofs.YtjcihcncljihoaaGreatDoor
namespace Go.Proofs.YtjcihcncljihoaaGreatDoor
open Go Go.RowKit
set_option linter.unusedVariables false
open Go.Lib renaming hid→kaa
open Go.RowKit.Below renaming refl→Gaa
open Go.World renaming drewN→Eba,setCell→eca
open Int renaming natCast_nonneg→Sba
open Nat renaming le_of_lt→nba,le_refl→aaa,le_trans→yba,lt_of_lt_of_le→mba,succ_le_of_lt→tba
open uh renaming of→zba,refl→Aba
open Go.Proofs.Tryz renaming prog→maa
variable {lo:Int}
def BN{α:Type}(V:World→Value→α→Prop)(g:Nat)(v o:Value)(a:α × Nat × Int × Int)(w:World)(r:Ending)(w':World):Prop:=∃ x,r = .returned x∧V w' x a.1∧uh g w w'∧PS lo w' g v (a.2.1:Nat) a.2.2.1 a.2.2.2 o
theorem Nv{α:Type}{V:World→Value→α→Prop}{g:Nat}{v o:Value}{a:α × Nat × Int × Int}{w w':World}{x:Value}{y:α}{i:Nat}{e p:Int}(ha:a=(y,i,e,p))(G:V w' x y)(A:uh g w w')(E:PS lo w' g v i e p o):BN (lo:=lo) V g v o a w (.returned x) w':=by subst ha;exact⟨x,rfl,G,A,E⟩
theorem dv(l:List xh)(hl:l.length≤100000)(a1:∀ t∈l,t.text.length≤1000000)(g:Nat)(v o:Value)(i:Nat)(hi:i≤1000000000)(e p:Int)(w:World)(hp:PS lo w g v i e p o)(hc:Jm g v l w):Calls maa 271 #[.pointer (some ⟨g,0,none⟩)] w (BN (lo:=lo) AP g v o (ri e p i (Th l i) []) w):=by
 have HPA:=kaa hp;have HC:=kaa hc;have HBD:Hid (∀ (e0:Int) u,uh g w u→PS lo u g v i e p o→Calls maa 241 #[.pointer (some ⟨g,0,none⟩),.int .i64 e0] u fun r w'=>r = .returned (.tuple #[])∧uh g u w'∧PS lo w' g v i (wE l i e e0) (wP l i e p) o):=fun e0 u hk hq=>Fo l hl g _ o i e e0 p u hq (HC.out.keep hk HPA.out.lt);have a9:(0:Int)≤(i:Int):=Sba _;by_cases he:e=0
 ·subst he;by_cases L:i<l.length
  ·have aU:(i:Int)<(l.length:Int):=by omega
   have av:decide ((l.length:Int)≤(i:Int))=false:=by simp;omega
   have aT:decide (l.length≤i)=false:=by simp;omega
   obtain⟨G,E,ct,hE,a8,a6,Q⟩:=hc.at_ Tf;subst hE;have aV:∀ u,uh g w u→u.cell? ⟨G,E+i*4,none⟩=some (.int .i64 (tk l i).kind)∧u.cell? ⟨G,E+i*4+1,none⟩=some (.string (vh (tk l i).text)):=fun u J=>by have h:=Q u (J.below (nba HPA.out.lt)) i L;rw[← rj L]at h;exact⟨h.kind,h.text⟩
   have H:=kaa aV;have hR:Th l i=if (tk l i).kind=1∧Hh (tk l i).text=true then .inl ((tk l i).text,i+1)else .inr (cj l i 5):=by
    unfold Th;by_cases M:(tk l i).kind=1∧Hh (tk l i).text=true;·rw[if_pos ⟨L,M⟩,if_pos M]
    ·rw[if_neg (fun h=>M h.2),if_neg M]
   have O:=kaa hR;have aW:(tk l i).text.length≤1000000:=by rw[rj L];exact a1 _ (List.getElem_mem L)
   have I:=kaa (fun u (J:Below w.heap.size w u)=>dq (tk l i).text aW u ((HC.out.keep (zba J) HPA.out.lt).env));unfold Gj at I;clear hR aV Q hc aW;generalize (tk l i).kind=k0 at H O;generalize (tk l i).text=t0 at H O I;obtain⟨x0,x2⟩:=H.out w (Aba _ _);by_cases M:k0=1
   ·subst M;cases hn:Hh t0
    ·have hA:ri 0 p i (Th l i) []=([],i,wE l i 0 5,wP l i 0 p):=Bm (by rw[O.out,if_neg (fun h=>by rw[hn]at h;cases h.2)]);have HA:=kaa hA;rw[hn]at I;clear hA O hn;generalize vh t0=T0 at H I x2;have HS:Hid (∀ u,Below w.heap.size w u→u.cell? ⟨g,0,none⟩=some (.slice (some ⟨G,E,none⟩) l.length ct)∧u.cell? ⟨g,1,none⟩=some (.int .i64 i)∧u.cell? ⟨g,3,none⟩=some (.int .i64 0)∧u.cell? ⟨G,E+i*4,none⟩=some (.int .i64 1)∧u.cell? ⟨G,E+i*4+1,none⟩=some (.string T0)):=fun u J=>⟨(HPA.out.below J).c0,(HPA.out.below J).c1,(HPA.out.below J).c3,(H.out u (zba J)).1,(H.out u (zba J)).2⟩;obtain⟨pl,p0,p1,p2,p3,p4,p5,pf⟩:=hp;go_enter Tryz.func271,Tryz.ntmps271;go_upto_region 1 with fail;go_region_held3 (fun u=>u.cell? ⟨g,0,none⟩=some (.slice (some ⟨G,E,none⟩) l.length ct)∧u.cell? ⟨g,1,none⟩=some (.int .i64 i)∧u.cell? ⟨g,3,none⟩=some (.int .i64 0)∧u.cell? ⟨G,E+i*4,none⟩=some (.int .i64 1)∧u.cell? ⟨G,E+i*4+1,none⟩=some (.string T0))
      (exact HS.out _ (Wo))
      (first
       |(go_at_call 44;(with_reducible refine(I.out _ (Wo)).mono ?_);rintro r w5 ⟨rfl,af⟩;have h5:Below w.heap.size w w5:=bt (Wo) af))
     all_goals go_wp2_with (go_at_call 241;refine(HBD.out 5 _ (zba (Wo)) (HPA.out.below (Wo))).mono ?_;rintro r w2 ⟨rfl,hk2,hp2⟩);go_ret;exact Nv HA.out rfl ((zba h5).trans (by first|exact hk2|exact((Aba _ _).drew).trans hk2)) hp2
    ·have hA:ri 0 p i (Th l i) []=(t0,i+1,0,p):=DC (by rw[O.out,if_pos ⟨rfl,hn⟩]);have HA:=kaa hA;rw[hn]at I;clear hA O hn;have aX:Hid (vh t0=vh t0):=rfl;generalize ao:vh t0=T0 at H I x2;have aY:=kaa ao;clear ao aX;have HS:Hid (∀ u,Below w.heap.size w u→u.cell? ⟨g,0,none⟩=some (.slice (some ⟨G,E,none⟩) l.length ct)∧u.cell? ⟨g,1,none⟩=some (.int .i64 i)∧u.cell? ⟨g,3,none⟩=some (.int .i64 0)∧u.cell? ⟨G,E+i*4,none⟩=some (.int .i64 1)∧u.cell? ⟨G,E+i*4+1,none⟩=some (.string T0)):=fun u J=>⟨(HPA.out.below J).c0,(HPA.out.below J).c1,(HPA.out.below J).c3,(H.out u (zba J)).1,(H.out u (zba J)).2⟩;obtain⟨pl,p0,p1,p2,p3,p4,p5,pf⟩:=hp;have bb:(i:Int)≤1000000000:=by omega
     go_enter Tryz.func271,Tryz.ntmps271;go_upto_region 1 with fail;go_region_held3 (fun u=>u.cell? ⟨g,0,none⟩=some (.slice (some ⟨G,E,none⟩) l.length ct)∧u.cell? ⟨g,1,none⟩=some (.int .i64 i)∧u.cell? ⟨g,3,none⟩=some (.int .i64 0)∧u.cell? ⟨G,E+i*4,none⟩=some (.int .i64 1)∧u.cell? ⟨G,E+i*4+1,none⟩=some (.string T0))
      (exact HS.out _ (Wo))
      (first
       |(go_at_call 44;(with_reducible refine(I.out _ (Wo)).mono ?_);rintro r w5 ⟨rfl,af⟩;have h5:Below w.heap.size w w5:=bt (Wo) af))
     all_goals
      have al:=kaa (HPA.out.below h5);clear pl p0 p1 p2 p3 p4 p5 pf x0 x2;obtain⟨pl,p0,p1,p2,p3,p4,p5,pf⟩:=al.out;have a3:=pf 1;go_upto_region 5 with fail;have ad:=kaa (al.out.set1 (i+1));have Z:Hid (uh g w (w5.setCell ⟨g,1,none⟩ (.int .i64 (i+1)))):=(zba h5).set 1 _;clear pl p0 p1 p2 p3 p4 p5 pf a3;generalize eca _ _ _=Y at ad Z ⊢;obtain⟨pl,p0,p1,p2,p3,p4,p5,pf⟩:=ad.out;obtain⟨x0,x2⟩:=H.out Y Z.out;have bf:(i:Int)+1 - 1=(i:Int):=by omega
      go_quiet (fail);go_wp2_with fail;go_ret;exact Nv HA.out (congrArg Value.string aY.out.symm) (Z.out.drewN _) (ad.out.drewN _)
   ·have a0:(k0==1)=false:=by simpa using M
    have a5:(k0 != 1)=true:=by rw[bne,a0];rfl
    have hA:ri 0 p i (Th l i) []=([],i,wE l i 0 5,wP l i 0 p):=Bm (by rw[O.out,if_neg (fun h=>M h.1)]);have HA:=kaa hA;clear hA O M;obtain⟨pl,p0,p1,p2,p3,p4,p5,pf⟩:=hp;go_enter Tryz.func271,Tryz.ntmps271;go_upto_region 1 with fail;go_quiet (fail);have HPd:=kaa (HPA.out.drewN nq);have HKd:=kaa ((Aba g w).drewN nq);clear pl p0 p1 p2 p3 p4 p5 pf;generalize Eba _ _=X at HPd HKd ⊢;obtain⟨pl,p0,p1,p2,p3,p4,p5,pf⟩:=HPd.out;go_wp2_with (go_at_call 241;refine(HBD.out 5 _ HKd.out HPd.out).mono ?_;rintro r w2 ⟨rfl,hk2,hp2⟩);go_ret;exact Nv (HA.out) rfl (HKd.out.trans hk2) hp2
  ·have aU:¬ (i:Int)<(l.length:Int):=by omega
   have av:decide ((l.length:Int)≤(i:Int))=true:=by simp;omega
   have aT:decide (l.length≤i)=true:=by simp;omega
   have hA:ri 0 p i (Th l i) []=([],i,wE l i 0 5,wP l i 0 p):=Bm (by unfold Th;rw[if_neg (fun h=>L h.1)]);have HA:=kaa hA;obtain⟨A,c,a2,a7⟩:=(hc.now hp.lt).shape;subst a2;exact Fa
 ·have aZ:(e==0)=false:=by simpa using he
  have a4:(e != 0)=true:=by rw[bne,aZ];rfl
  have hA:ri e p i (Th l i) []=([],i,wE l i e 5,wP l i e p):=by rw[jr he];unfold wE wP;rw[if_neg he,if_neg he]
  have HA:=kaa hA;exact Fa
theorem sy(l:List xh)(hl:l.length≤100000)(g:Nat)(v o:Value)(i:Nat)(hi:i≤1000000000)(e p:Int)(w:World)(hp:PS lo w g v i e p o)(hc:Jm g v l w):Calls maa 273 #[.pointer (some ⟨g,0,none⟩)] w (BN (lo:=lo) BP g v o (ri e p i (Gi l i) 0) w):=by
 have HPA:=kaa hp;have HC:=kaa hc;have HBD:Hid (∀ (e0:Int) u,uh g w u→PS lo u g v i e p o→Calls maa 241 #[.pointer (some ⟨g,0,none⟩),.int .i64 e0] u fun r w'=>r = .returned (.tuple #[])∧uh g u w'∧PS lo w' g v i (wE l i e e0) (wP l i e p) o):=fun e0 u hk hq=>Fo l hl g _ o i e e0 p u hq (HC.out.keep hk HPA.out.lt);have a4:(0:Int)≤(i:Int):=Sba _;by_cases he:e=0
 ·subst he;by_cases I:i<l.length
  ·have ao:(i:Int)<(l.length:Int):=by omega
   have af:decide ((l.length:Int)≤(i:Int))=false:=by simp;omega
   have al:decide (l.length≤i)=false:=by simp;omega
   obtain⟨ad,L,ct,hE,a3,a1,J⟩:=hc.at_ Tf;subst hE;have av:∀ u,uh g w u→u.cell? ⟨ad,L+i*4,none⟩=some (.int .i64 (tk l i).kind)∧u.cell? ⟨ad,L+i*4+2,none⟩=some (.int .i64 (tk l i).n):=fun u hu=>by have h:=J u (hu.below (nba HPA.out.lt)) i I;rw[← rj I]at h;exact⟨h.kind,h.n⟩
   have G:=kaa av;have hR:Gi l i=if (tk l i).kind=2 then (if 1≤(tk l i).n∧(tk l i).n≤8 then .inl ((tk l i).n,i+1)else .inr (cj l i 11))else .inr (cj l i 5):=by
    unfold Gi;by_cases H:(tk l i).kind=2;·rw[if_pos ⟨I,H⟩,if_pos H]
    ·rw[if_neg (fun h=>H h.2),if_neg H]
   have Z:=kaa hR;clear hR av J hc;generalize (tk l i).kind=k0 at G Z;generalize (tk l i).n=n0 at G Z;obtain⟨x0,x2⟩:=G.out w (Aba _ _);obtain⟨pl,p0,p1,p2,p3,p4,p5,pf⟩:=hp;by_cases H:k0=2
   ·subst H;have Q:=Z.out;rw[if_pos rfl]at Q;have E:=kaa Q;clear Q Z;go_enter Tryz.func273,Tryz.ntmps273;go_upto_region 1 with fail;go_quiet (fail);go_upto_region 4 with fail;have HPd:=kaa (HPA.out.drewN nq);have HKd:=kaa ((Aba g w).drewN nq);clear pl p0 p1 p2 p3 p4 p5 pf;generalize Eba _ _=X at HPd HKd ⊢;obtain⟨pl,p0,p1,p2,p3,p4,p5,pf⟩:=HPd.out;clear x0 x2;obtain⟨x0,x2⟩:=G.out X HKd.out;by_cases ha:1≤n0
    ·have aT:decide (n0<(1:Int))=false:=by simp;omega
     by_cases hb:n0≤8
     ·have aU:decide ((8:Int)<n0)=false:=by simp;omega
      have hA:ri 0 p i (Gi l i) 0=(n0,i+1,0,p):=DC (by rw[E.out,if_pos ⟨ha,hb⟩]);have HA:=kaa hA;clear hA E ha hb;go_quiet (fail);have a5:(i:Int)≤1000000000:=by omega
      replace HPd:=kaa (HPd.out.drewN nq);replace HKd:=kaa (HKd.out.drewN nq);clear pl p0 p1 p2 p3 p4 p5 pf x0 x2;generalize Eba _ _=X2 at HPd HKd ⊢;obtain⟨pl,p0,p1,p2,p3,p4,p5,pf⟩:=HPd.out;have aY:=pf 1;go_upto_region 8 with fail;have O:=kaa (HPd.out.set1 (i+1));have M:=kaa (HKd.out.set 1 (.int .i64 (i+1)));clear pl p0 p1 p2 p3 p4 p5 pf aY;generalize eca _ _ _=Y at O M ⊢;obtain⟨pl,p0,p1,p2,p3,p4,p5,pf⟩:=O.out;obtain⟨x0,x2⟩:=G.out Y M.out;have a6:(i:Int)+1 - 1=(i:Int):=by omega
      go_quiet (fail);go_wp2_with fail;go_ret;exact Nv HA.out rfl (M.out.drewN _) (O.out.drewN _)
     ·have aU:decide ((8:Int)<n0)=true:=by simp;omega
      have hA:ri 0 p i (Gi l i) 0=(0,i,wE l i 0 11,wP l i 0 p):=Bm (by rw[E.out,if_neg (fun h=>hb h.2)]);have HA:=kaa hA;clear hA E ha hb;exact Oa
    ·have aT:decide (n0<(1:Int))=true:=by simp;omega
     have hA:ri 0 p i (Gi l i) 0=(0,i,wE l i 0 11,wP l i 0 p):=Bm (by rw[E.out,if_neg (fun h=>ha h.1)]);have HA:=kaa hA;clear hA E ha;exact Oa
   ·have aW:(k0==2)=false:=by simpa using H
    have a0:(k0 != 2)=true:=by rw[bne,aW];rfl
    have hA:ri 0 p i (Gi l i) 0=(0,i,wE l i 0 5,wP l i 0 p):=Bm (by rw[Z.out,if_neg H]);have HA:=kaa hA;clear hA Z H;go_enter Tryz.func273,Tryz.ntmps273;go_upto_region 1 with fail;go_quiet (fail);have HPd:=kaa (HPA.out.drewN nq);have HKd:=kaa ((Aba g w).drewN nq);clear pl p0 p1 p2 p3 p4 p5 pf;generalize Eba _ _=X at HPd HKd ⊢;obtain⟨pl,p0,p1,p2,p3,p4,p5,pf⟩:=HPd.out;go_wp2_with (go_at_call 241;refine(HBD.out 5 _ HKd.out HPd.out).mono ?_;rintro r w2 ⟨rfl,hk2,hp2⟩);go_ret;exact Nv (HA.out) rfl (HKd.out.trans hk2) hp2
  ·have ao:¬ (i:Int)<(l.length:Int):=by omega
   have af:decide ((l.length:Int)≤(i:Int))=true:=by simp;omega
   have al:decide (l.length≤i)=true:=by simp;omega
   have hA:ri 0 p i (Gi l i) 0=(0,i,wE l i 0 5,wP l i 0 p):=Bm (by unfold Gi;rw[if_neg (fun h=>I h.1)]);have HA:=kaa hA;obtain⟨A,c,aX,a2⟩:=(hc.now hp.lt).shape;subst aX;exact Ea
 ·have aV:(e==0)=false:=by simpa using he
  have aZ:(e != 0)=true:=by rw[bne,aV];rfl
  have hA:ri e p i (Gi l i) 0=(0,i,wE l i e 5,wP l i e p):=by rw[jr he];unfold wE wP;rw[if_neg he,if_neg he]
  have HA:=kaa hA;exact Ea
def DO(B:Nat)(w:World)(x:Value)(l:List Kh):Prop:=nk w x l∧dj B x
theorem iv(l:List xh)(hl:l.length≤100000)(ao:∀ t∈l,t.text.length≤1000000)(g:Nat)(v o:Value)(i:Nat)(hi:i≤1000000000)(e p:Int)(w:World)(hp:PS lo w g v i e p o)(hc:Jm g v l w):Calls maa 272 #[.pointer (some ⟨g,0,none⟩)] w (BN (lo:=lo) (DO w.heap.size) g v o (ri e p i (Ri l i) []) w):=by
 have E:=kaa hp;have HC:=kaa hc;have aW:(0:Int)≤(i:Int):=Sba _;have O:=hc.now hp.lt;obtain⟨A,c,av,aT⟩:=O.shape;subst av;by_cases he:e=0
 ·subst he;have G:Hid (∀ u,uh g w u→Calls maa 146 #[.slice A l.length c,.int .i64 i] u (Em l i u)):=fun u Y=>FC l hl ao _ i u ((HC.out.keep Y E.out.lt).now (mba E.out.lt Y.size)) (HC.out.keep Y E.out.lt).env;obtain⟨pl,p0,p1,p2,p3,p4,p5,pf⟩:=hp;clear hc O;have HS:Hid (∀ u,Below w.heap.size w u→u.cell? ⟨g,0,none⟩=some (.slice A l.length c)∧u.cell? ⟨g,1,none⟩=some (.int .i64 i)):=fun u Y=>⟨(E.out.below Y).c0,(E.out.below Y).c1⟩;cases hr:Ri l i with
  |inr ep =>
   obtain⟨e',p'⟩:=ep;obtain⟨al,pa,pb,H⟩:=LH hr;have Z:Hid (ri 0 p i (.inr (e',p'):RS (List Kh)) []=([],i,e',p')):=rfl;have aU:(e'==0)=false:=by simpa using al
   unfold Em at G;rw[H]at G;simp only at G;clear hr H;go_enter Tryz.func272,Tryz.ntmps272;go_upto_region 3 with fail;go_region_held3 (fun u=>u.cell? ⟨g,0,none⟩=some (.slice A l.length c)∧u.cell? ⟨g,1,none⟩=some (.int .i64 i))
    (exact HS.out _ (Wo))
    (first
     |(go_at_call 146;(with_reducible refine(G.out _ (zba (Wo))).mono ?_);rintro r w5 ⟨V,rfl,I,M,Q,ad⟩;have h5:Below w.heap.size w w5:=bt (Wo) M;have F5:dj w.heap.size V:=Q.mono Bg;obtain⟨A5,c5,rfl,_⟩:=Wh.shape I))
   all_goals have L:=E.out.below h5;clear pl p0 p1 p2 p3 p4 p5;obtain⟨pl,p0,p1,p2,p3,p4,p5,J⟩:=L;have aY:=J 3;have aZ:=J 4;go_wp2_with fail;go_ret;exact Nv Z.out ⟨⟨Sl.nil _ _ _,Bp.nil _ _ _⟩,ai _ _ _⟩ (((zba h5).set 3 _).set 4 _) (((E.out.below h5).set3 _).set4 _)
  |inl xj =>
   obtain⟨x,j⟩:=xj;have H:=AK hr;have Z:Hid (ri 0 p i (.inl (x,j):RS (List Kh)) []=(x,j,0,p)):=rfl;unfold Em at G;rw[H]at G;simp only at G;clear hr H;go_enter Tryz.func272,Tryz.ntmps272;go_upto_region 3 with fail;go_region_held3 (fun u=>u.cell? ⟨g,0,none⟩=some (.slice A l.length c)∧u.cell? ⟨g,1,none⟩=some (.int .i64 i))
    (exact HS.out _ (Wo))
    (first
     |(go_at_call 146;(with_reducible refine(G.out _ (zba (Wo))).mono ?_);rintro r w5 ⟨V,rfl,I,M,Q,ad⟩;have h5:Below w.heap.size w w5:=bt (Wo) M;have F5:dj w.heap.size V:=Q.mono Bg;obtain⟨A5,c5,rfl,_⟩:=Wh.shape I))
   all_goals have L:=E.out.below h5;have af:=kaa (⟨I,ad⟩:nk w5 _ _);clear pl p0 p1 p2 p3 p4 p5;obtain⟨pl,p0,p1,p2,p3,p4,p5,J⟩:=L;have aX:=J 1;go_wp2_with fail;go_ret;exact Nv Z.out ⟨af.out.keep F5 E.out.lt ((Aba _ _).set 1 _),F5⟩ ((zba h5).set 1 _) ((E.out.below h5).set1 _)
 ·have aV:(e==0)=false:=by simpa using he
  have Z:=kaa (jr (p:=p) (i:=i) (r:=Ri l i) (d:=[]) he);obtain⟨pl,p0,p1,p2,p3,p4,p5,pf⟩:=hp;clear hc O;go_enter Tryz.func272,Tryz.ntmps272;go_wp2_with fail;go_ret;exact Nv Z.out ⟨⟨Sl.nil _ _ _,Bp.nil _ _ _⟩,ai _ _ _⟩ (Aba _ _) E.out
structure jn (g q:Nat) (w w':World):Prop where
 os:w'.os=w.os
 tape:w'.tape=w.tape
 output:w'.output=w.output
 size:w.heap.size≤w'.heap.size
 block:∀ i,i < w.heap.size→i≠g→i≠q→w'.heap[i]? = w.heap[i]?
theorem jn.refl(g q:Nat)(w:World):jn g q w w:=⟨rfl,rfl,rfl,aaa _,fun _ _ _ _=>rfl⟩
theorem jn.keep{g q:Nat}{a b c:World}(h:jn g q a b)(k:uh g b c):jn g q a c :=
 ⟨k.os.trans h.os,k.tape.trans h.tape,k.output.trans h.output,yba h.size k.size,fun i hi A hq=>(k.block i (mba hi h.size) A).trans (h.block i hi A hq)⟩
theorem jn.set{g q:Nat}{a b:World}(h:jn g q a b)(o:Nat)(u:Value):jn g q a (b.setCell ⟨q,o,none⟩ u) :=
 ⟨h.os,h.tape,h.output,by rw[World.size_setCell];exact h.size,fun k E A hq=>(Below.heap_setCell _ _ _ _ (fun e=>hq (by simpa using e))).trans (h.block k E A hq)⟩
structure WX (lo:Int) (l:List xh) (g:Nat) (v o:Value) (w0:World) (q:Nat) (w:World) (σ:Sg) (ev fv:Value):Prop where
 pq:PS lo w g v (σ.i:Nat) σ.e σ.p o
 sb:SB w q σ.x ev fv
 ne:nk w ev σ.x.e
 nf:nk w fv σ.x.f
 fe:dj (q+1) ev
 ff:dj (q+1) fv
 ctx:Jm g v l w
 kp:jn g q w0 w
 hq:q < w0.heap.size
 gq:g < q
 im:σ.i≤1000000
theorem WX.keep{l:List xh}{g q:Nat}{v o:Value}{w0 w w1:World}{σ:Sg}{ev fv:Value}(h:WX lo l g v o w0 q w σ ev fv)(A:uh g w w1){i:Nat}{e p:Int}(G:PS lo w1 g v i e p o)(E:i≤1000000):WX lo l g v o w0 q w1 ⟨σ.x,i,e,p⟩ ev fv :=
 ⟨G,h.sb.keep A Hg,h.ne.keep h.fe Hg A,h.nf.keep h.ff Hg A,h.fe,h.ff,h.ctx.keep A h.pq.lt,h.kp.keep A,h.hq,h.gq,E⟩
theorem WX.reg{l:List xh}{g q:Nat}{v o:Value}{w0 w:World}{x:St}{i:Nat}{e p:Int}{ev fv:Value}(h:WX lo l g v o w0 q w ⟨x,i,e,p⟩ ev fv)(s:List UInt8):WX lo l g v o w0 q (w.setCell ⟨q,1,none⟩ (.string (vh s))) ⟨{ x with reg:=s },i,e,p⟩ ev fv :=
 ⟨h.pq.other Hg,h.sb.setReg _,h.ne.keep h.fe Tf ((Aba q w).set _ _),h.nf.keep h.ff Tf ((Aba q w).set _ _),h.fe,h.ff,h.ctx.belowB (Ui (Gaa g w) (nba h.gq) _),h.kp.set _ _,h.hq,h.gq,h.im⟩
theorem WX.name{l:List xh}{g q:Nat}{v o:Value}{w0 w:World}{x:St}{i:Nat}{e p:Int}{ev fv:Value}(h:WX lo l g v o w0 q w ⟨x,i,e,p⟩ ev fv)(s:List UInt8):WX lo l g v o w0 q (w.setCell ⟨q,2,none⟩ (.string (vh s))) ⟨{ x with name:=s },i,e,p⟩ ev fv :=
 ⟨h.pq.other Hg,h.sb.setName _,h.ne.keep h.fe Tf ((Aba q w).set _ _),h.nf.keep h.ff Tf ((Aba q w).set _ _),h.fe,h.ff,h.ctx.belowB (Ui (Gaa g w) (nba h.gq) _),h.kp.set _ _,h.hq,h.gq,h.im⟩
theorem WX.num{l:List xh}{g q:Nat}{v o:Value}{w0 w:World}{x:St}{i:Nat}{e p:Int}{ev fv:Value}(h:WX lo l g v o w0 q w ⟨x,i,e,p⟩ ev fv)(n:Int):WX lo l g v o w0 q (w.setCell ⟨q,5,none⟩ (.int .i64 n)) ⟨{ x with n:=n },i,e,p⟩ ev fv :=
 ⟨h.pq.other Hg,h.sb.setN _,h.ne.keep h.fe Tf ((Aba q w).set _ _),h.nf.keep h.ff Tf ((Aba q w).set _ _),h.fe,h.ff,h.ctx.belowB (Ui (Gaa g w) (nba h.gq) _),h.kp.set _ _,h.hq,h.gq,h.im⟩
theorem WX.nodes{l:List xh}{g q:Nat}{v o:Value}{w0 w:World}{x:St}{i:Nat}{e p:Int}{ev fv:Value}(h:WX lo l g v o w0 q w ⟨x,i,e,p⟩ ev fv)(y:List Kh)(u:Value)(E:nk w u y)(A:dj (q+1) u):WX lo l g v o w0 q (w.setCell ⟨q,3,none⟩ u) ⟨{ x with e:=y },i,e,p⟩ u fv :=
 ⟨h.pq.other Hg,h.sb.setE y u,E.keep A Tf ((Aba q w).set _ _),h.nf.keep h.ff Tf ((Aba q w).set _ _),A,h.ff,h.ctx.belowB (Ui (Gaa g w) (nba h.gq) _),h.kp.set _ _,h.hq,h.gq,h.im⟩
theorem WX.more{l:List xh}{g q:Nat}{v o:Value}{w0 w:World}{x:St}{i:Nat}{e p:Int}{ev fv:Value}(h:WX lo l g v o w0 q w ⟨x,i,e,p⟩ ev fv)(y:List Kh)(u:Value)(E:nk w u y)(A:dj (q+1) u):WX lo l g v o w0 q (w.setCell ⟨q,4,none⟩ u) ⟨{ x with f:=y },i,e,p⟩ ev u :=
 ⟨h.pq.other Hg,h.sb.setF y u,h.ne.keep h.fe Tf ((Aba q w).set _ _),E.keep A Tf ((Aba q w).set _ _),h.fe,A,h.ctx.belowB (Ui (Gaa g w) (nba h.gq) _),h.kp.set _ _,h.hq,h.gq,h.im⟩
theorem Xx(l:List xh)(x:St)(i:Nat)(e p:Int)(s:List UInt8):Bi l ⟨x,i,e,p⟩ (.sign s)=⟨x,mI l s i e,mE l s i e,mP l s i e p⟩:=by have h:=KD (l:=l) (s:=s) (i:=i) (e:=e) (p:=p);show(⟨x,_,_,_⟩:Sg)=_;rw[← h]
def Fj(lo:Int)(l:List xh)(g:Nat)(v o:Value)(w0:World)(q:Nat)(σ:Sg)(r:Ending)(w':World):Prop:=r = .returned (.tuple #[])∧∃ ev fv,WX lo l g v o w0 q w' σ ev fv
theorem WG(l:List xh)(Z:l.length≤100000)(L:∀ t∈l,t.text.length≤1000000)(g q:Nat)(v o:Value)(w0 w:World)(x:St)(i:Nat)(e p:Int)(ev fv:Value)(h:WX lo l g v o w0 q w ⟨x,i,e,p⟩ ev fv):Calls maa 263 #[.pointer (some ⟨g,0,none⟩),.pointer (some ⟨q,0,none⟩),.int .u8 114,.int .i64 0] w (Fj lo l g v o w0 q (Bi l (ki l ⟨x,i,e,p⟩ (fi 0)) .reg)):=by rw[show ki l ⟨x,i,e,p⟩ (fi 0)=⟨x,i,e,p⟩from rfl];have H:=kaa h;obtain⟨A,c,M,Y⟩:=(h.ctx.now h.pq.lt).shape;subst M;clear h;go_enter Tryz.func263,Tryz.ntmps263;go_upto_region 5 with fail;have E:=kaa H.out;clear H;go_upto_region 7 with fail;go_wp2_with (go_at_call 271;refine(dv l Z L g _ _ i (yba E.out.im Uf) e p _ E.out.pq E.out.ctx).mono ?_;rintro r w2 ⟨x1,rfl,O,I,J⟩;subst O;have G:=kaa (E.out.keep I J (Im E.out.im (fun y j hr=>by have:=Si hr;omega)));obtain⟨sl,s0,s1,s2,s3,s4,s5,s6,s7,s8,Q⟩:=G.out.sb;have ad:=Q 1);refine bodyPost_end (results_none rfl _ _ _) rfl ?_;exact⟨rfl,_,_,G.out.reg (ri e p i (Th l i) []).1⟩
theorem VG(l:List xh)(hl:l.length≤100000)(htx:∀ t∈l,t.text.length≤1000000)(g q:Nat)(v o:Value)(w0 w:World)(x:St)(i:Nat)(e p:Int)(ev fv:Value)(h:WX lo l g v o w0 q w ⟨x,i,e,p⟩ ev fv):Calls maa 263 #[.pointer (some ⟨g,0,none⟩),.pointer (some ⟨q,0,none⟩),.int .u8 114,.int .i64 1] w (Fj lo l g v o w0 q (Bi l (ki l ⟨x,i,e,p⟩ (fi 1)) .reg)):=by
 have E:ki l ⟨x,i,e,p⟩ (fi 1)=⟨x,mI l [61] i e,mE l [61] i e,mP l [61] i e p⟩:=by exact ae
 rw[E];clear E;obtain⟨i1,HI1⟩:∃ i1,Hid (mI l [61] i e=i1):=⟨_,rfl⟩;obtain⟨e1,HE1⟩:∃ e1,Hid (mE l [61] i e=e1):=⟨_,rfl⟩;obtain⟨p1,HP1⟩:∃ p1,Hid (mP l [61] i e p=p1):=⟨_,rfl⟩;rw[HI1.out,HE1.out,HP1.out];have HWX:=kaa h;obtain⟨A,c,G,H⟩:=(h.ctx.now h.pq.lt).shape;subst G;clear h;go_enter Tryz.func263,Tryz.ntmps263;go_upto_region 5 with(go_at_call 242;refine(Sj l hl [61] g _ _ i (yba HWX.out.im Uf) e p _ HWX.out.pq HWX.out.ctx).mono ?_;rintro r w1 ⟨rfl,hk1,hp1⟩);exact Aa
theorem UG(l:List xh)(hl:l.length≤100000)(htx:∀ t∈l,t.text.length≤1000000)(g q:Nat)(v o:Value)(w0 w:World)(x:St)(i:Nat)(e p:Int)(ev fv:Value)(n:Nat)(I:2≤n)(h:WX lo l g v o w0 q w ⟨x,i,e,p⟩ ev fv):Calls maa 263 #[.pointer (some ⟨g,0,none⟩),.pointer (some ⟨q,0,none⟩),.int .u8 114,.int .i64 (n:Int)] w (Fj lo l g v o w0 q (Bi l (ki l ⟨x,i,e,p⟩ (fi n)) .reg)):=by
 have E:ki l ⟨x,i,e,p⟩ (fi n)=⟨x,mI l [44] i e,mE l [44] i e,mP l [44] i e p⟩:=by exact Od
 rw[E];clear E;obtain⟨i1,HI1⟩:∃ i1,Hid (mI l [44] i e=i1):=⟨_,rfl⟩;obtain⟨e1,HE1⟩:∃ e1,Hid (mE l [44] i e=e1):=⟨_,rfl⟩;obtain⟨p1,HP1⟩:∃ p1,Hid (mP l [44] i e p=p1):=⟨_,rfl⟩;rw[HI1.out,HE1.out,HP1.out];have J:(2:Int)≤(n:Int):=by omega
 have L:((n:Int)==1)=false:=by rw[beq_eq_false_iff_ne];omega
 clear I;have HWX:=kaa h;obtain⟨A,c,G,H⟩:=(h.ctx.now h.pq.lt).shape;subst G;clear h;go_enter Tryz.func263,Tryz.ntmps263;go_upto_region 5 with(go_at_call 242;refine(Sj l hl [44] g _ _ i (yba HWX.out.im Uf) e p _ HWX.out.pq HWX.out.ctx).mono ?_;rintro r w1 ⟨rfl,hk1,hp1⟩);exact Aa
theorem CD(l:List xh)(Z:l.length≤100000)(L:∀ t∈l,t.text.length≤1000000)(g q:Nat)(v o:Value)(w0 w:World)(x:St)(i:Nat)(e p:Int)(ev fv:Value)(h:WX lo l g v o w0 q w ⟨x,i,e,p⟩ ev fv):Calls maa 263 #[.pointer (some ⟨g,0,none⟩),.pointer (some ⟨q,0,none⟩),.int .u8 110,.int .i64 0] w (Fj lo l g v o w0 q (Bi l (ki l ⟨x,i,e,p⟩ (fi 0)) .name)):=by rw[show ki l ⟨x,i,e,p⟩ (fi 0)=⟨x,i,e,p⟩from rfl];have H:=kaa h;obtain⟨A,c,M,Y⟩:=(h.ctx.now h.pq.lt).shape;subst M;clear h;go_enter Tryz.func263,Tryz.ntmps263;go_upto_region 5 with fail;have E:=kaa H.out;clear H;go_upto_region 9 with fail;go_wp2_with (go_at_call 271;refine(dv l Z L g _ _ i (yba E.out.im Uf) e p _ E.out.pq E.out.ctx).mono ?_;rintro r w2 ⟨x1,rfl,O,I,J⟩;subst O;have G:=kaa (E.out.keep I J (Im E.out.im (fun y j hr=>by have:=Si hr;omega)));obtain⟨sl,s0,s1,s2,s3,s4,s5,s6,s7,s8,Q⟩:=G.out.sb;have ad:=Q 2);refine bodyPost_end (results_none rfl _ _ _) rfl ?_;exact⟨rfl,_,_,G.out.name (ri e p i (Th l i) []).1⟩
theorem BD(l:List xh)(hl:l.length≤100000)(htx:∀ t∈l,t.text.length≤1000000)(g q:Nat)(v o:Value)(w0 w:World)(x:St)(i:Nat)(e p:Int)(ev fv:Value)(h:WX lo l g v o w0 q w ⟨x,i,e,p⟩ ev fv):Calls maa 263 #[.pointer (some ⟨g,0,none⟩),.pointer (some ⟨q,0,none⟩),.int .u8 110,.int .i64 1] w (Fj lo l g v o w0 q (Bi l (ki l ⟨x,i,e,p⟩ (fi 1)) .name)):=by
 have E:ki l ⟨x,i,e,p⟩ (fi 1)=⟨x,mI l [61] i e,mE l [61] i e,mP l [61] i e p⟩:=by exact ae
 rw[E];clear E;obtain⟨i1,HI1⟩:∃ i1,Hid (mI l [61] i e=i1):=⟨_,rfl⟩;obtain⟨e1,HE1⟩:∃ e1,Hid (mE l [61] i e=e1):=⟨_,rfl⟩;obtain⟨p1,HP1⟩:∃ p1,Hid (mP l [61] i e p=p1):=⟨_,rfl⟩;rw[HI1.out,HE1.out,HP1.out];have HWX:=kaa h;obtain⟨A,c,G,H⟩:=(h.ctx.now h.pq.lt).shape;subst G;clear h;go_enter Tryz.func263,Tryz.ntmps263;go_upto_region 5 with(go_at_call 242;refine(Sj l hl [61] g _ _ i (yba HWX.out.im Uf) e p _ HWX.out.pq HWX.out.ctx).mono ?_;rintro r w1 ⟨rfl,hk1,hp1⟩);exact za
theorem AD(l:List xh)(hl:l.length≤100000)(htx:∀ t∈l,t.text.length≤1000000)(g q:Nat)(v o:Value)(w0 w:World)(x:St)(i:Nat)(e p:Int)(ev fv:Value)(n:Nat)(I:2≤n)(h:WX lo l g v o w0 q w ⟨x,i,e,p⟩ ev fv):Calls maa 263 #[.pointer (some ⟨g,0,none⟩),.pointer (some ⟨q,0,none⟩),.int .u8 110,.int .i64 (n:Int)] w (Fj lo l g v o w0 q (Bi l (ki l ⟨x,i,e,p⟩ (fi n)) .name)):=by
 have E:ki l ⟨x,i,e,p⟩ (fi n)=⟨x,mI l [44] i e,mE l [44] i e,mP l [44] i e p⟩:=by exact Od
 rw[E];clear E;obtain⟨i1,HI1⟩:∃ i1,Hid (mI l [44] i e=i1):=⟨_,rfl⟩;obtain⟨e1,HE1⟩:∃ e1,Hid (mE l [44] i e=e1):=⟨_,rfl⟩;obtain⟨p1,HP1⟩:∃ p1,Hid (mP l [44] i e p=p1):=⟨_,rfl⟩;rw[HI1.out,HE1.out,HP1.out];have J:(2:Int)≤(n:Int):=by omega
 have L:((n:Int)==1)=false:=by rw[beq_eq_false_iff_ne];omega
 clear I;have HWX:=kaa h;obtain⟨A,c,G,H⟩:=(h.ctx.now h.pq.lt).shape;subst G;clear h;go_enter Tryz.func263,Tryz.ntmps263;go_upto_region 5 with(go_at_call 242;refine(Sj l hl [44] g _ _ i (yba HWX.out.im Uf) e p _ HWX.out.pq HWX.out.ctx).mono ?_;rintro r w1 ⟨rfl,hk1,hp1⟩);exact za
theorem nB(l:List xh)(hl:l.length≤100000)(O:∀ t∈l,t.text.length≤1000000)(g q:Nat)(v o:Value)(w0 w:World)(x:St)(i:Nat)(e p:Int)(ev fv:Value)(h:WX lo l g v o w0 q w ⟨x,i,e,p⟩ ev fv):Calls maa 263 #[.pointer (some ⟨g,0,none⟩),.pointer (some ⟨q,0,none⟩),.int .u8 101,.int .i64 0] w (Fj lo l g v o w0 q (Bi l (ki l ⟨x,i,e,p⟩ (fi 0)) .nodes)):=by rw[show ki l ⟨x,i,e,p⟩ (fi 0)=⟨x,i,e,p⟩from rfl];have H:=kaa h;obtain⟨A,c,Q,Z⟩:=(h.ctx.now h.pq.lt).shape;subst Q;clear h;go_enter Tryz.func263,Tryz.ntmps263;go_upto_region 5 with fail;have E:=kaa H.out;clear H;go_upto_region 11 with fail;go_wp2_with (go_at_call 272;refine(iv l hl O g _ _ i (yba E.out.im Uf) e p _ E.out.pq E.out.ctx).mono ?_;rintro r w2 ⟨x1,rfl,J,L,M⟩;obtain⟨A1,c1,rfl,_⟩:=nk.shape J.1;have I:=kaa J;have G:=kaa (E.out.keep L M (Im E.out.im (fun y j hr=>by have:=Mj hr;omega)));obtain⟨sl,s0,s1,s2,s3,s4,s5,s6,s7,s8,Y⟩:=G.out.sb;have ad:=Y 3);refine bodyPost_end (results_none rfl _ _ _) rfl ?_;exact⟨rfl,_,_,G.out.nodes (ri e p i (Ri l i) []).1 _ I.out.1 (I.out.2.mono (yba (tba E.out.sb.lt) (aaa _)))⟩
theorem lB(l:List xh)(hl:l.length≤100000)(htx:∀ t∈l,t.text.length≤1000000)(g q:Nat)(v o:Value)(w0 w:World)(x:St)(i:Nat)(e p:Int)(ev fv:Value)(h:WX lo l g v o w0 q w ⟨x,i,e,p⟩ ev fv):Calls maa 263 #[.pointer (some ⟨g,0,none⟩),.pointer (some ⟨q,0,none⟩),.int .u8 101,.int .i64 1] w (Fj lo l g v o w0 q (Bi l (ki l ⟨x,i,e,p⟩ (fi 1)) .nodes)):=by
 have E:ki l ⟨x,i,e,p⟩ (fi 1)=⟨x,mI l [61] i e,mE l [61] i e,mP l [61] i e p⟩:=by exact ae
 rw[E];clear E;obtain⟨i1,HI1⟩:∃ i1,Hid (mI l [61] i e=i1):=⟨_,rfl⟩;obtain⟨e1,HE1⟩:∃ e1,Hid (mE l [61] i e=e1):=⟨_,rfl⟩;obtain⟨p1,HP1⟩:∃ p1,Hid (mP l [61] i e p=p1):=⟨_,rfl⟩;rw[HI1.out,HE1.out,HP1.out];have HWX:=kaa h;obtain⟨A,c,G,H⟩:=(h.ctx.now h.pq.lt).shape;subst G;clear h;go_enter Tryz.func263,Tryz.ntmps263;go_upto_region 5 with(go_at_call 242;refine(Sj l hl [61] g _ _ i (yba HWX.out.im Uf) e p _ HWX.out.pq HWX.out.ctx).mono ?_;rintro r w1 ⟨rfl,hk1,hp1⟩);exact oa
theorem kB(l:List xh)(hl:l.length≤100000)(htx:∀ t∈l,t.text.length≤1000000)(g q:Nat)(v o:Value)(w0 w:World)(x:St)(i:Nat)(e p:Int)(ev fv:Value)(n:Nat)(I:2≤n)(h:WX lo l g v o w0 q w ⟨x,i,e,p⟩ ev fv):Calls maa 263 #[.pointer (some ⟨g,0,none⟩),.pointer (some ⟨q,0,none⟩),.int .u8 101,.int .i64 (n:Int)] w (Fj lo l g v o w0 q (Bi l (ki l ⟨x,i,e,p⟩ (fi n)) .nodes)):=by
 have E:ki l ⟨x,i,e,p⟩ (fi n)=⟨x,mI l [44] i e,mE l [44] i e,mP l [44] i e p⟩:=by exact Od
 rw[E];clear E;obtain⟨i1,HI1⟩:∃ i1,Hid (mI l [44] i e=i1):=⟨_,rfl⟩;obtain⟨e1,HE1⟩:∃ e1,Hid (mE l [44] i e=e1):=⟨_,rfl⟩;obtain⟨p1,HP1⟩:∃ p1,Hid (mP l [44] i e p=p1):=⟨_,rfl⟩;rw[HI1.out,HE1.out,HP1.out];have J:(2:Int)≤(n:Int):=by omega
 have L:((n:Int)==1)=false:=by rw[beq_eq_false_iff_ne];omega
 clear I;have HWX:=kaa h;obtain⟨A,c,G,H⟩:=(h.ctx.now h.pq.lt).shape;subst G;clear h;go_enter Tryz.func263,Tryz.ntmps263;go_upto_region 5 with(go_at_call 242;refine(Sj l hl [44] g _ _ i (yba HWX.out.im Uf) e p _ HWX.out.pq HWX.out.ctx).mono ?_;rintro r w1 ⟨rfl,hk1,hp1⟩);exact oa
theorem FD(l:List xh)(hl:l.length≤100000)(O:∀ t∈l,t.text.length≤1000000)(g q:Nat)(v o:Value)(w0 w:World)(x:St)(i:Nat)(e p:Int)(ev fv:Value)(h:WX lo l g v o w0 q w ⟨x,i,e,p⟩ ev fv):Calls maa 263 #[.pointer (some ⟨g,0,none⟩),.pointer (some ⟨q,0,none⟩),.int .u8 102,.int .i64 0] w (Fj lo l g v o w0 q (Bi l (ki l ⟨x,i,e,p⟩ (fi 0)) .more)):=by rw[show ki l ⟨x,i,e,p⟩ (fi 0)=⟨x,i,e,p⟩from rfl];have H:=kaa h;obtain⟨A,c,Q,Z⟩:=(h.ctx.now h.pq.lt).shape;subst Q;clear h;go_enter Tryz.func263,Tryz.ntmps263;go_upto_region 5 with fail;have E:=kaa H.out;clear H;go_upto_region 13 with fail;go_wp2_with (go_at_call 272;refine(iv l hl O g _ _ i (yba E.out.im Uf) e p _ E.out.pq E.out.ctx).mono ?_;rintro r w2 ⟨x1,rfl,J,L,M⟩;obtain⟨A1,c1,rfl,_⟩:=nk.shape J.1;have I:=kaa J;have G:=kaa (E.out.keep L M (Im E.out.im (fun y j hr=>by have:=Mj hr;omega)));obtain⟨sl,s0,s1,s2,s3,s4,s5,s6,s7,s8,Y⟩:=G.out.sb;have ad:=Y 4);refine bodyPost_end (results_none rfl _ _ _) rfl ?_;exact⟨rfl,_,_,G.out.more (ri e p i (Ri l i) []).1 _ I.out.1 (I.out.2.mono (yba (tba E.out.sb.lt) (aaa _)))⟩
theorem ED(l:List xh)(hl:l.length≤100000)(htx:∀ t∈l,t.text.length≤1000000)(g q:Nat)(v o:Value)(w0 w:World)(x:St)(i:Nat)(e p:Int)(ev fv:Value)(h:WX lo l g v o w0 q w ⟨x,i,e,p⟩ ev fv):Calls maa 263 #[.pointer (some ⟨g,0,none⟩),.pointer (some ⟨q,0,none⟩),.int .u8 102,.int .i64 1] w (Fj lo l g v o w0 q (Bi l (ki l ⟨x,i,e,p⟩ (fi 1)) .more)):=by
 have E:ki l ⟨x,i,e,p⟩ (fi 1)=⟨x,mI l [61] i e,mE l [61] i e,mP l [61] i e p⟩:=by exact ae
 rw[E];clear E;obtain⟨i1,HI1⟩:∃ i1,Hid (mI l [61] i e=i1):=⟨_,rfl⟩;obtain⟨e1,HE1⟩:∃ e1,Hid (mE l [61] i e=e1):=⟨_,rfl⟩;obtain⟨p1,HP1⟩:∃ p1,Hid (mP l [61] i e p=p1):=⟨_,rfl⟩;rw[HI1.out,HE1.out,HP1.out];have HWX:=kaa h;obtain⟨A,c,G,H⟩:=(h.ctx.now h.pq.lt).shape;subst G;clear h;go_enter Tryz.func263,Tryz.ntmps263;go_upto_region 5 with(go_at_call 242;refine(Sj l hl [61] g _ _ i (yba HWX.out.im Uf) e p _ HWX.out.pq HWX.out.ctx).mono ?_;rintro r w1 ⟨rfl,hk1,hp1⟩);exact qa
theorem DD(l:List xh)(hl:l.length≤100000)(htx:∀ t∈l,t.text.length≤1000000)(g q:Nat)(v o:Value)(w0 w:World)(x:St)(i:Nat)(e p:Int)(ev fv:Value)(n:Nat)(I:2≤n)(h:WX lo l g v o w0 q w ⟨x,i,e,p⟩ ev fv):Calls maa 263 #[.pointer (some ⟨g,0,none⟩),.pointer (some ⟨q,0,none⟩),.int .u8 102,.int .i64 (n:Int)] w (Fj lo l g v o w0 q (Bi l (ki l ⟨x,i,e,p⟩ (fi n)) .more)):=by
 have E:ki l ⟨x,i,e,p⟩ (fi n)=⟨x,mI l [44] i e,mE l [44] i e,mP l [44] i e p⟩:=by exact Od
 rw[E];clear E;obtain⟨i1,HI1⟩:∃ i1,Hid (mI l [44] i e=i1):=⟨_,rfl⟩;obtain⟨e1,HE1⟩:∃ e1,Hid (mE l [44] i e=e1):=⟨_,rfl⟩;obtain⟨p1,HP1⟩:∃ p1,Hid (mP l [44] i e p=p1):=⟨_,rfl⟩;rw[HI1.out,HE1.out,HP1.out];have J:(2:Int)≤(n:Int):=by omega
 have L:((n:Int)==1)=false:=by rw[beq_eq_false_iff_ne];omega
 clear I;have HWX:=kaa h;obtain⟨A,c,G,H⟩:=(h.ctx.now h.pq.lt).shape;subst G;clear h;go_enter Tryz.func263,Tryz.ntmps263;go_upto_region 5 with(go_at_call 242;refine(Sj l hl [44] g _ _ i (yba HWX.out.im Uf) e p _ HWX.out.pq HWX.out.ctx).mono ?_;rintro r w1 ⟨rfl,hk1,hp1⟩);exact qa
theorem aH(l:List xh)(Y:l.length≤100000)(Z:∀ t∈l,t.text.length≤1000000)(g q:Nat)(v o:Value)(w0 w:World)(x:St)(i:Nat)(e p:Int)(ev fv:Value)(h:WX lo l g v o w0 q w ⟨x,i,e,p⟩ ev fv):Calls maa 263 #[.pointer (some ⟨g,0,none⟩),.pointer (some ⟨q,0,none⟩),.int .u8 107,.int .i64 0] w (Fj lo l g v o w0 q (Bi l (ki l ⟨x,i,e,p⟩ (fi 0)) .times)):=by rw[show ki l ⟨x,i,e,p⟩ (fi 0)=⟨x,i,e,p⟩from rfl];have H:=kaa h;obtain⟨A,c,L,Q⟩:=(h.ctx.now h.pq.lt).shape;subst L;clear h;go_enter Tryz.func263,Tryz.ntmps263;go_upto_region 5 with fail;have E:=kaa H.out;clear H;go_upto_region 15 with fail;go_wp2_with (go_at_call 273;refine(sy l Y g _ _ i (yba E.out.im Uf) e p _ E.out.pq E.out.ctx).mono ?_;rintro r w2 ⟨x1,rfl,M,I,J⟩;subst M;have G:=kaa (E.out.keep I J (Im E.out.im (fun y j hr=>by have:=Ql hr;omega)));obtain⟨sl,s0,s1,s2,s3,s4,s5,s6,s7,s8,O⟩:=G.out.sb;have ad:=O 5);refine bodyPost_end (results_none rfl _ _ _) rfl ?_;exact⟨rfl,_,_,G.out.num (ri e p i (Gi l i) 0).1⟩
theorem ZG(l:List xh)(hl:l.length≤100000)(I:∀ t∈l,t.text.length≤1000000)(g q:Nat)(v o:Value)(w0 w:World)(x:St)(i:Nat)(e p:Int)(ev fv:Value)(h:WX lo l g v o w0 q w ⟨x,i,e,p⟩ ev fv):Calls maa 263 #[.pointer (some ⟨g,0,none⟩),.pointer (some ⟨q,0,none⟩),.int .u8 107,.int .i64 1] w (Fj lo l g v o w0 q (Bi l (ki l ⟨x,i,e,p⟩ (fi 1)) .times)):=by
 have E:ki l ⟨x,i,e,p⟩ (fi 1)=⟨x,mI l [61] i e,mE l [61] i e,mP l [61] i e p⟩:=by exact ae
 rw[E];clear E;obtain⟨i1,HI1⟩:∃ i1,Hid (mI l [61] i e=i1):=⟨_,rfl⟩;obtain⟨e1,HE1⟩:∃ e1,Hid (mE l [61] i e=e1):=⟨_,rfl⟩;obtain⟨p1,HP1⟩:∃ p1,Hid (mP l [61] i e p=p1):=⟨_,rfl⟩;rw[HI1.out,HE1.out,HP1.out];have HWX:=kaa h;obtain⟨A,c,G,H⟩:=(h.ctx.now h.pq.lt).shape;subst G;clear h;go_enter Tryz.func263,Tryz.ntmps263;go_upto_region 5 with(go_at_call 242;refine(Sj l hl [61] g _ _ i (yba HWX.out.im Uf) e p _ HWX.out.pq HWX.out.ctx).mono ?_;rintro r w1 ⟨rfl,hk1,hp1⟩);exact ya
theorem YG(l:List xh)(hl:l.length≤100000)(M:∀ t∈l,t.text.length≤1000000)(g q:Nat)(v o:Value)(w0 w:World)(x:St)(i:Nat)(e p:Int)(ev fv:Value)(n:Nat)(I:2≤n)(h:WX lo l g v o w0 q w ⟨x,i,e,p⟩ ev fv):Calls maa 263 #[.pointer (some ⟨g,0,none⟩),.pointer (some ⟨q,0,none⟩),.int .u8 107,.int .i64 (n:Int)] w (Fj lo l g v o w0 q (Bi l (ki l ⟨x,i,e,p⟩ (fi n)) .times)):=by
 have E:ki l ⟨x,i,e,p⟩ (fi n)=⟨x,mI l [44] i e,mE l [44] i e,mP l [44] i e p⟩:=by exact Od
 rw[E];clear E;obtain⟨i1,HI1⟩:∃ i1,Hid (mI l [44] i e=i1):=⟨_,rfl⟩;obtain⟨e1,HE1⟩:∃ e1,Hid (mE l [44] i e=e1):=⟨_,rfl⟩;obtain⟨p1,HP1⟩:∃ p1,Hid (mP l [44] i e p=p1):=⟨_,rfl⟩;rw[HI1.out,HE1.out,HP1.out];have J:(2:Int)≤(n:Int):=by omega
 have L:((n:Int)==1)=false:=by rw[beq_eq_false_iff_ne];omega
 clear I;have HWX:=kaa h;obtain⟨A,c,G,H⟩:=(h.ctx.now h.pq.lt).shape;subst G;clear h;go_enter Tryz.func263,Tryz.ntmps263;go_upto_region 5 with(go_at_call 242;refine(Sj l hl [44] g _ _ i (yba HWX.out.im Uf) e p _ HWX.out.pq HWX.out.ctx).mono ?_;rintro r w1 ⟨rfl,hk1,hp1⟩);exact ya
theorem yJ(l:List xh)(G:l.length≤100000)(A:∀ t∈l,t.text.length≤1000000)(g q:Nat)(v o:Value)(w0 w:World)(σ:Sg)(ev fv:Value)(c:UInt8)(H:c=114∨c=110∨c=101∨c=102∨c=107)(n:Nat)(h:WX lo l g v o w0 q w σ ev fv):Calls maa 263 #[.pointer (some ⟨g,0,none⟩),.pointer (some ⟨q,0,none⟩),.int .u8 (c.toNat:Nat),.int .i64 n] w (Fj lo l g v o w0 q (Bi l (ki l σ (fi n)) (au c))):=by
 obtain⟨x,i,e,p⟩:=σ;have E:n=0∨n=1∨2≤n:=by omega
 rcases H with rfl|rfl|rfl|rfl|rfl
 ·rcases E with rfl|rfl|hn;·exact WG l G A g q v o w0 w x i e p ev fv h
  ·exact VG l G A g q v o w0 w x i e p ev fv h
  ·exact UG l G A g q v o w0 w x i e p ev fv n hn h
 ·rcases E with rfl|rfl|hn;·exact CD l G A g q v o w0 w x i e p ev fv h
  ·exact BD l G A g q v o w0 w x i e p ev fv h
  ·exact AD l G A g q v o w0 w x i e p ev fv n hn h
 ·rcases E with rfl|rfl|hn;·exact nB l G A g q v o w0 w x i e p ev fv h
  ·exact lB l G A g q v o w0 w x i e p ev fv h
  ·exact kB l G A g q v o w0 w x i e p ev fv n hn h
 ·rcases E with rfl|rfl|hn;·exact FD l G A g q v o w0 w x i e p ev fv h
  ·exact ED l G A g q v o w0 w x i e p ev fv h
  ·exact DD l G A g q v o w0 w x i e p ev fv n hn h
 ·rcases E with rfl|rfl|hn;·exact aH l G A g q v o w0 w x i e p ev fv h
  ·exact ZG l G A g q v o w0 w x i e p ev fv h
  ·exact YG l G A g q v o w0 w x i e p ev fv n hn h
end Go.Proofs.YtjcihcncljihoaaGreatDoor
namespace Go.Proofs.YtjcihcncljihoaaGreatDoor
open Go Go.RowKit
set_option linter.unusedVariables false
open Go.Lib renaming hid→kaa
open Go.RowKit.Below renaming heap_setCell→xca,refl→Gaa
open Go.World renaming size_setCell→wba
open List renaming flatMap_cons→baa,length_append→xaa,length_set→Jca
open Nat renaming le_trans→yba,lt_of_lt_of_le→mba,lt_succ_self→rba
open Sv renaming cells→Hca,cells_len→Ica
open uh renaming refl→Aba
open Go.Proofs.Tryz renaming prog→maa
theorem UE(k:Nat)(L:k≤14)(w:World):Calls maa 229 #[.int .i64 k] w fun e w'=>e = .returned (.string (vh (Ai k)))∧Below w.heap.size w w':=by
 have E:=fun j x h=>Uh w #[.string ⟨#[]⟩,.string ⟨#[]⟩,.string ⟨#[108,111,97,100]⟩,.string ⟨#[115,116,111,114,101]⟩,.string ⟨#[99,97,115]⟩,.string ⟨#[102,108,117,115,104]⟩,.string ⟨#[111,112,116]⟩,.string ⟨#[115,102,101,110,99,101]⟩,.string ⟨#[109,102,101,110,99,101]⟩,.string ⟨#[116,97,107,101]⟩,.string ⟨#[103,105,118,101]⟩,.string ⟨#[105,102]⟩,.string ⟨#[108,111,111,112]⟩,.string ⟨#[98,114,101,97,107]⟩,.string ⟨#[99,104,101,99,107]⟩] 224 j x h;have G:=al w (.cells #[.string ⟨#[]⟩,.string ⟨#[]⟩,.string ⟨#[108,111,97,100]⟩,.string ⟨#[115,116,111,114,101]⟩,.string ⟨#[99,97,115]⟩,.string ⟨#[102,108,117,115,104]⟩,.string ⟨#[111,112,116]⟩,.string ⟨#[115,102,101,110,99,101]⟩,.string ⟨#[109,102,101,110,99,101]⟩,.string ⟨#[116,97,107,101]⟩,.string ⟨#[103,105,118,101]⟩,.string ⟨#[105,102]⟩,.string ⟨#[108,111,111,112]⟩,.string ⟨#[98,114,101,97,107]⟩,.string ⟨#[99,104,101,99,107]⟩] 224);have H:(0:Int)≤(k:Int):=Int.natCast_nonneg _;have I:(k:Int)<15:=by omega
 have J:(w.alloc (.cells #[.string ⟨#[]⟩,.string ⟨#[]⟩,.string ⟨#[108,111,97,100]⟩,.string ⟨#[115,116,111,114,101]⟩,.string ⟨#[99,97,115]⟩,.string ⟨#[102,108,117,115,104]⟩,.string ⟨#[111,112,116]⟩,.string ⟨#[115,102,101,110,99,101]⟩,.string ⟨#[109,102,101,110,99,101]⟩,.string ⟨#[116,97,107,101]⟩,.string ⟨#[103,105,118,101]⟩,.string ⟨#[105,102]⟩,.string ⟨#[108,111,111,112]⟩,.string ⟨#[98,114,101,97,107]⟩,.string ⟨#[99,104,101,99,107]⟩] 224)).cell? ⟨w.heap.size,k,none⟩=some (.string (vh (Ai k))):=by
  have A:k=0∨k=1∨k=2∨k=3∨k=4∨k=5∨k=6∨k=7∨k=8∨k=9∨k=10∨k=11∨k=12∨k=13∨k=14:=by omega
  rcases A with rfl|rfl|rfl|rfl|rfl|rfl|rfl|rfl|rfl|rfl|rfl|rfl|rfl|rfl|rfl<;>exact E _ _ rfl
 clear E;generalize vh (Ai k)=S at J ⊢;go_enter Tryz.func229,Tryz.ntmps229;go_wp2_with fail;go_ret;exact⟨rfl,G⟩
def YO:Value:=.agg #[.string ⟨#[]⟩,.string ⟨#[114,101]⟩,.string ⟨#[114,110]⟩,.string ⟨#[110,101]⟩,.string ⟨#[114,110,101,102]⟩,.string ⟨#[110]⟩,.string ⟨#[110]⟩,.string ⟨#[]⟩,.string ⟨#[]⟩,.string ⟨#[110]⟩,.string ⟨#[110]⟩,.string ⟨#[101,98]⟩,.string ⟨#[107,98]⟩,.string ⟨#[]⟩,.string ⟨#[101]⟩]
theorem QM(w:World):Calls maa 225 #[] w fun e w'=>e = .returned YO∧Below w.heap.size w w':=by
 go_enter Tryz.func225,Tryz.ntmps225;go_wp2_with fail;refine oj YO rfl ?_ ?_;·exact⟨rfl,al _ _⟩
 ·simp[results,Tryz.results225,go_sem,YO]
theorem FO(w:World):∀ (j:Nat),j<15→(Instr.index 224 YO (.int .i64 (j:Int))).run maa w = .ok (.string (vh (Ii j))) w
 |0,_=>by kernel_rfl
 |1,_=>by kernel_rfl
 |2,_=>by kernel_rfl
 |3,_=>by kernel_rfl
 |4,_=>by kernel_rfl
 |5,_=>by kernel_rfl
 |6,_=>by kernel_rfl
 |7,_=>by kernel_rfl
 |8,_=>by kernel_rfl
 |9,_=>by kernel_rfl
 |10,_=>by kernel_rfl
 |11,_=>by kernel_rfl
 |12,_=>by kernel_rfl
 |13,_=>by kernel_rfl
 |14,_=>by kernel_rfl
 |n+15,h=>absurd h Tf
theorem ex(k:Nat)(I:k<15)(w:World):Calls maa 196 #[.int .i64 k] w fun e w'=>e = .returned (.string (vh (Ii k)))∧Below w.heap.size w w':=by
 have M:decide ((k:Int)<0)=false:=by simp
 have G:decide ((15:Int)≤(k:Int))=false:=by simp;omega
 have A:=fun u=>FO u k I;have E:Hid (∀ u:World,Calls maa 225 #[] u fun e w'=>e = .returned YO∧Below u.heap.size u w'):=fun u=>QM u;generalize vh (Ii k)=R at A ⊢;generalize YO=L at A E;go_enter Tryz.func196,Tryz.ntmps196;go_wp2_with (go_at_call 225;(with_reducible refine(E.out _).mono ?_);rintro e w' ⟨rfl,H⟩;have J:=A w');go_ret;exact⟨rfl,H⟩
theorem JO(k:Int)(A:k<0∨15≤k)(w:World):Calls maa 196 #[.int .i64 k] w fun e w'=>e = .returned (.string ⟨#[]⟩)∧w=w':=by
 rcases A with A|A
 ·have E:decide (k<0)=true:=by simp;omega
  exact Tc
 ·have E:decide (k<0)=false:=by simp;omega
  have G:decide ((15:Int)≤k)=true:=by simp;omega
  exact Tc
theorem YF:∀ k,k<15→Lib.trimSuffix (Ii k) [98]=Gh k:=by decide
theorem ju(k:Nat)(A:k<15)(w:World):Calls maa 262 #[.string (vh (Ii k)),.string ⟨#[98]⟩] w fun e w'=>e = .returned (.string (vh (Gh k)))∧w=w' :=
 (Tryz.strings_TrimSuffix (vh (Ii k)) ⟨#[98]⟩ w (by
  have:∀ k,k<15→(vh (Ii k)).size≤9223372036854775807:=by decide
  exact this k A)).mono (fun e w' h=>by obtain⟨E,G⟩:=h;refine⟨?_,G.symm⟩;rw[E,Yi,← YF k A];rfl)
variable {lo : Int}
theorem WE(l:List xh)(hl:l.length≤100000)(g:Nat)(v o:Value)(i:Nat)(e p:Int)(w:World)(hp:PS lo w g v i e p o)(hc:Jm g v l w):Calls maa 261 #[.pointer (some ⟨g,0,none⟩)] w fun r w'=>r = .returned (.int .i64 (Nh l i:Nat))∧Below w.heap.size w w':=by
 have G:=kaa hp;have HC:=kaa hc;obtain⟨A,c,aT,aV⟩:=(hc.now hp.lt).shape;subst aT;have HS:Hid (∀ u,Below w.heap.size w u→u.cell? ⟨g,0,none⟩=some (.slice A l.length c)∧u.cell? ⟨g,1,none⟩=some (.int .i64 i)):=fun u H=>⟨(G.out.below H).c0,(G.out.below H).c1⟩;have J:Hid (∀ (k:Nat) u,Below w.heap.size w u→Calls maa 23 #[.slice A l.length c,.int .i64 i,.string (vh (Ai k))] u fun e w'=>e = .returned (.bool (Qh l i (Ai k)))∧Below u.heap.size u w'):=fun k u H=>(Tu l Tf i (Ai k) _ u ((HC.out.keep (uh.of H) G.out.lt).now (mba G.out.lt H.size))).mono (fun e w' he=>⟨he.1,by rw[he.2];exact Gaa _ _⟩);clear hp hc;go_enter Tryz.func261,Tryz.ntmps261;go_upto_region 2 with fail;go_loopw [3] (fun k wr=>∃ j:Nat,2≤j∧j≤15∧k = .int .i64 j∧Below w.heap.size w wr∧∀ m,2≤m→m<j→Qh l i (Ai m)=false) (fun k _=>15 - (intOf k).toNat);case atStart=>exact⟨2,Nat.le_refl _,by decide,rfl,Gaa _ _,fun m h1 h2=>absurd h2 Tf⟩
 case round =>
  obtain⟨j,Z,Y,rfl,hb,ad⟩:=hrel;have L:=kaa ad;have E:=kaa hb;clear ad;by_cases hj:j<15
  ·have I:j≤14:=by omega
   have aW:(j:Int)<15:=by omega
   have M:Hid (∀ u,Below wr.heap.size wr u→u.cell? ⟨g,0,none⟩=some (.slice A l.length c)∧u.cell? ⟨g,1,none⟩=some (.int .i64 i)):=fun u H=>HS.out u (bt E.out H);have HW:Hid (∀ u,Calls maa 229 #[.int .i64 j] u fun e w'=>e = .returned (.string (vh (Ai j)))∧Below u.heap.size u w'):=fun u=>UE j I u;have HI:=kaa (fun u H=>J.out j u (bt hb H));obtain⟨p0,p1⟩:=M.out wr (Gaa _ _);have aU:Hid (Ai j=Ai j):=rfl;generalize af:Ai j=sj at HW HI;have O:=kaa af;clear hb J af;cases hw:Qh l i sj;all_goals
    rw[hw]at HI;have Q:=kaa hw;clear hw;go_upto_region 4 with fail;go_region_held3 (fun u=>u.cell? ⟨g,0,none⟩=some (.slice A l.length c)∧u.cell? ⟨g,1,none⟩=some (.int .i64 i))
     (exact M.out _ (Wo))
     (first
      |(go_at_call 229;(with_reducible refine(HW.out _).mono ?_);rintro r w6 ⟨rfl,al⟩;have h6:Below wr.heap.size wr w6:=bt (Wo) al)
      |(go_at_call 23;(with_reducible refine(HI.out _ (Wo)).mono ?_);rintro r w7 ⟨rfl,ao⟩;have h7:Below wr.heap.size wr w7:=bt (Wo) ao))
   ·all_goals
     go_wp2_with fail;go_roundw;case rel=>exact⟨j+1,by omega,by omega,by go_num,bt E.out (Wo),fun m h1 h2=>by
      by_cases hm:m=j;·subst hm;rw[O.out];exact Q.out
      ·exact L.out m h1 Tf⟩
     case measure=>simp only[intOf];omega
   ·all_goals go_wp2_with fail;go_ret;exact⟨ci (by rw[My Z I (by rw[O.out];exact Q.out)]),bt E.out (Wo)⟩
  ·obtain rfl:j=15:=by omega
   clear hj Z Y;go_wp2_with fail;go_ret;refine⟨ci ?_,E.out⟩;have h1:Nh l i=1:=Decidable.byContradiction fun av=>by have hr:=Ul l i;have:=Po av;rw[L.out _ Tf Tf]at this;cases this
   rw[h1];rfl
def Rest(one:Nat→RS (List St))(l:List xh)(R:RS (List St))(p0:Int)(j:Nat)(e p:Int)(A:List St):Prop :=
 (e=0∧p=p0∧R=match Ij one l (l.length+1 - j) j with|.inr q=>.inr q|.inl (y,k)=>.inl (A++y,k))∨(¬ e=0∧R = .inr (e,p))
theorem nD(one:Nat→RS (List St))(l:List xh)(p0:Int)(j:Nat):Rest one l (Ij one l (l.length+1 - j) j) p0 j 0 p0 []:=by
 refine .inl ⟨rfl,rfl,?_⟩
 cases Ij one l (l.length+1 - j) j with
 |inr q=>rfl
 |inl q=>rfl
theorem EG{l:List xh}{d:Nat}{b:Bool}{R:RS (List St)}{p0:Int}{j:Nat}{p:Int}{M:List St}(h:Rest (ej (mi l d) b l) l R p0 j 0 p M)(hj:j≤l.length)(hi:Qh l j [125]=false){j2:Nat}{H L:Int}{O:List Sv}(G:uk (ej (mi l d) b l j) j2 H L p O):Rest (ej (mi l d) b l) l R p0 j2 H L (M++O.map (·.s))∧(H=0→j<j2∧j2≤l.length):=by
 have J:=Nq (fun b=>Zq l d b) b;rcases h with⟨_,Z,A⟩|⟨Q,_⟩
 ·obtain⟨f,Y⟩:∃ f,l.length+1 - j=f+1:=⟨l.length - j,by omega⟩;rw[Y]at A;unfold Ij at A;rw[if_neg (by rw[hi];decide)]at A;cases I:ej (mi l d) b l j with
  |inr q =>obtain⟨a,c⟩:=q;rw[I]at G A;obtain⟨rfl,rfl,E⟩:=G;exact⟨.inr ⟨E,A⟩,fun h=>absurd h E⟩
  |inl q =>
   obtain⟨y,t⟩:=q
   rw[I]at G A
   obtain⟨rfl,rfl,rfl,hy⟩:=G
   have g:=J _ _ _ I
   refine⟨.inl ⟨rfl,Z,?_⟩,fun _=>g⟩
   rw[A]
   simp only
   rw[Mt J f (l.length+1 - j2) j2 g.2 Tf Tf,hy]
   cases Ij (ej (mi l d) b l) l (l.length+1 - j2) j2 with
   |inr q=>rfl
   |inl q=>simp
 ·exact absurd rfl Q
theorem bJ{one:Nat→RS (List St)}{l:List xh}{R:RS (List St)}{p0:Int}{j:Nat}{p:Int}{E:List St}(h:Rest one l R p0 j 0 p E)(hi:Qh l j [125]=true):R = .inl (E,j)∧p=p0:=by
 rcases h with⟨_,H,A⟩|⟨G,_⟩;·rw[JE hi]at A;exact⟨by rw[A];simp,H⟩
 ·exact absurd rfl G
theorem YK{l:List xh}{d:Nat}{b:Bool}{i:Nat}(h:Qh l i [123]=true):mi l (d+1) b i=match Ij (ej (mi l d) b l) l (l.length+1 - (i+1)) (i+1)with
  | .inr e=>.inr e
  | .inl (x,j2)=>match Oh l [125] j2 with
   | .inr e=>.inr e
   | .inl (_,A)=>.inl (x,A):=by
 rw[mi]
 unfold Oh
 rw[if_pos h]
 rfl
theorem vC{l:List xh}{d:Nat}{b:Bool}{i:Nat}(h:Qh l i [123]=false):mi l (d+1) b i = .inr (cj l i 5):=by rw[mi];unfold Oh;rw[if_neg (by rw[h];decide)]
theorem AO{l:List xh}{s:List UInt8}{i:Nat}{e p:Int}(h:¬ e=0):mI l s i e=i∧mE l s i e=e∧mP l s i e p=p:=by unfold mI mE mP wE wP;have A:¬ (e=0∧Qh l i s=true):=fun E=>h E.1;rw[if_neg A,if_neg A,if_neg A,if_neg h,if_neg h];exact⟨rfl,rfl,rfl⟩
theorem dF{w:World}{E:Nat}{e:TypeId}{size:Nat}{v:Value}{n:Nat}{G:List Value}(h:w.ownsRow E e size v n G):∃ A c,v = .slice A n c:=yh h
def ME(l:List xh)(R:RS (List St)):RS (List St):=match R with
 | .inr e=>.inr e
 | .inl (x,j2)=>match Oh l [125] j2 with
  | .inr e=>.inr e
  | .inl (_,A)=>.inl (x,A)
theorem NI{l:List xh}{one:Nat→RS (List St)}{R:RS (List St)}{p0:Int}{j:Nat}{e p:Int}{I:List Sv}{H:List St}(h:Rest one l R p0 j e p H)(A:¬ e=0):uk (ME l R) j e p p0 I:=by
 rcases h with⟨E,_⟩|⟨_,G⟩;·exact absurd E A
 ·rw[G];exact⟨rfl,rfl,A⟩
theorem ML{l:List xh}{one:Nat→RS (List St)}{R:RS (List St)}{p0:Int}{j:Nat}{p:Int}{E:List Sv}(h:Rest one l R p0 j 0 p (E.map (·.s)))(hi:Qh l j [125]=true):uk (ME l R) (mI l [125] j 0) (mE l [125] j 0) (mP l [125] j 0 p) p0 E:=by obtain⟨G,H⟩:=bJ h hi;have A:(0:Int)=0∧Qh l j [125]=true:=⟨rfl,hi⟩;unfold ME mI mE mP Oh;rw[G,if_pos A,if_pos A,if_pos A];simp only;rw[if_pos hi];exact⟨rfl,rfl,H,rfl⟩
structure ll (T:Nat→Prop) (B:Nat) (w:World) (v:Value) (pl:List Sv):Prop where
 own:w.ownsRow B 44 9 v pl.length (pl.flatMap Hca)
 nods:∀ x∈pl,Ok (fun k=>v.ownBlock=some k∨T k) w (fun u=>nk u x.ev x.s.e∧nk u x.fv x.s.f)
theorem ll.below{T:Nat→Prop}{B:Nat}{w w':World}{v:Value}{pl:List Sv}(h:ll T B w v pl)(A:Below w.heap.size w w'):ll T B w' v pl :=
 ⟨Ih h.own A,fun x E=>(h.nods x E).below A⟩
theorem ll.keep{T:Nat→Prop}{B g:Nat}{w w':World}{v:Value}{pl:List Sv}(h:ll T B w v pl)(J:g<B)(G:T g)(A:uh g w w'):ll T B w' v pl :=
 ⟨Es h.own (fun e=>by have:=(h.own.lt g e).1;omega) A.block,fun x I=>(h.nods x I).step A.size (fun k E H=>A.block k E (fun e=>H (.inr (e▸G)))) (fun _ _ e=>e)⟩
theorem ll.mono{T A:Nat→Prop}{B:Nat}{w:World}{v:Value}{pl:List Sv}(h:ll T B w v pl)(E:∀ k,A k→T k):ll A B w v pl :=
 ⟨h.own,fun x G=>(h.nods x G).mono (fun k _ e=>e.elim .inl (fun e=>.inr (E k e)))⟩
theorem ll.cell{T:Nat→Prop}{B b o:Nat}{w:World}{v u:Value}{pl:List Sv}(h:ll T B w v pl)(E:T b)(A:v.ownBlock≠some b):ll T B (w.setCell ⟨b,o,none⟩ u) v pl :=
 ⟨Es h.own A (fun k I G=>xca _ _ _ _ (fun e=>G (by simpa using e))),fun x H=>(h.nods x H).setCell ⟨b,o,none⟩ (.inr E) u⟩
theorem ll.app{T:Nat→Prop}{B:Nat}{w w':World}{v v':Value}{pl:List Sv}(h:ll T B w v pl)(x:Sv)(I:Ok (fun k=>v.ownBlock=some k∨T k) w (fun u=>nk u x.ev x.s.e∧nk u x.fv x.s.f))(G:w'.ownsRow B 44 9 v' (pl.length+1) (pl.flatMap Hca++[x].flatMap Hca))(H:w.grownBy w' v.ownBlock)(E:v'.ownBlock=v.ownBlock∨v'.ownBlock=some w.heap.size):ll T B w' v' (pl++[x]):=by
 refine⟨by rw[xaa,List.flatMap_append];exact G,fun y A=>?_⟩;rcases List.mem_append.1 A with A|A;·exact(h.nods y A).app2 H E
 ·simp only[List.mem_cons,List.not_mem_nil,or_false]at A;subst A;exact I.app2 H E
theorem ll.keep2{T:Nat→Prop}{B g q:Nat}{w w':World}{v:Value}{pl:List Sv}(h:ll T B w v pl)(O:g<B)(hq:v.ownBlock≠some q)(G:T g∧T q)(E:jn g q w w'):ll T B w' v pl:=by
 refine⟨⟨h.own.1,?_⟩,fun x M=>(h.nods x M).step E.size (fun k hlt H=>E.block k hlt (fun e=>H (.inr (e▸G.1))) (fun e=>H (.inr (e▸G.2)))) (fun _ _ e=>e)⟩;rcases h.own.2 with J|⟨b,A,cur,I,L,hh,r⟩;·exact .inl J
 ·refine .inr ⟨b,A,cur,I,L,?_,r⟩;have hlt:b<w.heap.size:=by exact Yc
  exact(E.block b hlt Tf (fun e=>hq (by rw[I,← e];rfl))).trans hh
theorem cC:∀ (pl:List Sv) (k:Nat) (A:k<pl.length) (a b:Int),((pl.set k ⟨{ pl[k].s with body:=a,els:=b },pl[k].ev,pl[k].fv⟩).flatMap Hca)=(((pl.flatMap Hca).set (k*9+6) (.int .i64 a)).set (k*9+7) (.int .i64 b))
 | [],k,A,_,_=>absurd A Yf
 |x::r,0,A,a,b=>by simp[Hca,baa]
 |x::r,k+1,A,a,b=>by
  have h:=cC r k (by simpa using A) a b;have e:∀ (E:List Value) (j:Nat) (u:Value),(x.cells++E).set ((k+1)*9+j) u=x.cells++E.set (k*9+j) u:=fun E j u=>by rw[List.set_append];rw[if_neg (by rw[Ica];omega),Ica,show(k+1)*9+j - 9=k*9+j by omega]
  rw[List.set_cons_succ,baa,baa,List.getElem_cons_succ,h,e,e]
theorem ll.put2{T:Nat→Prop}{B:Nat}{w:World}{v:Value}{pl:List Sv}(h:ll T B w v pl){g:Nat}(A:v.ownBlock=some g)(k:Nat)(G:k<pl.length)(a b:Int):ll T B ((w.setCell ⟨g,k*9+6,none⟩ (.int .i64 a)).setCell ⟨g,k*9+7,none⟩ (.int .i64 b)) v (pl.set k ⟨{ pl[k].s with body:=a,els:=b },pl[k].ev,pl[k].fv⟩):=by
 refine⟨?_,fun x E=>?_⟩;·rw[Jca,cC pl k G a b];exact Ns (Ns h.own A (k*9+6) Tf (.int .i64 a)) A (k*9+7) Tf (.int .i64 b)
 ·have H:Ok (fun k=>v.ownBlock=some k∨T k) w (fun u=>nk u x.ev x.s.e∧nk u x.fv x.s.f):=by
   rcases List.mem_or_eq_of_mem_set E with hm|rfl;·exact h.nods x hm
   ·exact h.nods pl[k] (List.getElem_mem G)
  exact(H.setCell ⟨g,k*9+6,none⟩ (.inl A) (.int .i64 a)).setCell ⟨g,k*9+7,none⟩ (.inl A) (.int .i64 b)
variable {lo : Int}
structure RX (lo:Int) (l:List xh) (g:Nat) (T:Nat→Prop) (v o:Value) (w:World) (i:Nat) (e p:Int) (pl:List Sv):Prop where
 pq:PS lo w g v i e p o
 row:ll T (g+1) w o pl
 ctx:Jm g v l w
 n0:e=0→pl.length≤i
 n1:pl.length≤i+1
 im:i≤1000000
 tg:T g
 tl:∀ k,T k→k < w.heap.size
theorem RX.below{l:List xh}{g:Nat}{T:Nat→Prop}{v o:Value}{w w':World}{i:Nat}{e p:Int}{pl:List Sv}(h:RX lo l g T v o w i e p pl)(A:Below w.heap.size w w'):RX lo l g T v o w' i e p pl :=
 ⟨h.pq.below A,h.row.below A,h.ctx.keep (uh.of A) h.pq.lt,h.n0,h.n1,h.im,h.tg,fun k E=>mba (h.tl k E) A.size⟩
theorem RX.keep{l:List xh}{g:Nat}{T:Nat→Prop}{v o:Value}{w w':World}{i j:Nat}{e p A H:Int}{pl:List Sv}(h:RX lo l g T v o w i e p pl)(G:uh g w w')(O:PS lo w' g v j A H o)(E:i≤j)(M:j≤1000000)(L:A=0→e=0):RX lo l g T v o w' j A H pl :=
 ⟨O,h.row.keep (rba _) h.tg G,h.ctx.keep G h.pq.lt,fun I=>yba (h.n0 (L I)) E,by have:=h.n1;omega,M,h.tg,fun k J=>mba (h.tl k J) G.size⟩
theorem RX.drewN{l:List xh}{g:Nat}{T:Nat→Prop}{v o:Value}{w:World}{i:Nat}{e p:Int}{pl:List Sv}(h:RX lo l g T v o w i e p pl)(n:Nat):RX lo l g T v o (w.drewN n) i e p pl:=h.below (Hn (Gaa _ _) n)
theorem RX.mono{l:List xh}{g:Nat}{T A:Nat→Prop}{v o:Value}{w:World}{i:Nat}{e p:Int}{pl:List Sv}(h:RX lo l g A v o w i e p pl)(E:∀ k,T k→A k)(G:T g):RX lo l g T v o w i e p pl :=
 ⟨h.pq,h.row.mono E,h.ctx,h.n0,h.n1,h.im,G,fun k H=>h.tl k (E k H)⟩
def Lx(lo:Int)(l:List xh)(r:RS (List St))(g:Nat)(T:Nat→Prop)(v o:Value)(p0:Int)(pl:List Sv)(w:World)(z:Ending)(w':World):Prop :=
 ∃ (j:Nat) (e p:Int) (o':Value) (A:List Sv),z = .returned (.int .i64 (A.length:Nat))∧RX lo l g T v o' w' j e p (pl++A)∧KR g o o' w w'∧uk r j e p p0 A
def Cp(lo:Int)(l:List xh)(r:RS (List St))(g:Nat)(T:Nat→Prop)(v o:Value)(p0:Int)(pl:List Sv)(w:World)(z:Ending)(w':World):Prop :=
 ∃ (j:Nat) (e p:Int) (o':Value) (A:List Sv),z = .returned (.tuple #[])∧RX lo l g T v o' w' j e p (pl++A)∧KR g o o' w w'∧uk r j e p p0 A
def Uu(l:List xh)(d:Nat):Prop:=∀ (g:Nat) (T:Nat→Prop) (v o:Value) (i:Nat) (e p:Int) (pl:List Sv) (n:Nat) (w:World),n+d≤100→RX (n:Int) l g T v o w i e p pl →
 Calls maa 216 #[.pointer (some ⟨g,0,none⟩),.int .i64 (13 - (d:Int))] w (if e=0 then Lx (n:Int) l (mi l d (decide (0<n)) i) g T v o p pl w else fun z w'=>z = .returned (.int .i64 0)∧uh g w w'∧RX (n:Int) l g T v o w' i e p pl)
theorem Yz{l:List xh}{d:Nat}(E:Uu l d){D N:Int}{n:Nat}(G:D=13 - (d:Int))(H:N=n)(A:n+d≤100){g:Nat}{T:Nat→Prop}{v o:Value}{w:World}{i:Nat}{p:Int}{pl:List Sv}(h:RX N l g T v o w i 0 p pl):Calls maa 216 #[.pointer (some ⟨g,0,none⟩),.int .i64 D] w (Lx N l (mi l d (decide (0<n)) i) g T v o p pl w):=by subst G H;have:=E g T v o i 0 p pl n w A h;rw[if_pos rfl]at this;exact this
theorem XK{l:List xh}{d:Nat}(E:Uu l d){D N:Int}{n:Nat}(G:D=13 - (d:Int))(H:N=n)(A:n+d≤100){g:Nat}{T:Nat→Prop}{v o:Value}{w:World}{i:Nat}{e p:Int}{pl:List Sv}(I:¬ e=0)(h:RX N l g T v o w i e p pl):Calls maa 216 #[.pointer (some ⟨g,0,none⟩),.int .i64 D] w fun z w'=>z = .returned (.int .i64 0)∧uh g w w'∧RX N l g T v o w' i e p pl:=by subst G H;have:=E g T v o i e p pl n w A h;rw[if_neg I]at this;exact this
theorem Rs{l:List xh}{g:Nat}{T:Nat→Prop}{v o o':Value}{X Y w1:World}{j:Nat}{e p:Int}{pl:List Sv}{x:Sv}(hp:PS lo X g v j e p o)(hr:ll T (g+1) X o pl)(hc:Jm g v l X)(ht:T g∧∀ k,T k→k<X.heap.size)(hx:Ok (fun k=>o.ownBlock=some k∨T k) X (fun u=>nk u x.ev x.s.e∧nk u x.fv x.s.f))(A:Below X.heap.size X Y)(G:w1.ownsRow (g+1) 44 9 o' (pl.length+1) (pl.flatMap Hca++[x].flatMap Hca))(E:Y.grownBy w1 o.ownBlock)(I:o'.ownBlock=o.ownBlock∨o'.ownBlock=some Y.heap.size)(n1:pl.length≤j)(n0:e=0→pl.length+1≤j)(im:j≤1000000):RX lo l g T v o' (w1.setCell ⟨g,5,none⟩ o') j e p (pl++[x])∧KR g o o' X (w1.setCell ⟨g,5,none⟩ o'):=by
 have Q:o.ownBlock≠some g:=fun e=>by have:=(hr.own.lt g e).1;omega
 have J:o'.ownBlock≠some g:=fun e=>by have:=(G.lt g e).1;omega
 have Z:=hp.below A;have L:=Z.grown E Q;have ad:=(hr.below A).app x (hx.below A) G E I;have O:g<X.heap.size:=hp.lt;have M:Jm g v l w1:=hc.belowB (((A.mono (Nat.le_of_lt O))).grown E (by have:=A.size;omega) (fun k H=>by have:=(hr.own.lt k H).1;omega));refine⟨⟨L.set5 _,?_,M.keep ((Aba g w1).set 5 _) L.lt,fun h=>by rw[xaa];exact n0 h,by rw[xaa];simp only[List.length_cons,List.length_nil];omega,im,ht.1,fun k H=>?_⟩,?_⟩;·exact ad.cell ht.1 J
 ·have:=ht.2 k H;have:=A.size;have:=E.size;rw[wba];omega
 ·have af:X.heap.size≤w1.heap.size:=yba A.size E.size;refine⟨E.os.trans A.os,E.tape.trans A.tape,E.output.trans A.output,by rw[wba];exact af,fun k H h1 h2=>?_,?_⟩;·exact(xca _ _ _ _ (fun e=>h1 (by simpa using e))).trans ((E.block k (mba H A.size) (fun e=>h2 e.symm)).trans (A.block k H))
  ·rcases I with h|h;·exact .inl h
   ·exact .inr ⟨_,h,A.size⟩
theorem Qs{l:List xh}{g A:Nat}{T:Nat→Prop}{v o:Value}{W:World}{j:Nat}{e p:Int}{pl:List Sv}(h:RX lo l g T v o W j e p pl)(I:o.ownBlock=some A)(k:Nat)(E:k<pl.length)(a b:Int):RX lo l g T v o ((W.setCell ⟨A,k*9+6,none⟩ (.int .i64 a)).setCell ⟨A,k*9+7,none⟩ (.int .i64 b)) j e p (pl.set k ⟨{ pl[k].s with body:=a,els:=b },pl[k].ev,pl[k].fv⟩)∧KR g o o W ((W.setCell ⟨A,k*9+6,none⟩ (.int .i64 a)).setCell ⟨A,k*9+7,none⟩ (.int .i64 b)):=by
 have O:=h.row.own.lt A I;have G:g≠A:=by omega
 have J:g≤A:=by omega
 have H:=h.row.put2 I k E a b;refine⟨⟨(h.pq.other G).other G,H,?_,fun L=>by rw[Jca];exact h.n0 L,by rw[Jca];exact h.n1,h.im,h.tg,fun k E=>by simp only[wba];exact h.tl k E⟩,?_⟩;·exact h.ctx.belowB (Ui (Ui (Gaa g W) J _) J _)
 ·have E:=((Aba A W).set (k*9+6) (.int .i64 a)).set (k*9+7) (.int .i64 b);exact⟨E.os,E.tape,E.output,E.size,fun q hq _ M=>E.block q hq (fun e=>M (e▸I)),.inl rfl⟩
theorem RX.set2{l:List xh}{g:Nat}{T:Nat→Prop}{v o:Value}{w:World}{i:Nat}{e p:Int}{pl:List Sv}(h:RX lo l g T v o w i e p pl)(j:Int):RX j l g T v o (w.setCell ⟨g,2,none⟩ (.int .i64 j)) i e p pl :=
 ⟨h.pq.set2 j,h.row.keep (rba _) h.tg ((Aba g w).set 2 _),h.ctx.keep ((Aba g w).set 2 _) h.pq.lt,h.n0,h.n1,h.im,h.tg,fun k A=>by rw[wba];exact h.tl k A⟩
def vR(b:Bool):Int:=if b then 1 else 0
theorem vv(b:Bool)(w:World):Calls maa 201 #[.bool b] w fun e w'=>e = .returned (.int .i64 (vR b))∧w=w':=by cases b;all_goals go_enter Tryz.func201,Tryz.ntmps201;go_wp2_with fail;go_ret;exact⟨rfl,rfl⟩
end Go.Proofs.YtjcihcncljihoaaGreatDoor
namespace Go.Proofs.YtjcihcncljihoaaGreatDoor
open Go Go.RowKit
set_option linter.unusedVariables false
open Go.World renaming cell?_setCell_other→fca
open Nat renaming lt_of_lt_of_le→mba
variable {lo:Int}
theorem iG(l:List xh)(σ:Sg)(o:NF):(Bi l σ o).x.kind=σ.x.kind∧(Bi l σ o).x.body=σ.x.body∧(Bi l σ o).x.els=σ.x.els:=by cases o<;>exact⟨rfl,rfl,rfl⟩
theorem mw(l:List xh):∀ (A:List NF) (σ:Sg),(ki l σ A).x.kind=σ.x.kind∧(ki l σ A).x.body=σ.x.body∧(ki l σ A).x.els=σ.x.els
 | [],σ=>⟨rfl,rfl,rfl⟩
 |o::r,σ=>by have h1:=iG l σ o;have h2:=mw l r (Bi l σ o);exact Ee
theorem MA{l:List xh}{A:List NF}{k:Int}{P:Int}{i:Nat}{e p:Int}{x:St}{j:Nat}{e1 p1:Int}(h:ki l ⟨{ Vh with kind:=k,pos:=P },i,e,p⟩ A=⟨x,j,e1,p1⟩):x.kind=k:=by have:=(mw l A ⟨{ Vh with kind:=k,pos:=P },i,e,p⟩).1;rw[h]at this;exact this
theorem NA{l:List xh}{A:List NF}{k:Int}{P:Int}{i:Nat}{e p:Int}{x:St}{j:Nat}{e1 p1:Int}(h:ki l ⟨{ Vh with kind:=k,pos:=P },i,e,p⟩ A=⟨x,j,e1,p1⟩):x.body=0∧x.els=0:=by have:=(mw l A ⟨{ Vh with kind:=k,pos:=P },i,e,p⟩).2;rw[h]at this;exact this
theorem sm{A:Bool→Nat→RS (List St)}{b:Bool}{l:List xh}{i k:Nat}(E:Nh l i=k):ej A b l i=Su A b l i k (Ei l i):=by subst E;rfl
theorem SB.setPos{w:World}{b:Nat}{x:St}{ev fv:Value}(h:SB w b x ev fv)(n:Int):SB (w.setCell ⟨b,8,none⟩ (.int .i64 n)) b { x with pos:=n } ev fv :=
 ⟨by simpa[World.setCell]using h.lt,by simp[fca];exact h.c0,by simp[fca];exact h.c1,by simp[fca];exact h.c2,by simp[fca];exact h.c3,by simp[fca];exact h.c4,by simp[fca];exact h.c5,by simp[fca];exact h.c6,by simp[fca];exact h.c7,by simp[World.cell?_setCell_same',h.c8],fun j=>by simpa using h.fr j⟩
theorem BB{S:Nat→Prop}{B:Nat}{w:World}{v:Value}{l:List Kh}(h:nk w v l)(J:dj B v)(I:∀ k,S k→k<B):Ok S w (fun u=>nk u v l):=fun w' G H=>by refine⟨MJ h.nods J I w' G H,fun A n c e=>?_⟩;have E:=h.unf A n c e;have L:=H A.block E.1 (fun M=>by have:=I _ M;have:=J A n c e;omega);exact⟨mba E.1 G,fun j=>(World.frozen?_of_block (a:=⟨A.block,j,none⟩) L).trans (E.2 j)⟩
structure gS (lo:Int) (l:List xh) (g:Nat) (T:Nat→Prop) (v o:Value) (w X:World) (q:Nat) (x:St) (ev fv:Value) (j:Nat) (e1 p1:Int) (pl:List Sv):Prop where
 pq:PS lo X g v j e1 p1 o
 row:ll (fun k=>T k∨k=q) (g+1) X o pl
 ctx:Jm g v l X
 tg:T g
 tl:∀ k,T k→k < w.heap.size
 sb:SB X q x ev fv
 off:Ok (fun k=>o.ownBlock=some k∨(T k∨k=q)) X (fun u=>nk u ev x.e∧nk u fv x.f)
 kp:uh g w X
 hq:w.heap.size≤q
 own:o.ownBlock≠some q
 n1:pl.length≤j
 n0:e1=0→pl.length+1≤j
 im:j≤1000000
theorem Ls{l:List xh}{g q:Nat}{T:Nat→Prop}{v o:Value}{w w0 Y:World}{i:Nat}{p:Int}{pl:List Sv}(h:RX lo l g T v o w i 0 p pl)(E:uh g w w0)(hq:w.heap.size≤q){σ:Sg}{ev fv:Value}(A:WX lo l g v o w0 q Y σ ev fv){x:St}{j:Nat}{e1 p1:Int}(hσ:σ=⟨x,j,e1,p1⟩)(ad:i≤j)(n0:e1=0→i<j):gS lo l g T v o w Y q x ev fv j e1 p1 pl:=by
 subst hσ;have h0:=h.n0 rfl;have H:∀ k,o.ownBlock=some k→k<w.heap.size:=fun k G=>(h.row.own.lt k G).2;have J:o.ownBlock≠some q:=fun e=>by have:=H _ e;omega
 have I:ll (fun k=>T k∨k=q) (g+1) w0 o pl :=
  ⟨Es h.row.own (fun e=>by have:=(h.row.own.lt g e).1;omega) E.block,fun x hx=>(h.row.nods x hx).step E.size (fun k L hn=>E.block k L (fun e=>hn (.inr (e▸h.tg)))) (fun k G e=>e.elim .inl (fun e=>e.elim .inr (fun e=>absurd G Tf)))⟩
 refine⟨A.pq,I.keep2 (Nat.lt_succ_self _) J ⟨.inl h.tg,.inr rfl⟩ A.kp,A.ctx,h.tg,h.tl,A.sb,fun w' q1 Q=>?_,⟨A.kp.os.trans E.os,A.kp.tape.trans E.tape,A.kp.output.trans E.output,Nat.le_trans E.size A.kp.size,fun k G O=>(A.kp.block k (mba G E.size) O Tf).trans (E.block k G O)⟩,hq,J,by omega,fun Z=>by have:=n0 Z;omega,A.im⟩;have M:∀ k,(o.ownBlock=some k∨(T k∨k=q))→k<q+1:=fun k G=>by
  rcases G with G|G|G;·have:=H k G;omega
  ·have:=h.tl k G;omega
  ·omega
 exact⟨BB A.ne A.fe M w' q1 Q,BB A.nf A.ff M w' q1 Q⟩
theorem jq:∀ k,k≤14→(Gh k).length≤4:=by decide
theorem jw(l:List xh)(σ:Sg)(cs:List UInt8)(j:Nat)(A:j<cs.length):ki l (Bi l (ki l σ (fi j)) (au cs[j])) (Pj (cs.drop (j+1)) (j+1))=ki l σ (Pj (cs.drop j) j):=by rw[List.drop_eq_getElem_cons A,Pj];unfold ki;rw[List.foldl_append];rfl
theorem mn(cs:List UInt8):(vh cs).size=cs.length∧∀ j (h:j<(vh cs).size) (A:j<cs.length),(vh cs)[j]=cs[j]:=by refine⟨Dh cs,fun j h A=>?_⟩;show(vh cs).data[j]=_;simp[vh]
end Go.Proofs.YtjcihcncljihoaaGreatDoor

/- Chapter 05 (programs), joined: PgpJ, PgfA, PgwA, PgfB, RegP, PgfO, PgfC, PgwB. -/
import Derived.Test.YtjcihcncljihoaaGreatDoorPb25
import Derived.Test.YtjcihcncljihoaaGreatDoorPb30
set_option linter.unusedVariables false
set_option maxRecDepth 100000
set_option maxHeartbeats 16000000
namespace Go.Proofs.YtjcihcncljihoaaGreatDoor
open Go Go.RowKit
set_option linter.unusedVariables false
open GK renaming refl→gda
open Go.Lib renaming hid→kaa
open Go.RowKit.Below renaming refl→Gaa
open Go.World renaming setCell→eca
open Int renaming natCast_nonneg→Sba
open List renaming length→tea,mem_singleton→ida
open Nat renaming le_of_lt→nba,le_trans→yba,zero_le→laa
open Go.Proofs.Tryz renaming prog→maa
theorem Ga{P:Prop}(h:P:=by rintro r w' ⟨o,q,rfl,hq,hM,hb⟩;have h6:=hM.six;have hsh:∀ j,j<6→∃ A c,o j = .slice A (q.n j) c:=fun j hj=>(by obtain⟨_,A,c,hv,_⟩:=hM.rows j hj;exact⟨A,c,hv⟩);obtain⟨A0,c0,s0⟩:=hsh 0 (by decide);obtain⟨A1,c1,s1⟩:=hsh 1 (by decide);obtain⟨A2,c2,s2⟩:=hsh 2 (by decide);obtain⟨A3,c3,s3⟩:=hsh 3 (by decide);obtain⟨A4,c4,s4⟩:=hsh 4 (by decide);obtain⟨A5,c5,s5⟩:=hsh 5 (by decide);rw[s0,s1,s2,s3,s4,s5]at h6 ⊢;exact⟨q,hq.symm,A0,c0,A1,c1,A2,c2,A3,c3,A4,c4,A5,c5,rfl,h6,hb⟩):P:=h
theorem jb{P:Prop}(h:P:=by
 have s0:w.heap.size<(w.alloc (.cells #[.slice none 0 0,.slice none 0 0,.slice none 0 0,.slice none 0 0,.slice none 0 0,.slice none 0 0] 27)).heap.size:=by simp
 exact⟨(HAL.out _).trans (hu.mono (Nat.le_of_lt s0)),(oI.new w _).blk (hu.block _ s0)⟩):P:=h
theorem Cb{P:Prop}(h:P:=by
 clear pl p0 p1 p2 p3 p4 pf hx0;generalize World.drewN _ _=X at HF ⊢;go_wp2_with fail;go_roundw;case rel=>exact⟨m+1,i,0,0,o,q,by rw[HM.out];go_num,by have:=HM6.out;omega,HF.out⟩
 case measure=>simp[intOf]):P:=h
theorem og{P:Prop}(h:P:=by simp[results,Tryz.results10,go_sem,z0,z1,z2,z3,z4,z5]):P:=h
theorem TI{s:List UInt8}:(Li s).1.length≤4000:=by
 by_cases h:s.length≤4000;·exact yba (Vn s).1 h
 ·rw[Bo h];exact laa _
theorem RL{s:List UInt8}:∀ t∈(Li s).1,t.text.length≤4000:=by
 by_cases h:s.length≤4000;·exact fun t ht=>yba (fD s t ht) h
 ·rw[Bo h];exact fun t ht=>by cases ht
theorem qK(s:ByteArray)(hs:s.size≤1000000)(w:World)(hE:Xj w):Calls maa 10 #[.string s] w (Pn (Aj s.data.toList) w):=by
 have HS:=kaa (fun(u:World) (hu:Xj u)=>eM s hs u hu);unfold On at HS;have HE:=kaa hE;have HAL:Hid (∀ o,Below w.heap.size w (w.alloc o)):=fun o=>al w o;have hl:=TI (s:=s.data.toList);have bE:=RL (s:=s.data.toList);generalize hR:Li s.data.toList=R at HS hl bE;obtain⟨l,e0,p0⟩:=R;simp only at HS hl bE;by_cases aZ:e0=0
 ·subst aZ;go_enter Tryz.func10,Tryz.ntmps10;go_wp2_with (first|(go_at_call 21;refine(HS.out _ (HE.out.below (HAL.out _))).mono ?_;rintro r w2 ⟨V,rfl,hv,av⟩;obtain⟨A,c,rfl,bU⟩:=hv.shape)|(go_at_call 22;refine(mM _).mono ?_;rintro r w3 ⟨rfl,bh⟩));have aU:=(HE.out.below (HAL.out _)).below av;have a9:PG (w2.alloc (.cells #[.slice A l.length c,.int .i64 0,.int .i64 0,.int .i64 0,.slice none 0 0,.slice none 0 0,.slice none 0 0,.slice none 0 0,.slice none 0 0,.slice none 0 0] 58)) w2.heap.size (.slice A l.length c) (0:Nat) 0 0 (fun _=>.slice none 0 0) :=
   ⟨by simp,by simp[go_sem],by simp[go_sem],by simp[go_sem],by simp[go_sem],fun j hj=>(match j,hj with|0,_=>by simp[go_sem]|1,_=>by simp[go_sem]|2,_=>by simp[go_sem]|3,_=>by simp[go_sem]|4,_=>by simp[go_sem]|5,_=>by simp[go_sem]),fun j=>by simp[go_sem]⟩
  have aY:Jm w2.heap.size (.slice A l.length c) l (w2.alloc (.cells #[.slice A l.length c,.int .i64 0,.int .i64 0,.int .i64 0,.slice none 0 0,.slice none 0 0,.slice none 0 0,.slice none 0 0,.slice none 0 0,.slice none 0 0] 58)):=⟨Sl.below hv (al _ _),aU.below (al _ _),aU.hm,aU.ht,aU.hr⟩;have bf:∀ u,Below w2.heap.size (w2.alloc (.cells #[.slice A l.length c,.int .i64 0,.int .i64 0,.int .i64 0,.slice none 0 0,.slice none 0 0,.slice none 0 0,.slice none 0 0,.slice none 0 0,.slice none 0 0] 58)) u→Below w.heap.size w u∧w.heap.size<w2.heap.size∧oI u w.heap.size:=fun u hu=>by
   have s0:w.heap.size<(w.alloc (.cells #[.slice none 0 0,.slice none 0 0,.slice none 0 0,.slice none 0 0,.slice none 0 0,.slice none 0 0] 27)).heap.size:=by simp
   have s2:=av.size;have h1:=(al w2 (.cells #[.slice A l.length c,.int .i64 0,.int .i64 0,.int .i64 0,.slice none 0 0,.slice none 0 0,.slice none 0 0,.slice none 0 0,.slice none 0 0,.slice none 0 0] 58)).trans hu;have h2:=av.trans (h1.mono s2);exact⟨(HAL.out _).trans (h2.mono (nba s0)),by omega,(oI.new w _).blk (h2.block _ s0)⟩
  generalize bR:w2.alloc _=W0 at bh a9 aY bf ⊢;have bS:W0.heap.size=w2.heap.size+1:=by rw[← bR];simp
  have a0:RP l w2.heap.size (.slice A l.length c) W0 W0 0 0 0 (fun _=>.slice none 0 0) Xr :=
   ⟨by omega,aY,gda a9,KC Tf,laa _,fun j hj=>by rw[(Bq j).1];exact laa _⟩
  have a4:=kaa ((a0.belowB bh).hst (n:=0) rfl);have aW:=kaa aY;have aX:Hid (w2.heap.size<W0.heap.size):=by show _<_;omega
  have a5:=kaa bf;have HR:=kaa hR;have c9:(0:Int)≤(l.length:Int):=Sba _;clear a0 aY bf a9 bh av hv aU bR bS hR HS hs bU;generalize w2.heap.size=g at a4 aW aX a5 ⊢;go_loopw [26] (fun k wr=>∃ (n i:Nat) (e p:Int) (o:Nat→Value) (q:qj),k = .int .i64 n∧n≤6∧pI l g (.slice A l.length c) W0 n wr i e p o q) (fun k _=>6 - (intOf k).toNat);case atStart=>exact⟨0,0,0,0,_,_,rfl,by decide,a4.out⟩
  case round =>
   obtain⟨n,i,e,p,o,q,rfl,hn,ad⟩:=hrel;have M:=kaa ad;clear ad a4;by_cases da:n<6
   ·obtain⟨m,hm⟩:∃ m,m=n:=⟨n,rfl⟩;rw[← hm]at M;have HM6:Hid (m<6):=by show _<_;omega
    have bk:n=0∨n=1∨n=2∨n=3∨n=4∨n=5:=by omega
    rcases bk with rfl|rfl|rfl|rfl|rfl|rfl;all_goals
     have HM:=kaa hm;clear hm;have cb:=TG;have cc:=SG;have ch:=RG;have ct:=QG;have cv:=OG;have cx:=NG;go_upto_region 7 with fail;go_wp2_with fail;generalize bT:wr.heap.size=xb;go_loopw [] (fun wx=>∃ (i:Nat) (e p:Int) (o:Nat→Value) (q:qj),pI l g (.slice A l.length c) W0 m wx i e p o q∧(e=0→¬ Vm (fun k=>k=g) o xb∧XB wx xb m)) (fun wx=>dQ g wx*(l.length+1 - aP g wx));case atStart =>
      subst bT;refine⟨i,e,p,o,q,M.out.below (al _ _),fun Z=>⟨fun h=>?_,⟨by simp,?_,?_⟩⟩⟩
      ·rcases h with h|⟨j,hj,h⟩;·have:=M.out.1.lt;have h':wr.heap.size=g:=h;omega
       ·rcases M.out.2.2 with k|k;·have:=((k.2.1.rows.row j hj).lt _ h).2;omega
        ·exact absurd Z k.1
      ·rw[HM.out];simp[go_sem]
      ·rw[HM.out];simp[go_sem,eR]
     case round =>
      clear M i e p o q cb cc ch ct cv cx bT;obtain⟨i,e,p,o,q,ad,hx⟩:=hrel;by_cases Z:e=0
      ·subst Z;obtain⟨bt,O,h|h⟩:=ad;case inr=>exact absurd rfl h.1
       obtain⟨_,I,rfl,J⟩:=h;obtain⟨b3,bF⟩:=hx rfl;have cU:=I.le;have H:=kaa I;have a3:=kaa J;have a7:=kaa b3;have bN:=kaa bF;have cX:(0:Int)≤(i:Int):=Sba _;have hx0:=bF.c0;clear I J b3 hx O;obtain⟨pl,p0,p1,p2,p3,p4,pf⟩:=bt;by_cases aT:i<l.length
       ·have aV:(i:Int)<(l.length:Int):=by omega
        have af:=kaa (fun(u:World) (hu:uh g wr u)=>Tu l Tf i (pw m) _ u ((aW.out.keep H.out.gk.kp aX.out).keep hu pl |>.now (Nat.lt_of_lt_of_le pl hu.size)));unfold Vk at af;by_cases hs:Qh l i (pw m)=true
        ·rw[hs]at af;go_upto_region 8 with fail;go_quiet (first|(go_at_call 23;refine(af.out _ ?_).mono ?_;(repeat (first|exact uh.refl _ _|refine uh.drewN ?_ _|refine uh.drew ?_));rintro e w' ⟨Z,hw⟩;exact⟨Z,_,hw.symm⟩));have ao:Below wr.heap.size wr (wr.drewN nq):=Hn (Gaa _ _) nq;have h9:=(H.out.belowB ao).step ((gda (H.out.belowB ao).gk.pg).set1 ((i+1:Nat):Int)) Tf (Nat.le_succ i);have k9:=((gda H.out.gk.pg).below ao).set1 ((i+1:Nat):Int);rw[show((i+1:Nat):Int)=(i:Int)+1 by omega]at h9 k9;have H9:=kaa h9;have K9:=kaa k9.kp;have bX:(wr.drewN nq).frozen? ⟨g,1,none⟩=false:=((gda H.out.gk.pg).below ao).pg.fr 1;have b7:(wr.drewN nq).cell? ⟨g,1,none⟩=some (.int .i64 i):=((gda H.out.gk.pg).below ao).pg.c1;have HS:=kaa hs;clear h9 k9 ao hs;go_upto_region 10 with fail;clear pl p0 p1 p2 p3 p4 pf hx0 bX b7 af;generalize eca _ _ _=X at H9 K9 ⊢;have hm:=HM.out;subst hm;clear HM;have b5:=kaa H9.out.gk.pg.lt;have q1:=H9.out.gk.pg.c1;have bg:XB X xb _:=bN.out.blk (K9.out.block xb bN.out.lt (fun h=>a7.out (.inl h)));have a8:=kaa bg;have b1:=bg.c1;unfold eR at b1;simp only[List.getD_cons_zero,List.getD_cons_succ]at b1;obtain⟨bb,off,c3,b9,b8,O,bV⟩:=((aW.out.keep H9.out.gk.kp aX.out).now b5.out).at_ Tf;cases b9;have bY:=(bV i aT).pos;rw[← rj aT]at bY;have bL:=kaa ((tJ _ HM6.out l Tf (fun t ht=>yba (bE t ht) Uf) g _ W0 X.drew i o q (H9.out.belowB (dm (Gaa _ _)))).mono (fun r w' h=>pI.part a3.out HM6.out HS.out h));generalize (tk l i).pos=P at bY bL;have cY:((i:Int)+1) - 1=(i:Int):=by omega
         have cZ:IntKind.i64.wrap (i:Int)=(i:Int):=IntWalk.i64_in _ Tf;clear bV b8 O bF bg;go_region_law
          (first|(go_simp;(first|go_at_call 81|go_at_call 82|go_at_call 83|go_at_call 84|go_at_call 85|go_at_call 86);refine bL.out.mono ?_;rintro r w5 ⟨rfl,i2,e2,p2,o2,q2,h5,h6⟩)|fail)
         all_goals
          go_wp2_with fail;go_roundw;case rel=>exact⟨i2,e2,p2,o2,⟨q2,h5⟩,fun Z=>⟨fun h=>((h6 Z).2.2 xb h).elim a7.out (fun h=>by have:=a8.out.lt;have h':X.heap.size≤xb:=h;omega),a8.out.blk ((h6 Z).2.1 xb a8.out.lt a7.out)⟩⟩
          case measure=>exact OO H.out.gk.pg h5.1 aT (fun Z=>(h6 Z).1)
        ·have b0:Qh l i (pw m)=false:=by simpa using hs
         rw[b0]at af;go_upto_region 8 with fail;go_quiet (first|(go_at_call 23;refine(af.out _ ?_).mono ?_;(repeat (first|exact uh.refl _ _|refine uh.drewN ?_ _|refine uh.drew ?_));rintro e w' ⟨Z,hw⟩;exact⟨Z,_,hw.symm⟩));have HF:=kaa (((H.out.belowB (Hn (Gaa _ _) nq)).hst a3.out).past HM6.out (fun _=>by rw[b0];decide));exact Cb
       ·have aV:decide ((i:Int)<(l.length:Int))=false:=by simp;omega
        go_upto_region 8 with fail;go_quiet (fail);have HF:=kaa (((H.out.belowB (Hn (Gaa _ _) nq)).hst a3.out).past HM6.out (fun _ hs=>by have:=Zj hs;omega));exact Cb
      ·have J:(e==0)=false:=by simpa using Z
       have HF:=kaa ad;obtain⟨pl,p0,p1,p2,p3,p4,pf⟩:=ad.1;clear ad hx;go_upto_region 8 with fail;go_quiet (fail);have bI:=kaa ((HF.out.below (Hn (Gaa _ _) nq)).past HM6.out (fun h=>absurd h Z));clear pl p0 p1 p2 p3 p4 pf HF;generalize World.drewN _ _=X at bI ⊢;go_wp2_with fail;go_roundw;case rel=>exact⟨m+1,i,e,p,o,q,by rw[HM.out];go_num,by have:=HM6.out;omega,bI.out⟩
       case measure=>simp[intOf]
   ·obtain rfl:n=6:=by omega
    obtain⟨bt,O,bZ⟩:=M.out;have b4:=kaa O;have E:=kaa (a5.out _ O);obtain⟨pl,q0,q1,q2,q3,q4,qf⟩:=bt;rcases bZ with⟨rfl,I,rfl,J⟩|⟨Z,J⟩
    ·have H:=kaa I;by_cases aT:i<l.length
     ·have aV:(i:Int)<(l.length:Int):=by omega
      have a6:=kaa (fun(u:World) (hu:GK wr g (.slice A l.length c) i 0 0 o u)=>kq l Tf g _ o i 0 0 u hu.pg ((aW.out.keep H.out.gk.kp aX.out).keep hu.kp pl));clear I O;have e1:(wE l i 0 5,wP l i 0 0)=cj l i 5:=by unfold wE wP cj;rw[if_pos rfl,if_pos rfl]
      have L:Hid (Aj s.data.toList=(fj,wE l i 0 5,wP l i 0 0)):=by show _=_;rw[Ez HR.out,J];exact(if_pos aT).trans (by rw[← e1])
      have bs:(wE l i 0 5 != 0)=true:=by
       have bW:=Zl l i 5 Uf;rw[← e1]at bW;have h:¬ wE l i 0 5=0:=by have h':1≤wE l i 0 5:=bW;omega
       simpa using h
      generalize wE l i 0 5=E1 at a6 L bs;generalize wP l i 0 0=P1 at a6 L;clear e1;clear J M;go_upto_region 15 with(first|(go_at_call 24;refine(a6.out _ (gda H.out.gk.pg)).mono ?_;rintro r w6 ⟨rfl,h6⟩;obtain⟨dd,r0,r1,r2,r3,r4,rf⟩:=h6.pg;have G:=a5.out w6 (b4.out.trans (h6.kp.below (nba pl)));have c0:=G.2.2.cells 0 Uf;have c1:=G.2.2.cells 1 Uf;have c2:=G.2.2.cells 2 Uf;have c3:=G.2.2.cells 3 Uf;have c4:=G.2.2.cells 4 Uf;have c5:=G.2.2.cells 5 Uf;have f0:=G.2.2.fr 0;have f1:=G.2.2.fr 1;have f2:=G.2.2.fr 2;have f3:=G.2.2.fr 3;have f4:=G.2.2.fr 4;have f5:=G.2.2.fr 5;have a1:=kaa G));have HZ:=Dq (o:=fun _=>.slice none 0 0) a1.out.2.2.cells a1.out.2.2.fr;have HQ:=Dz a1.out.1 L.out;go_region_law (fail);all_goals go_wp2;unfold Gn at HZ HQ;generalize eca _ _ _=Y at HZ HQ ⊢;obtain⟨z0,z1,z2,z3,z4,z5⟩:=HZ;refine bodyPost_ret (v:=.tuple #[.agg #[.slice none 0 0,.slice none 0 0,.slice none 0 0,.slice none 0 0,.slice none 0 0,.slice none 0 0],.int .i64 E1,.int .i64 P1]) og rfl ?_;exact HQ.drew
     ·have aV:decide ((i:Int)<(l.length:Int))=false:=by simp;omega
      have L:Hid (Aj s.data.toList=(q.p,0,0)):=by show _=_;rw[Ez HR.out,J];exact if_neg aT
      have k0:=q4 0 Uf;have k1:=q4 1 Uf;have k2:=q4 2 Uf;have k3:=q4 3 Uf;have k4:=q4 4 Uf;have k5:=q4 5 Uf;have c0:=E.out.2.2.cells 0 Uf;have c1:=E.out.2.2.cells 1 Uf;have c2:=E.out.2.2.cells 2 Uf;have c3:=E.out.2.2.cells 3 Uf;have c4:=E.out.2.2.cells 4 Uf;have c5:=E.out.2.2.cells 5 Uf;have ff:=E.out.2.2.fr;have HZ:=Dq (o:=o) E.out.2.2.cells E.out.2.2.fr;have HQ:=pP H.out E.out.1 E.out.2.1 E.out.2.2 L.out;obtain⟨B0,d0,s0⟩:=yh (I.rows.row 0 Uf);obtain⟨B1,d1,s1⟩:=yh (I.rows.row 1 Uf);obtain⟨B2,d2,s2⟩:=yh (I.rows.row 2 Uf);obtain⟨B3,d3,s3⟩:=yh (I.rows.row 3 Uf);obtain⟨B4,d4,s4⟩:=yh (I.rows.row 4 Uf);obtain⟨B5,d5,s5⟩:=yh (I.rows.row 5 Uf);unfold Gn at HZ HQ;simp only[s0,s1,s2,s3,s4,s5]at HZ HQ k0 k1 k2 k3 k4 k5;clear I J M O s0 s1 s2 s3 s4 s5;go_wp2_with fail;generalize eca _ _ _=Y at HZ HQ ⊢;obtain⟨z0,z1,z2,z3,z4,z5⟩:=HZ;refine bodyPost_ret (v:=.tuple #[.agg #[.slice B0 (q.n 0) d0,.slice B1 (q.n 1) d1,.slice B2 (q.n 2) d2,.slice B3 (q.n 3) d3,.slice B4 (q.n 4) d4,.slice B5 (q.n 5) d5],.int .i64 0,.int .i64 0]) og rfl ?_;exact HQ
    ·have bs:(e != 0)=true:=by simpa using Z
     have cT:(e==0)=false:=by simpa using Z
     have db:=E.out.2.1;have cV:w.heap.size≠g:=by omega
     have cW:g≠w.heap.size:=by omega
     have L:Hid (Aj s.data.toList=(fj,e,p)):=by show _=_;rw[Ez HR.out,J]
     have c0:=E.out.2.2.cells 0 Uf;have c1:=E.out.2.2.cells 1 Uf;have c2:=E.out.2.2.cells 2 Uf;have c3:=E.out.2.2.cells 3 Uf;have c4:=E.out.2.2.cells 4 Uf;have c5:=E.out.2.2.cells 5 Uf;have ff:=E.out.2.2.fr;have HZ:=Dq (o:=fun _=>.slice none 0 0) E.out.2.2.cells E.out.2.2.fr;have HQ:=Dz E.out.1 L.out;clear J M O;go_upto_region 15 with fail;go_region_law (fail);all_goals go_wp2;unfold Gn at HZ HQ;generalize eca _ _ _=Y at HZ HQ ⊢;obtain⟨z0,z1,z2,z3,z4,z5⟩:=HZ;refine bodyPost_ret (v:=.tuple #[.agg #[.slice none 0 0,.slice none 0 0,.slice none 0 0,.slice none 0 0,.slice none 0 0,.slice none 0 0],.int .i64 e,.int .i64 p]) og rfl ?_;exact HQ.drew
 ·have bs:(e0 != 0)=true:=by simpa using aZ
  have L:=kaa (Zt hR aZ);clear hR aZ;go_enter Tryz.func10,Tryz.ntmps10;have b6:Hid (∀ u,Below (w.alloc (.cells #[.slice none 0 0,.slice none 0 0,.slice none 0 0,.slice none 0 0,.slice none 0 0,.slice none 0 0] 27)).heap.size (w.alloc (.cells #[.slice none 0 0,.slice none 0 0,.slice none 0 0,.slice none 0 0,.slice none 0 0,.slice none 0 0] 27)) u→Below w.heap.size w u∧oI u w.heap.size):=fun u hu=>by exact jb
  go_wp2_with (go_at_call 21;refine(HS.out _ (HE.out.below (HAL.out _))).mono ?_;rintro r w2 ⟨V,rfl,hv,av⟩;obtain⟨A,c,rfl,bU⟩:=hv.shape;have G:=b6.out _ av;have E:=kaa G;have c0:=G.2.cells 0 Uf;have c1:=G.2.cells 1 Uf;have c2:=G.2.cells 2 Uf;have c3:=G.2.cells 3 Uf;have c4:=G.2.cells 4 Uf;have c5:=G.2.cells 5 Uf;have ff:=G.2.fr);have HZ:=Dq (o:=fun _=>.slice none 0 0) E.out.2.cells E.out.2.fr;have HQ:=Dz E.out.1 L.out;unfold Gn at HZ HQ;generalize eca _ _ _=Y at HZ HQ ⊢;obtain⟨z0,z1,z2,z3,z4,z5⟩:=HZ;refine bodyPost_ret (v:=.tuple #[.agg #[.slice none 0 0,.slice none 0 0,.slice none 0 0,.slice none 0 0,.slice none 0 0,.slice none 0 0],.int .i64 e0,.int .i64 p0]) og rfl ?_;exact HQ
def o6(a b c d e f:Value):Nat→Value
 |0=>a|1=>b|2=>c|3=>d|4=>e|_=>f
theorem Lp.six{w:World}{o:Nat→Value}{q:qj}(h:Lp w o q):Lp w (o6 (o 0) (o 1) (o 2) (o 3) (o 4) (o 5)) q :=
 ⟨fun j A=>(match j,A with
  |0,_=>h.rows 0 Uf
  |1,_=>h.rows 1 Uf
  |2,_=>h.rows 2 Uf
  |3,_=>h.rows 3 Uf
  |4,_=>h.rows 4 Uf
  |5,_=>h.rows 5 Uf),h.deep⟩
def am(q:qj)(e p:Int)(w:World)(r:Ending)(w':World):Prop:=∃ A c0 E c1 G c2 H c3 I c4 J c5,r = .returned (.tuple #[.agg #[.slice A (q.n 0) c0,.slice E (q.n 1) c1,.slice G (q.n 2) c2,.slice H (q.n 3) c3,.slice I (q.n 4) c4,.slice J (q.n 5) c5],.int .i64 e,.int .i64 p])∧Lp w' (o6 (.slice A (q.n 0) c0) (.slice E (q.n 1) c1) (.slice G (q.n 2) c2) (.slice H (q.n 3) c3) (.slice I (q.n 4) c4) (.slice J (q.n 5) c5)) q∧Below w.heap.size w w'
theorem rB(s:ByteArray)(G:s.size≤1000000)(w:World)(E:Xj w):Calls maa 10 #[.string s] w fun r w'=>∃ q,q.p=(Aj s.data.toList).1∧am q (Aj s.data.toList).2.1 (Aj s.data.toList).2.2 w r w':=by refine(qK s G w E).mono ?_;exact Ga
theorem Ko(l:List UInt8)(H:l.length≤1000)(s:ByteArray)(G:s=vh l)(w:World)(A:Xj w)(P:lk)(e p:Int)(E:Aj l=(P,e,p)):Calls maa 10 #[.string s] w fun r w'=>∃ q,q.p=P∧am q e p w r w':=by subst G;have h:=rB (vh l) (by rw[Dh];omega) w A;rw[Yi,E]at h;exact h
theorem wK{w:World}{q:qj}{A0 A3:Option Addr}{c0 c3:Nat}{a b d e:Value}(h:Lp w (o6 (.slice A0 (q.n 0) c0) a b (.slice A3 (q.n 3) c3) d e) q)(hq:q.p=gP) :
 ∃ b0 o0 J Y k1 A E A5 k5 A6 k6,A0=some ⟨b0,o0,none⟩∧A3=some ⟨A,E,none⟩∧(q.n 0=1∧q.n 3=1∧q.n 5=1) ∧
  ∀ u,Below w.heap.size w u→u.cell? ⟨b0,o0,none⟩=some (.slice (some ⟨J,Y,none⟩) 2 k1)∧u.cell? ⟨J,Y+1,none⟩=some (.int .i64 1)∧u.cell? ⟨J,Y+3,none⟩=some (.string ⟨#[98]⟩) ∧
   u.cell? ⟨A,E,none⟩=some (.string ⟨#[116]⟩)∧u.cell? ⟨A,E+1,none⟩=some (.slice A5 1 k5)∧u.cell? ⟨A,E+2,none⟩=some (.slice A6 1 k6):=by
 obtain⟨ql,qv,qk,qt,qr,qc⟩:=q
 unfold qj.p gP at hq
 injection hq with G h2 h3 H h5 h6
 simp only at G H h6
 obtain⟨l0,rfl,af⟩:∃ l0:Value × List Xh,ql=[l0]∧l0.2=[⟨[97],1,5⟩,⟨[98],0,12⟩]:=by
  cases ql with
  |nil=>cases G
  |cons x r =>
   cases r with
   |nil=>injection G with G _;exact⟨x,rfl,G⟩
   |cons y z=>injection G with _ G;cases G
 obtain⟨t0,rfl,al⟩:∃ t0:Tv,qt=[t0]∧t0.t=gH:=by
  cases qt with
  |nil=>cases H
  |cons x r =>
   cases r with
   |nil=>injection H with H _;exact⟨x,rfl,H⟩
   |cons y z=>injection H with _ H;cases H
 have aV:qc.length=1:=by have:=congrArg tea h6;simpa using this
 obtain⟨lv,lc⟩:=l0
 simp only at af
 subst af
 obtain⟨tn,tr,ts,tb,tp,tq⟩:=t0
 unfold Tv.t gH at al
 injection al with g1 g2 g3 g4
 simp only at g1 g2 g3 g4
 subst g1 g2 g4
 have aY:tp.length=1:=by have:=congrArg tea g3;simpa[gB]using this
 have r0:bi w (.slice A0 1 c0) 1 1 [lv]:=h.rows 0 Uf
 have r3:bi w (.slice A3 1 c3) 4 1 [.string (vh [116]),tr,tb,.int .i64 30]:=h.rows 3 Uf
 have d0:bi w lv 3 2 [.string (vh [97]),.int .i64 1,.int .i64 5,.string (vh [98]),.int .i64 0,.int .i64 12]:=h.deep.lines (lv,_) (ida.2 rfl)
 have d3:=h.deep.thrs _ (ida.2 rfl)
 obtain⟨⟨_,A5,k5,e5,_,_⟩,⟨⟨_,A6,k6,e6,_,_⟩,_⟩⟩:=d3
 simp only at e5 e6
 rw[aY]at e6
 obtain⟨_,B0,x0,L,_,aU⟩:=r0
 obtain⟨_,B3,x3,M,_,aW⟩:=r3
 obtain⟨_,B1,x1,aT,_,aX⟩:=d0
 obtain⟨b0,o0,rfl,lt0,av⟩:=aU Uf
 obtain⟨A,E,rfl,O,I⟩:=aW Uf
 obtain⟨J,Y,rfl,ao,ad⟩:=aX Uf
 injection L with L
 injection M with M
 have z0:=av 0 _ rfl
 have z1:=ad 1 _ rfl
 have z2:=ad 3 _ rfl
 have z3:=I 0 _ rfl
 have z4:=I 1 _ rfl
 have z5:=I 2 _ rfl
 simp only[Nat.add_zero]at z0 z3
 rw[aT]at z0
 rw[show tr=_ from e5]at z4
 rw[show tb=_ from e6]at z5
 refine⟨b0,o0,J,Y,x1,A,E,A5,k5,A6,k6,L,M,⟨rfl,rfl,aV⟩,fun u Z=>⟨(Z.cell (p:=⟨b0,o0,none⟩) lt0).trans z0,(Z.cell (p:=⟨J,Y+1,none⟩) ao).trans z1,(Z.cell (p:=⟨J,Y+3,none⟩) ao).trans z2,(Z.cell (p:=⟨A,E,none⟩) O).trans z3,(Z.cell (p:=⟨A,E+1,none⟩) O).trans z4,(Z.cell (p:=⟨A,E+2,none⟩) O).trans z5⟩⟩
theorem KG(s:ByteArray)(h4:4000<s.size)(w:World):Calls maa 21 #[.string s] w (On (Li s.data.toList) w):=by exact Na
theorem XD(s:ByteArray)(Z:4000<s.size)(w:World):Calls maa 10 #[.string s] w (Pn (Aj s.data.toList) w):=by
 have I:=kaa (fun(u:World)=>KG s Z u);unfold On at I;have HAL:Hid (∀ o,Below w.heap.size w (w.alloc o)):=fun o=>al w o;have hR:Li s.data.toList=([],2,4000):=Bo (by simpa using Z);have H:¬ (2:Int)=0:=by decide
 clear Z;rw[hR]at I;simp only at I;have L:=kaa (Zt hR H);clear hR H;go_enter Tryz.func10,Tryz.ntmps10;have J:Hid (∀ u,Below (w.alloc (.cells #[.slice none 0 0,.slice none 0 0,.slice none 0 0,.slice none 0 0,.slice none 0 0,.slice none 0 0] 27)).heap.size (w.alloc (.cells #[.slice none 0 0,.slice none 0 0,.slice none 0 0,.slice none 0 0,.slice none 0 0,.slice none 0 0] 27)) u→Below w.heap.size w u∧oI u w.heap.size):=fun u hu=>by exact jb
 go_wp2_with (go_at_call 21;refine(I.out _).mono ?_;rintro r w2 ⟨V,rfl,hv,ad⟩;obtain⟨A,c,rfl,af⟩:=hv.shape;have E:=J.out _ ad;have G:=kaa E;have c0:=E.2.cells 0 Uf;have c1:=E.2.cells 1 Uf;have c2:=E.2.cells 2 Uf;have c3:=E.2.cells 3 Uf;have c4:=E.2.cells 4 Uf;have c5:=E.2.cells 5 Uf;have ff:=E.2.fr);have O:=Dq (o:=fun _=>.slice none 0 0) G.out.2.cells G.out.2.fr;have M:=Dz G.out.1 L.out;unfold Gn at O M;generalize eca _ _ _=Y at O M ⊢;obtain⟨z0,z1,z2,z3,z4,z5⟩:=O;refine bodyPost_ret (v:=.tuple #[.agg #[.slice none 0 0,.slice none 0 0,.slice none 0 0,.slice none 0 0,.slice none 0 0,.slice none 0 0],.int .i64 2,.int .i64 4000]) og rfl ?_;exact M
theorem Yt(s:ByteArray)(w:World)(E:Xj w):Calls maa 10 #[.string s] w fun r w'=>∃ q,q.p=(Aj s.data.toList).1∧am q (Aj s.data.toList).2.1 (Aj s.data.toList).2.2 w r w':=by
 by_cases h:s.size≤4000;·exact rB s Tf w E
 ·refine(XD s Tf w).mono ?_;exact Ga
end Go.Proofs.YtjcihcncljihoaaGreatDoor
namespace Go.Proofs.YtjcihcncljihoaaGreatDoor
open Go Go.RowKit
set_option linter.unusedVariables false
set_option maxRecDepth 100000
open List renaming length_map→Oca,mem_map→mda
open Nat renaming le_refl→aaa,zero_le→laa
open Prod renaming ext→Pea
open Go.Proofs.Tryz renaming prog→maa
theorem cH(s:ByteArray)(hs:s=vh ZO)(w:World)(hE:Xj w):Calls maa 10 #[.string s] w fun r w'=>∃ q G I c0 L c1 M c2 A E c3 O c4 Y c5 H J k1 Z k6 A7 k7,r = .returned (.tuple #[.agg #[.slice (some ⟨G,I,none⟩) 1 c0,.slice L (q.n 1) c1,.slice M (q.n 2) c2,.slice (some ⟨A,E,none⟩) 1 c3,.slice O (q.n 4) c4,.slice Y 1 c5],.int .i64 0,.int .i64 0])∧q.p=gP∧Lp w' (o6 (.slice (some ⟨G,I,none⟩) 1 c0) (.slice L (q.n 1) c1) (.slice M (q.n 2) c2) (.slice (some ⟨A,E,none⟩) 1 c3) (.slice O (q.n 4) c4) (.slice Y 1 c5)) q∧(∀ u,Below w'.heap.size w' u→u.cell? ⟨G,I,none⟩=some (.slice (some ⟨H,J,none⟩) 2 k1)∧u.cell? ⟨H,J+1,none⟩=some (.int .i64 1)∧u.cell? ⟨H,J+3,none⟩=some (.string ⟨#[98]⟩)∧u.cell? ⟨A,E,none⟩=some (.string ⟨#[116]⟩)∧u.cell? ⟨A,E+1,none⟩=some (.slice Z 1 k6)∧u.cell? ⟨A,E+2,none⟩=some (.slice A7 1 k7))∧Below w.heap.size w w':=by refine(Ko ZO Uf s hs w hE gP 0 0 aC).mono ?_;rintro r w' ⟨q,hq,A0,c0,L,c1,M,c2,A3,c3,O,c4,Y,c5,rfl,hM,hb⟩;obtain⟨G,I,H,J,k1,A,E,Z,k6,A7,k7,rfl,rfl,⟨n0,n3,n5⟩,hF⟩:=wK hM hq;rw[n0,n3,n5]at hM ⊢;exact⟨q,G,I,c0,L,c1,M,c2,A,E,c3,O,c4,Y,c5,H,J,k1,Z,k6,A7,k7,rfl,hq,hM,hF,hb⟩
section
variable {w : World} {a b c d e f a2 b2 c2 d2 e2 f2 : Value} {q r : qj}
theorem YD(hq:q.p=gP):eA q∧(∀ x∈q.thrs,At x)∧∀ x∈q.rcv,At x:=Iq (s:=ZO) (by rw[aC];exact hq.symm)
theorem IC.bare{N i:Nat}{p:lk}(h:IC N i p):IC N i (Ni p):=by
 refine⟨?_,fun x A=>?_,?_,?_,?_,fun x A=>?_,?_,fun x A=>?_,?_⟩;·show(p.lines.map _).length≤_;rw[Oca];exact h.ln
 ·obtain⟨y,E,rfl⟩:=mda.1 A;rw[Oca];exact h.lr y E
 ·show(p.vols.map _).length≤_;rw[Oca];exact h.vo
 ·show(p.locks.map _).length≤_;rw[Oca];exact h.lo
 ·show(p.thrs.map _).length≤_;rw[Oca];exact h.th
 ·obtain⟨y,E,rfl⟩:=mda.1 A;exact h.tr y E
 ·show(p.rcv.map _).length≤_;rw[Oca];exact h.rc
 ·obtain⟨y,E,rfl⟩:=mda.1 A;exact h.rr y E
 ·show(p.clms.map _).length≤_;rw[Oca];exact h.cl
theorem Oz{n:Nat}(hq:q.p=Ni gP∨q.p=Ni (Ni gP)):eA q:=by
 have A:IC 4000 4000 gP:=by have:=Gw ZO;rw[aC]at this;exact this
 rcases hq with h|h;·exact(uD (N:=4000) Uf (by rw[h];exact Du XM) (by rw[h];exact A.bare)).1
 ·exact(uD (N:=4000) Uf (by rw[h,ir];exact Du XM) (by rw[h,ir];exact A.bare)).1
theorem aN(h:Lp w (o6 a b c d e f) q)(hq:q.p=gP)(H:Xj w):Calls maa 18 #[.agg #[a,b,c,d,e,f]] w fun e w'=>e = .returned (.string ⟨#[108,105,110,101,32,97,32,61,32,49,44,32,98,59,10,108,111,99,107,32,109,59,10,116,104,114,101,97,100,32,116,32,123,10,32,32,114,101,103,32,114,59,10,32,32,108,111,97,100,32,114,32,61,32,97,59,10,125,10,97,108,119,97,121,115,32,97,32,61,61,32,48,59,10]⟩)∧Below w.heap.size w w':=by obtain⟨A,E,G⟩:=YD hq;have:=ZE (o6 a b c d e f) q A E G w h H;rw[hq,LQ]at this;exact this
theorem vK(h:Lp w (o6 a b c d e f) q)(hq:q.p=gP)(A:Xj w):Calls maa 16 #[.agg #[a,b,c,d,e,f]] w fun e w'=>e = .returned (.bool true)∧Below w.heap.size w w':=by have:=Ks (o6 a b c d e f) q (YD hq).1 w h A;rw[hq,XM]at this;exact this
theorem FH(u:World)(G:Xj u):Calls maa 16 #[.agg #[.slice none 0 0,.slice none 0 0,.slice (some ⟨u.heap.size,0,none⟩) 1 1,.slice none 0 0,.slice none 0 0,.slice none 0 0]] (u.alloc (.cells #[.string ⟨#[]⟩,.int .i64 0,.int .i64 0] 48)) fun e w'=>e = .returned (.bool false)∧Below u.heap.size u w':=by
 have J:bi (u.alloc (.cells #[.string ⟨#[]⟩,.int .i64 0,.int .i64 0] 48)) (.slice (some ⟨u.heap.size,0,none⟩) 1 1) 3 1 [.string ⟨#[]⟩,.int .i64 0,.int .i64 0]:=zk u [.string ⟨#[]⟩,.int .i64 0,.int .i64 0] 48 3 1 1 rfl (aaa _);have A:∀ {m:Nat} (X:World),bi X (.slice none 0 0) m 0 []:=fun X=>⟨by simp,none,0,rfl,aaa _,fun h=>absurd h (Nat.lt_irrefl 0)⟩;have H:Lp (u.alloc (.cells #[.string ⟨#[]⟩,.int .i64 0,.int .i64 0] 48)) (o6 (.slice none 0 0) (.slice none 0 0) (.slice (some ⟨u.heap.size,0,none⟩) 1 1) (.slice none 0 0) (.slice none 0 0) (.slice none 0 0)) ⟨[],[],[⟨[],0,0⟩],[],[],[]⟩ :=
  ⟨fun j E=>(match j,E with
   |0,_=>A _
   |1,_=>A _
   |2,_=>J
   |3,_=>A _
   |4,_=>A _
   |5,_=>A _),⟨fun x hx=>wg,fun x hx=>wg,fun x hx=>wg,fun x hx=>wg⟩⟩
 have:=Ks _ _ ⟨fun j E=>(match j,E with
  |0,_=>laa _
  |1,_=>laa _
  |2,_=>by show 1≤_;decide
  |3,_=>laa _
  |4,_=>laa _
  |5,_=>laa _),fun x hx=>wg,fun x hx=>wg,fun x hx=>(by rw[List.mem_singleton.1 hx];exact⟨by decide⟩),fun x hx=>wg,fun x hx=>wg,fun x hx=>wg⟩ _ H (G.below (al _ _))
 have I:Mi (qj.p ⟨[],[],[⟨[],0,0⟩],[],[],[]⟩)=false:=UQ;rw[I]at this;exact this.mono fun e w' h=>⟨h.1,bt (al _ _) h.2⟩
theorem nv(h:Lp w (o6 a b c d e f) q)(hB:eA q):Calls maa 15 #[.agg #[a,b,c,d,e,f]] w fun r w'=>∃ q' a' A E G H f',r = .returned (.agg #[a',A,E,G,H,f'])∧q'.p=Ni q.p∧Lp w' (o6 a' A E G H f') q'∧Below w.heap.size w w':=by refine(tM (o6 a b c d e f) q hB w h).mono ?_;rintro r w' ⟨o',q',rfl,hq,I,J⟩;exact⟨q',_,_,_,_,_,_,rfl,hq,I.now.six,J⟩
theorem mv(h:Lp w (o6 a b c d e f) q)(A:Lp w (o6 a2 b2 c2 d2 e2 f2) r)(hq:eA q)(hr:eA r){z:Bool}(E:cm false q.p r.p=z):Calls maa 20 #[.agg #[a,b,c,d,e,f],.agg #[a2,b2,c2,d2,e2,f2]] w fun e w'=>e = .returned (.bool z)∧Below w.heap.size w w':=by subst E;exact sM (o6 a b c d e f) (o6 a2 b2 c2 d2 e2 f2) q r hq hr w h A
theorem uK{pl:Bool}(h:Lp w (o6 a b c d e f) q)(A:Lp w (o6 a2 b2 c2 d2 e2 f2) r)(hq:eA q)(hr:eA r){z:Bool}(E:cm pl q.p r.p=z):Calls maa 12 #[.agg #[a,b,c,d,e,f],.agg #[a2,b2,c2,d2,e2,f2],.bool pl] w fun e w'=>e = .returned (.bool z)∧Below w.heap.size w w':=by subst E;exact iJ (o6 a b c d e f) (o6 a2 b2 c2 d2 e2 f2) q r hq hr pl w h A
theorem gA(w:World):Lp w (o6 (.slice none 0 0) (.slice none 0 0) (.slice none 0 0) (.slice none 0 0) (.slice none 0 0) (.slice none 0 0)) Xr:=(Sx w).six
theorem iA:eA Xr:=⟨fun j A=>by rw[(Bq j).1];exact laa _,fun x hx=>wg,fun x hx=>wg,fun x hx=>wg,fun x hx=>wg,fun x hx=>wg,fun x hx=>wg⟩
end
theorem KP:Aj rQ=((Aj rQ).1,5,7):=Pea rfl LP
theorem IP:Aj qQ=((Aj qQ).1,5,17):=Pea rfl JP
theorem FP:Aj pQ=((Aj pQ).1,6,6):=Pea rfl GP
theorem DP:Aj oQ=((Aj oQ).1,5,12):=Pea rfl EP
end Go.Proofs.YtjcihcncljihoaaGreatDoor
namespace Go.Proofs.YtjcihcncljihoaaGreatDoor
open Go
open _root_.Array renaming replicate→Sea
open Bool renaming and_eq_true→Raa
open Go.Region renaming Mode→Qea,noSelect→Rea,ready→Pca
def wk(md:Qea)(ops:Array Oper):Array Bool→List (Nat × Bool)→Bool
 |l,[]=>(Pca md ops l).isEmpty
 |l,(i,c)::r=>(if c then Pca md ops l==[i]else Region.free md ops l i&&(Pca md ops l).contains i)&&wk md ops (l.setIfInBounds i true) r
def W2(r:List (Nat × Bool))(P:Program)(md:Qea)(ops:Array Oper)(Q:Exit→Act→World→Prop)(S:World→Prop)(fuel:Nat)(listed:Array Bool)(a:Act)(w:World):Prop :=
 (Rea ops=true∧wk md ops listed r=true)→wpAnyH P md ops Q S fuel listed a w
section
variable {P : Program} {ops : Array Oper} {Q : Exit → Act → World → Prop} {md : Region.Mode} {S : World → Prop} {r : List (Nat × Bool)} {i fuel : Nat} {listed : Array Bool} {a : Act} {w : World}
theorem W2.start{id:Nat}(r:List (Nat × Bool))(S:World→Prop)(hm:P.follows .mixedOrders=true)(E:(Rea ops&&wk .any ops (Sea ops.size false) r)=true)(A:S w.drew)(h:S w.drew→W2 r P .any ops Q S ops.size (Sea ops.size false) a w.drew):(Code.region id ops true).wp P Q a w :=
 wp_region_held_drew hm A (fun G=>h G (by simpa using E))
theorem W2.take{E:Oper}{v:Value}(hi:ops[i]? = some E)(H:∀ c a w,Q (.panic c) (a.put E.dst v) w→Q (.panic c) a w)(J:YieldsIf P ops S E v a)(I:S w)(h:W2 r P md ops Q S fuel (listed.setIfInBounds i true) (a.put E.dst v) w):W2 ((i,false)::r) P md ops Q S (fuel+1) listed a w:=by rintro⟨G,A⟩;unfold wk at A;simp only[Bool.false_eq_true,if_false,Raa]at A;exact wpAnyH_take hi G A.1.1 A.1.2 H J I (h ⟨G,A.2⟩)
theorem W2.call{o:Oper}(J:ops[i]? = some o)(h:∀ A:Act→World→Prop,Shut (∀ a w,S w→(S w→W2 r P md ops Q S fuel (listed.setIfInBounds i true) a w)→A a w)→if Region.wanted o (yielded ops a.tmps)=true then Oper.wp P o a w A Q else A (a.put o.dst undef) w):W2 ((i,true)::r) P md ops Q S (fuel+1) listed a w:=by rintro⟨I,E⟩;unfold wk at E;simp only[if_true,Raa,beq_iff_eq]at E;exact wpAnyH_ready E.1 Yf (AllReadyH.cons J (fun A H=>h A (fun a w G L=>H.out a w G (fun G=>L G ⟨I,E.2⟩))) AllReadyH.nil)
theorem W2.done(h:Q .normal a w):W2 [] P md ops Q S fuel listed a w:=by rintro⟨_,A⟩;unfold wk at A;exact wpAnyH_done (List.isEmpty_iff.1 A) h fuel
end
end Go.Proofs.YtjcihcncljihoaaGreatDoor
namespace Go.Proofs.YtjcihcncljihoaaGreatDoor
open Go
open _root_.Array renaming replicate→Sea
open Go.Region renaming Mode→Qea,noSelect→Rea,ready→Pca
def ww(n:Nat):Code→Option (Array Oper)
 | .region id ops _=>if id=n then some ops else none
 | .seq a b=>(ww n a).or (ww n b)
 | .cond _ a b=>(ww n a).or (ww n b)
 | .block _ b=>ww n b
 | .loop b=>ww n b
 |_=>none
def an(md:Qea)(ops:Array Oper):Array Bool→List (Nat × Bool)→Bool
 |l,[]=>true
 |l,(i,c)::r=>(if c then Pca md ops l==[i]else Region.free md ops l i&&(Pca md ops l).contains i)&&an md ops (l.setIfInBounds i true) r
def Zm:Array Bool→List (Nat × Bool)→Array Bool
 |l,[]=>l
 |l,(i,c)::r=>Zm (l.setIfInBounds i true) r
theorem uj{md:Qea}{ops:Array Oper}:∀ (r:List (Nat × Bool)) (l:Array Bool) (s:List (Nat × Bool)),an md ops l r=true→wk md ops (Zm l r) s=true→wk md ops l (r++s)=true
 | [],l,s,_,h=>h
 |(i,c)::r,l,s,A,h=>by unfold an at A;unfold Zm at h;rw[Bool.and_eq_true]at A;rw[List.cons_append];unfold wk;rw[A.1,Bool.true_and];exact uj r _ s A.2 h
noncomputable def g8:Array Oper:=((Tryz.f13.body).bind (ww 8)).getD #[]
set_option maxRecDepth 100000
def aQ:Array Bool:=#[false,false,false,false,false,false,false,false,false,false,false,false,false,false,false,false,false,false,false,false,false,false,false,false,false,false,false,false,false,false,false,false,false,false,false,false,false,false,false,false,false,false,false,false,false,false,false,false,false,false,false,false,false,false,false,false,false,false,false,false,false,false,false,false,false,false,false,false,false,false,false,false,false,false,false,false,false,false,false,false,false,false,false,false,false,false,false,false,false,false,false,false,false,false,false,false,false,false,false,false,false,false,false,false,false,false,false,false,false,false,false,false,false,false,false,false,false]
def CQ:List (Nat × Bool):=[(0,false),(1,false),(2,false),(3,false),(4,false),(5,false),(6,false),(7,false),(8,false)]
theorem fS:an .any g8 aQ CQ=true:=by kernel_rfl
def ZP:Array Bool:=#[true,true,true,true,true,true,true,true,true,false,false,false,false,false,false,false,false,false,false,false,false,false,false,false,false,false,false,false,false,false,false,false,false,false,false,false,false,false,false,false,false,false,false,false,false,false,false,false,false,false,false,false,false,false,false,false,false,false,false,false,false,false,false,false,false,false,false,false,false,false,false,false,false,false,false,false,false,false,false,false,false,false,false,false,false,false,false,false,false,false,false,false,false,false,false,false,false,false,false,false,false,false,false,false,false,false,false,false,false,false,false,false,false,false,false,false,false]
def BQ:List (Nat × Bool):=[(9,false),(10,false),(11,false),(12,false),(13,false),(14,false),(15,false),(16,false),(17,false)]
theorem eS:an .any g8 ZP BQ=true:=by kernel_rfl
theorem UR:Zm aQ CQ=ZP:=by kernel_rfl
def XP:Array Bool:=#[true,true,true,true,true,true,true,true,true,true,true,true,true,true,true,true,true,true,false,false,false,false,false,false,false,false,false,false,false,false,false,false,false,false,false,false,false,false,false,false,false,false,false,false,false,false,false,false,false,false,false,false,false,false,false,false,false,false,false,false,false,false,false,false,false,false,false,false,false,false,false,false,false,false,false,false,false,false,false,false,false,false,false,false,false,false,false,false,false,false,false,false,false,false,false,false,false,false,false,false,false,false,false,false,false,false,false,false,false,false,false,false,false,false,false,false,false]
def AQ:List (Nat × Bool):=[(18,false),(19,false),(20,false),(21,false),(22,false),(23,false),(24,false),(25,false),(26,false)]
theorem dS:an .any g8 XP AQ=true:=by kernel_rfl
theorem SR:Zm ZP BQ=XP:=by kernel_rfl
def WP:Array Bool:=#[true,true,true,true,true,true,true,true,true,true,true,true,true,true,true,true,true,true,true,true,true,true,true,true,true,true,true,false,false,false,false,false,false,false,false,false,false,false,false,false,false,false,false,false,false,false,false,false,false,false,false,false,false,false,false,false,false,false,false,false,false,false,false,false,false,false,false,false,false,false,false,false,false,false,false,false,false,false,false,false,false,false,false,false,false,false,false,false,false,false,false,false,false,false,false,false,false,false,false,false,false,false,false,false,false,false,false,false,false,false,false,false,false,false,false,false,false]
def yQ:List (Nat × Bool):=[(27,false),(28,false),(29,false),(30,false),(31,false),(32,false),(33,false),(34,false),(35,false)]
theorem cS:an .any g8 WP yQ=true:=by kernel_rfl
theorem RR:Zm XP AQ=WP:=by kernel_rfl
def VP:Array Bool:=#[true,true,true,true,true,true,true,true,true,true,true,true,true,true,true,true,true,true,true,true,true,true,true,true,true,true,true,true,true,true,true,true,true,true,true,true,false,false,false,false,false,false,false,false,false,false,false,false,false,false,false,false,false,false,false,false,false,false,false,false,false,false,false,false,false,false,false,false,false,false,false,false,false,false,false,false,false,false,false,false,false,false,false,false,false,false,false,false,false,false,false,false,false,false,false,false,false,false,false,false,false,false,false,false,false,false,false,false,false,false,false,false,false,false,false,false,false]
def xQ:List (Nat × Bool):=[(36,false),(37,false),(38,false),(39,false),(40,false),(41,false),(42,false),(43,false),(44,false)]
theorem aS:an .any g8 VP xQ=true:=by kernel_rfl
theorem QR:Zm WP yQ=VP:=by kernel_rfl
def UP:Array Bool:=#[true,true,true,true,true,true,true,true,true,true,true,true,true,true,true,true,true,true,true,true,true,true,true,true,true,true,true,true,true,true,true,true,true,true,true,true,true,true,true,true,true,true,true,true,true,false,false,false,false,false,false,false,false,false,false,false,false,false,false,false,false,false,false,false,false,false,false,false,false,false,false,false,false,false,false,false,false,false,false,false,false,false,false,false,false,false,false,false,false,false,false,false,false,false,false,false,false,false,false,false,false,false,false,false,false,false,false,false,false,false,false,false,false,false,false,false,false]
def wQ:List (Nat × Bool):=[(45,false),(46,false),(47,false),(48,false),(49,false),(50,true),(51,false),(52,false),(53,false)]
theorem ZR:an .any g8 UP wQ=true:=by kernel_rfl
theorem PR:Zm VP xQ=UP:=by kernel_rfl
def TP:Array Bool:=#[true,true,true,true,true,true,true,true,true,true,true,true,true,true,true,true,true,true,true,true,true,true,true,true,true,true,true,true,true,true,true,true,true,true,true,true,true,true,true,true,true,true,true,true,true,true,true,true,true,true,true,true,true,true,false,false,false,false,false,false,false,false,false,false,false,false,false,false,false,false,false,false,false,false,false,false,false,false,false,false,false,false,false,false,false,false,false,false,false,false,false,false,false,false,false,false,false,false,false,false,false,false,false,false,false,false,false,false,false,false,false,false,false,false,false,false,false]
def vQ:List (Nat × Bool):=[(54,false),(55,false),(56,false),(57,false),(58,false),(59,false),(60,false),(61,false),(62,false)]
theorem YR:an .any g8 TP vQ=true:=by kernel_rfl
theorem OR:Zm UP wQ=TP:=by kernel_rfl
def SP:Array Bool:=#[true,true,true,true,true,true,true,true,true,true,true,true,true,true,true,true,true,true,true,true,true,true,true,true,true,true,true,true,true,true,true,true,true,true,true,true,true,true,true,true,true,true,true,true,true,true,true,true,true,true,true,true,true,true,true,true,true,true,true,true,true,true,true,false,false,false,false,false,false,false,false,false,false,false,false,false,false,false,false,false,false,false,false,false,false,false,false,false,false,false,false,false,false,false,false,false,false,false,false,false,false,false,false,false,false,false,false,false,false,false,false,false,false,false,false,false,false]
def uQ:List (Nat × Bool):=[(63,false),(64,false),(65,false),(66,false),(67,false),(68,false),(69,false),(70,false),(71,false)]
theorem XR:an .any g8 SP uQ=true:=by kernel_rfl
theorem MR:Zm TP vQ=SP:=by kernel_rfl
def QP:Array Bool:=#[true,true,true,true,true,true,true,true,true,true,true,true,true,true,true,true,true,true,true,true,true,true,true,true,true,true,true,true,true,true,true,true,true,true,true,true,true,true,true,true,true,true,true,true,true,true,true,true,true,true,true,true,true,true,true,true,true,true,true,true,true,true,true,true,true,true,true,true,true,true,true,true,false,false,false,false,false,false,false,false,false,false,false,false,false,false,false,false,false,false,false,false,false,false,false,false,false,false,false,false,false,false,false,false,false,false,false,false,false,false,false,false,false,false,false,false,false]
def tQ:List (Nat × Bool):=[(72,false),(73,false),(74,false),(75,false),(76,false),(77,false),(78,false),(79,false),(80,false)]
theorem WR:an .any g8 QP tQ=true:=by kernel_rfl
theorem LR:Zm SP uQ=QP:=by kernel_rfl
def PP:Array Bool:=#[true,true,true,true,true,true,true,true,true,true,true,true,true,true,true,true,true,true,true,true,true,true,true,true,true,true,true,true,true,true,true,true,true,true,true,true,true,true,true,true,true,true,true,true,true,true,true,true,true,true,true,true,true,true,true,true,true,true,true,true,true,true,true,true,true,true,true,true,true,true,true,true,true,true,true,true,true,true,true,true,true,false,false,false,false,false,false,false,false,false,false,false,false,false,false,false,false,false,false,false,false,false,false,false,false,false,false,false,false,false,false,false,false,false,false,false,false]
def sQ:List (Nat × Bool):=[(81,false),(82,false),(83,false),(84,false),(85,false),(86,false),(87,true),(88,false),(89,false)]
theorem VR:an .any g8 PP sQ=true:=by kernel_rfl
theorem JR:Zm QP tQ=PP:=by kernel_rfl
def tK:Array Bool:=#[true,true,true,true,true,true,true,true,true,true,true,true,true,true,true,true,true,true,true,true,true,true,true,true,true,true,true,true,true,true,true,true,true,true,true,true,true,true,true,true,true,true,true,true,true,true,true,true,true,true,true,true,true,true,true,true,true,true,true,true,true,true,true,true,true,true,true,true,true,true,true,true,true,true,true,true,true,true,true,true,true,true,true,true,true,true,true,true,true,true,false,false,false,false,false,false,false,false,false,false,false,false,false,false,false,false,false,false,false,false,false,false,false,false,false,false,false]
def WM:List (Nat × Bool):=[(90,false),(91,true),(92,false),(93,true),(94,false),(95,false),(96,false),(97,false),(98,false)]
theorem XQ:an .any g8 tK WM=true:=by kernel_rfl
theorem TQ:Zm PP sQ=tK:=by kernel_rfl
def sK:Array Bool:=#[true,true,true,true,true,true,true,true,true,true,true,true,true,true,true,true,true,true,true,true,true,true,true,true,true,true,true,true,true,true,true,true,true,true,true,true,true,true,true,true,true,true,true,true,true,true,true,true,true,true,true,true,true,true,true,true,true,true,true,true,true,true,true,true,true,true,true,true,true,true,true,true,true,true,true,true,true,true,true,true,true,true,true,true,true,true,true,true,true,true,true,true,true,true,true,true,true,true,true,false,false,false,false,false,false,false,false,false,false,false,false,false,false,false,false,false,false]
def VM:List (Nat × Bool):=[(99,true),(100,true),(101,false),(102,false),(103,false),(104,false),(105,true),(106,false),(107,false)]
theorem WQ:an .any g8 sK VM=true:=by kernel_rfl
theorem RQ:Zm tK WM=sK:=by kernel_rfl
def rK:Array Bool:=#[true,true,true,true,true,true,true,true,true,true,true,true,true,true,true,true,true,true,true,true,true,true,true,true,true,true,true,true,true,true,true,true,true,true,true,true,true,true,true,true,true,true,true,true,true,true,true,true,true,true,true,true,true,true,true,true,true,true,true,true,true,true,true,true,true,true,true,true,true,true,true,true,true,true,true,true,true,true,true,true,true,true,true,true,true,true,true,true,true,true,true,true,true,true,true,true,true,true,true,true,true,true,true,true,true,true,true,true,false,false,false,false,false,false,false,false,false]
def UM:List (Nat × Bool):=[(108,false),(109,false),(111,false),(110,true),(112,true),(113,true),(114,true),(115,false),(116,false)]
theorem VQ:an .any g8 rK UM=true:=by kernel_rfl
theorem QQ:Zm sK VM=rK:=by kernel_rfl
def YP:Array Bool:=#[true,true,true,true,true,true,true,true,true,true,true,true,true,true,true,true,true,true,true,true,true,true,true,true,true,true,true,true,true,true,true,true,true,true,true,true,true,true,true,true,true,true,true,true,true,true,true,true,true,true,true,true,true,true,true,true,true,true,true,true,true,true,true,true,true,true,true,true,true,true,true,true,true,true,true,true,true,true,true,true,true,true,true,true,true,true,true,true,true,true,true,true,true,true,true,true,true,true,true,true,true,true,true,true,true,true,true,true,true,true,true,true,true,true,true,true,true]
theorem PQ:Zm rK UM=YP:=by kernel_rfl
theorem YQ:wk .any g8 YP []=true:=by kernel_rfl
def MP:List (Nat × Bool):=UM++[]
theorem MQ:wk .any g8 rK MP=true:=uj UM rK _ VQ (by rw[PQ];exact YQ)
def NP:List (Nat × Bool):=VM++MP
theorem NQ:wk .any g8 sK NP=true:=uj VM sK _ WQ (by rw[QQ];exact MQ)
def OP:List (Nat × Bool):=WM++NP
theorem OQ:wk .any g8 tK OP=true:=uj WM tK _ XQ (by rw[RQ];exact NQ)
def mR:List (Nat × Bool):=sQ++OP
theorem yR:wk .any g8 PP mR=true:=uj sQ PP _ VR (by rw[TQ];exact OQ)
def nR:List (Nat × Bool):=tQ++mR
theorem zR:wk .any g8 QP nR=true:=uj tQ QP _ WR (by rw[JR];exact yR)
def oR:List (Nat × Bool):=uQ++nR
theorem AR:wk .any g8 SP oR=true:=uj uQ SP _ XR (by rw[LR];exact zR)
def pR:List (Nat × Bool):=vQ++oR
theorem BR:wk .any g8 TP pR=true:=uj vQ TP _ YR (by rw[MR];exact AR)
def qR:List (Nat × Bool):=wQ++pR
theorem CR:wk .any g8 UP qR=true:=uj wQ UP _ ZR (by rw[OR];exact BR)
def rR:List (Nat × Bool):=xQ++qR
theorem DR:wk .any g8 VP rR=true:=uj xQ VP _ aS (by rw[PR];exact CR)
def sR:List (Nat × Bool):=yQ++rR
theorem ER:wk .any g8 WP sR=true:=uj yQ WP _ cS (by rw[QR];exact DR)
def tR:List (Nat × Bool):=AQ++sR
theorem FR:wk .any g8 XP tR=true:=uj AQ XP _ dS (by rw[RR];exact ER)
def uR:List (Nat × Bool):=BQ++tR
theorem GR:wk .any g8 ZP uR=true:=uj BQ ZP _ eS (by rw[SR];exact FR)
def KQ:List (Nat × Bool):=CQ++uR
theorem IR:wk .any g8 aQ KQ=true:=uj CQ aQ _ fS (by rw[UR];exact GR)
theorem cQ:Rea g8=true:=by kernel_rfl
theorem ZM:Sea g8.size false=aQ:=by kernel_rfl
theorem bQ:(Rea g8&&wk .any g8 (Sea g8.size false) KQ)=true:=by rw[cQ,ZM,IR];rfl
end Go.Proofs.YtjcihcncljihoaaGreatDoor
namespace Go.Proofs.YtjcihcncljihoaaGreatDoor
open Go Go.RowKit
set_option linter.unusedVariables false
open Go.Act renaming put→Uba
open Go.Lib renaming hid→kaa
open Go.RowKit.Below renaming refl→Gaa
open List renaming getElem_cons_succ→Rda,getElem_cons_zero→dca,getElem_toArray→eea,setIfInBounds_toArray→Vba,set_cons_succ→Yba,set_cons_zero→Xba
open Or renaming inl→Tba
open Go.Proofs.Tryz renaming prog→maa
theorem mx(w:World)(hE:Xj w):Calls maa 13 #[] w fun e w'=>e = .returned (.bool true)∧Below w.heap.size w w':=by
 have HE:=kaa hE;clear hE;go_enter Tryz.func13,Tryz.ntmps13;go_upto_region 2 with(go_at_call 10;refine(cH _ rfl _ HE.out).mono ?_;rintro e p1 ⟨q,b0,o0,c0,A1,c1,A2,c2,M,O,c3,A4,c4,A5,c5,b1,o1,k1,A6,k6,A7,k7,rfl,hq,hM,hF,aV⟩);have HQ:=kaa hq;have aT:Hid (Below w.heap.size w (p1.alloc (.cells #[.slice (some ⟨b0,o0,none⟩) 1 c0,.slice A1 (q.n 1) c1,.slice A2 (q.n 2) c2,.slice (some ⟨M,O,none⟩) 1 c3,.slice A4 (q.n 4) c4,.slice A5 1 c5] 27))):=bt aV (al p1 _);have af:Hid (∀ u,Below (p1.alloc (.cells #[.slice (some ⟨b0,o0,none⟩) 1 c0,.slice A1 (q.n 1) c1,.slice A2 (q.n 2) c2,.slice (some ⟨M,O,none⟩) 1 c3,.slice A4 (q.n 4) c4,.slice A5 1 c5] 27)).heap.size (p1.alloc (.cells #[.slice (some ⟨b0,o0,none⟩) 1 c0,.slice A1 (q.n 1) c1,.slice A2 (q.n 2) c2,.slice (some ⟨M,O,none⟩) 1 c3,.slice A4 (q.n 4) c4,.slice A5 1 c5] 27)) u→_):=Tl p1 (.slice (some ⟨b0,o0,none⟩) 1 c0) (.slice A1 (q.n 1) c1) (.slice A2 (q.n 2) c2) (.slice (some ⟨M,O,none⟩) 1 c3) (.slice A4 (q.n 4) c4) (.slice A5 1 c5) 27 rfl;have av:Hid (∀ u,Below (p1.alloc (.cells #[.slice (some ⟨b0,o0,none⟩) 1 c0,.slice A1 (q.n 1) c1,.slice A2 (q.n 2) c2,.slice (some ⟨M,O,none⟩) 1 c3,.slice A4 (q.n 4) c4,.slice A5 1 c5] 27)).heap.size (p1.alloc (.cells #[.slice (some ⟨b0,o0,none⟩) 1 c0,.slice A1 (q.n 1) c1,.slice A2 (q.n 2) c2,.slice (some ⟨M,O,none⟩) 1 c3,.slice A4 (q.n 4) c4,.slice A5 1 c5] 27)) u→_):=fun u hu=>hF u (bt (al p1 _) hu);have ad:Hid (∀ u,Below (p1.alloc (.cells #[.slice (some ⟨b0,o0,none⟩) 1 c0,.slice A1 (q.n 1) c1,.slice A2 (q.n 2) c2,.slice (some ⟨M,O,none⟩) 1 c3,.slice A4 (q.n 4) c4,.slice A5 1 c5] 27)).heap.size (p1.alloc (.cells #[.slice (some ⟨b0,o0,none⟩) 1 c0,.slice A1 (q.n 1) c1,.slice A2 (q.n 2) c2,.slice (some ⟨M,O,none⟩) 1 c3,.slice A4 (q.n 4) c4,.slice A5 1 c5] 27)) u→Lp u (o6 (.slice (some ⟨b0,o0,none⟩) 1 c0) (.slice A1 (q.n 1) c1) (.slice A2 (q.n 2) c2) (.slice (some ⟨M,O,none⟩) 1 c3) (.slice A4 (q.n 4) c4) (.slice A5 1 c5)) q):=fun u hu=>hM.below (bt (al p1 _) hu);have Z:Hid (∀ u,Below (p1.alloc (.cells #[.slice (some ⟨b0,o0,none⟩) 1 c0,.slice A1 (q.n 1) c1,.slice A2 (q.n 2) c2,.slice (some ⟨M,O,none⟩) 1 c3,.slice A4 (q.n 4) c4,.slice A5 1 c5] 27)).heap.size (p1.alloc (.cells #[.slice (some ⟨b0,o0,none⟩) 1 c0,.slice A1 (q.n 1) c1,.slice A2 (q.n 2) c2,.slice (some ⟨M,O,none⟩) 1 c3,.slice A4 (q.n 4) c4,.slice A5 1 c5] 27)) u→Xj u):=fun u hu=>HE.out.below (bt aT.out hu);have ao:=kaa (YD hq).1;clear hq hM hF aV;obtain⟨X,HX⟩:∃ X,Hid ((p1.alloc (.cells #[.slice (some ⟨b0,o0,none⟩) 1 c0,.slice A1 (q.n 1) c1,.slice A2 (q.n 2) c2,.slice (some ⟨M,O,none⟩) 1 c3,.slice A4 (q.n 4) c4,.slice A5 1 c5] 27))=X):=⟨_,rfl⟩;rw[HX.out]at aT af av ad Z ⊢;generalize p1.heap.size=g1 at af ⊢;clear HX;go_upto_region 3 with(go_at_call 10;refine(Ko rQ Uf _ rfl _ (Z.out _ (Gaa _ _)) _ _ _ KP).mono ?_;rintro e p2 ⟨q2,dX,a4,bY,a5,bZ,a6,b4,a7,b5,a8,b6,a9,b7,rfl,dg,aW⟩;have h2:Below X.heap.size X (p2.alloc (.cells #[.slice a4 (q2.n 0) bY,.slice a5 (q2.n 1) bZ,.slice a6 (q2.n 2) b4,.slice a7 (q2.n 3) b5,.slice a8 (q2.n 4) b6,.slice a9 (q2.n 5) b7] 27)):=bt (bt (Gaa _ _) aW) (al p2 _));go_upto_region 4 with(go_at_call 10;refine(Ko qQ Uf _ rfl _ (Z.out _ h2) _ _ _ IP).mono ?_;rintro e p3 ⟨q3,dY,bb,b8,bf,b9,bg,cb,bh,cc,bk,ch,bs,ct,rfl,dA,aX⟩;have h3:Below X.heap.size X (p3.alloc (.cells #[.slice bb (q3.n 0) b8,.slice bf (q3.n 1) b9,.slice bg (q3.n 2) cb,.slice bh (q3.n 3) cc,.slice bk (q3.n 4) ch,.slice bs (q3.n 5) ct] 27)):=bt (bt h2 aX) (al p3 _));go_upto_region 5 with(go_at_call 10;refine(Ko pQ Uf _ rfl _ (Z.out _ h3) _ _ _ FP).mono ?_;rintro e p4 ⟨q4,dZ,bE,cv,bF,cx,bI,cT,bL,cU,bN,cV,bR,cW,rfl,dB,aY⟩;have h4:Below X.heap.size X (p4.alloc (.cells #[.slice bE (q4.n 0) cv,.slice bF (q4.n 1) cx,.slice bI (q4.n 2) cT,.slice bL (q4.n 3) cU,.slice bN (q4.n 4) cV,.slice bR (q4.n 5) cW] 27)):=bt (bt h3 aY) (al p4 _));go_upto_region 6 with(go_at_call 10;refine(Ko oQ Uf _ rfl _ (Z.out _ h4) _ _ _ DP).mono ?_;rintro e p5 ⟨q5,d0,bS,cX,bT,cY,bU,cZ,bV,c9,bW,da,bX,db,rfl,dD,aZ⟩;have h5:Below X.heap.size X (p5.alloc (.cells #[.slice bS (q5.n 0) cX,.slice bT (q5.n 1) cY,.slice bU (q5.n 2) cZ,.slice bV (q5.n 3) c9,.slice bW (q5.n 4) da,.slice bX (q5.n 5) db] 27)):=bt (bt h4 aZ) (al p5 _));have G:=kaa h5;clear h2 h3 h4 h5 dX dg aW dY dA aX dZ dB aY d0 dD aZ;obtain⟨y0,y1,y2,y3,y4,y5⟩:=af.out _ G.out;obtain⟨x0,x1,x2,x3,x4,x5⟩:=av.out _ G.out;generalize World.alloc p5 _=Y at G y0 y1 y2 y3 y4 y5 x0 x1 x2 x3 x4 x5 ⊢;have J:Hid (∀ u,Below X.heap.size X u→u.cell? ⟨g1,0,none⟩=some (.slice (some ⟨b0,o0,none⟩) 1 c0)∧u.cell? ⟨g1,1,none⟩=some (.slice A1 (q.n 1) c1)∧u.cell? ⟨g1,2,none⟩=some (.slice A2 (q.n 2) c2)∧u.cell? ⟨g1,3,none⟩=some (.slice (some ⟨M,O,none⟩) 1 c3)∧u.cell? ⟨g1,4,none⟩=some (.slice A4 (q.n 4) c4)∧u.cell? ⟨g1,5,none⟩=some (.slice A5 1 c5)∧u.cell? ⟨b0,o0,none⟩=some (.slice (some ⟨b1,o1,none⟩) 2 k1)∧u.cell? ⟨b1,o1+1,none⟩=some (.int .i64 1)∧u.cell? ⟨b1,o1+3,none⟩=some (.string ⟨#[98]⟩)∧u.cell? ⟨M,O,none⟩=some (.string ⟨#[116]⟩)∧u.cell? ⟨M,O+1,none⟩=some (.slice A6 1 k6)∧u.cell? ⟨M,O+2,none⟩=some (.slice A7 1 k7)):=fun u hu=>by obtain⟨y0,y1,y2,y3,y4,y5⟩:=af.out u hu;exact⟨y0,y1,y2,y3,y4,y5,av.out u hu⟩
 go_upto_region 8 with fail;simp only[List.append_eq,List.cons_append,List.nil_append];have E:=kaa (dm G.out);clear G y0 y1 y2 y3 y4 y5 x0 x1 x2 x3 x4 x5;have G:=E;clear E av af;refine W2.start KQ (fun u=>u.cell? ⟨g1,0,none⟩=some (.slice (some ⟨b0,o0,none⟩) 1 c0)∧u.cell? ⟨g1,1,none⟩=some (.slice A1 (q.n 1) c1)∧u.cell? ⟨g1,2,none⟩=some (.slice A2 (q.n 2) c2)∧u.cell? ⟨g1,3,none⟩=some (.slice (some ⟨M,O,none⟩) 1 c3)∧u.cell? ⟨g1,4,none⟩=some (.slice A4 (q.n 4) c4)∧u.cell? ⟨g1,5,none⟩=some (.slice A5 1 c5)∧u.cell? ⟨b0,o0,none⟩=some (.slice (some ⟨b1,o1,none⟩) 2 k1)∧u.cell? ⟨b1,o1+1,none⟩=some (.int .i64 1)∧u.cell? ⟨b1,o1+3,none⟩=some (.string ⟨#[98]⟩)∧u.cell? ⟨M,O,none⟩=some (.string ⟨#[116]⟩)∧u.cell? ⟨M,O+1,none⟩=some (.slice A6 1 k6)∧u.cell? ⟨M,O+2,none⟩=some (.slice A7 1 k7)) Vf bQ (J.out _ G.out) (fun A=>?_);iterate 50 (refine W2.take (v:=?_) rfl (fun _ _ _ h=>h) (Tba ⟨by rfl,?_⟩) Xf ?_;rotate_left;(intro w0 I;(try dsimp only at I);go_simp;(try with_reducible rfl));(try simp only[Uba,eea,Rda,dca,Vba,Xba,Yba]))
 clear A;refine W2.call rfl (fun K H=>?_);go_simp;go_at_call 18;refine(aN (ad.out _ G.out) HQ.out (Z.out _ G.out)).mono ?_;rintro e w3 ⟨rfl,L⟩;dsimp only;have E:=kaa (bt G.out L);clear G;have G:=E;clear E;refine H.out _ _ (J.out _ G.out) (fun A=>?_);clear H K;iterate 36 (refine W2.take (v:=?_) rfl (fun _ _ _ h=>h) (Tba ⟨by rfl,?_⟩) Xf ?_;rotate_left;(intro w0 I;(try dsimp only at I);go_simp;(try with_reducible rfl));(try simp only[Uba,eea,Rda,dca,Vba,Xba,Yba]))
 clear A;refine W2.call rfl (fun K H=>?_);go_simp;go_at_call 16;refine(vK (ad.out _ G.out) HQ.out (Z.out _ G.out)).mono ?_;rintro e w4 ⟨rfl,L⟩;dsimp only;have E:=kaa (bt G.out L);clear G;have G:=E;clear E;refine H.out _ _ (J.out _ G.out) (fun A=>?_);clear H K;iterate 3 (refine W2.take (v:=?_) rfl (fun _ _ _ h=>h) (Tba ⟨by rfl,?_⟩) Xf ?_;rotate_left;(intro w0 I;(try dsimp only at I);go_simp;(try with_reducible rfl));(try simp only[Uba,eea,Rda,dca,Vba,Xba,Yba]))
 clear A;refine W2.call rfl (fun K H=>?_);go_simp;refine H.out _ _ (J.out _ (bt G.out (al _ _))) (fun A=>?_);clear H K;iterate 1 (refine W2.take (v:=?_) rfl (fun _ _ _ h=>h) (Tba ⟨by rfl,?_⟩) Xf ?_;rotate_left;(intro w0 I;(try dsimp only at I);go_simp;(try with_reducible rfl));(try simp only[Uba,eea,Rda,dca,Vba,Xba,Yba]))
 clear A;refine W2.call rfl (fun K H=>?_);go_simp;go_at_call 16;refine(FH _ (Z.out _ G.out)).mono ?_;rintro e w5 ⟨rfl,L⟩;dsimp only;have E:=kaa (bt G.out L);clear G;have G:=E;clear E;refine H.out _ _ (J.out _ G.out) (fun A=>?_);clear H K;iterate 5 (refine W2.take (v:=?_) rfl (fun _ _ _ h=>h) (Tba ⟨by rfl,?_⟩) Xf ?_;rotate_left;(intro w0 I;(try dsimp only at I);go_simp;(try with_reducible rfl));(try simp only[Uba,eea,Rda,dca,Vba,Xba,Yba]))
 clear A;refine W2.call rfl (fun K H=>?_);go_simp;go_at_call 15;refine(nv (ad.out _ G.out) ao.out).mono ?_;rintro e w6 ⟨q0,x0,x1,x2,x3,x4,x5,rfl,a0,dd,L⟩;dsimp only;have E:=kaa (bt G.out L);clear G;have G:=E;clear E;refine H.out _ _ (J.out _ G.out) (fun A=>?_);clear H K;clear A;refine W2.call rfl (fun K H=>?_);go_simp;go_at_call 20;refine(mv (ad.out _ G.out) dd ao.out (Oz (n:=0) (.inl (a0.trans (congrArg Ni HQ.out)))) (z:=true) (by rw[a0,HQ.out];exact YM)).mono ?_;rintro e w7 ⟨rfl,L⟩;dsimp only;have E:=kaa (bt G.out L);clear G;have G:=E;clear E;refine H.out _ _ (J.out _ G.out) (fun A=>?_);clear H K;iterate 4 (refine W2.take (v:=?_) rfl (fun _ _ _ h=>h) (Tba ⟨by rfl,?_⟩) Xf ?_;rotate_left;(intro w0 I;(try dsimp only at I);go_simp;(try with_reducible rfl));(try simp only[Uba,eea,Rda,dca,Vba,Xba,Yba]))
 clear A;refine W2.call rfl (fun K H=>?_);go_simp;go_at_call 20;refine(mv (ad.out _ G.out) (gA _) ao.out iA (z:=false) (by rw[HQ.out];exact MO)).mono ?_;rintro e w8 ⟨rfl,L⟩;dsimp only;have E:=kaa (bt G.out L);clear G;have G:=E;clear E;refine H.out _ _ (J.out _ G.out) (fun A=>?_);clear H K;iterate 5 (refine W2.take (v:=?_) rfl (fun _ _ _ h=>h) (Tba ⟨by rfl,?_⟩) Xf ?_;rotate_left;(intro w0 I;(try dsimp only at I);go_simp;(try with_reducible rfl));(try simp only[Uba,eea,Rda,dca,Vba,Xba,Yba]))
 clear A;refine W2.call rfl (fun K H=>?_);go_simp;go_at_call 15;refine(nv (ad.out _ G.out) ao.out).mono ?_;rintro e wA ⟨qA,x6,x7,x8,x9,d1,d3,rfl,a1,dP,L⟩;dsimp only;have E:=kaa (bt G.out L);clear G;have G:=E;clear E;refine H.out _ _ (J.out _ G.out) (fun A=>?_);clear H K;clear A;refine W2.call rfl (fun K H=>?_);go_simp;go_at_call 15;refine(nv (ad.out _ G.out) ao.out).mono ?_;rintro e wB ⟨qB,y6,y7,y8,y9,d4,d5,rfl,aU,dT,L⟩;dsimp only;have E:=kaa (bt G.out L);have dV:=L;clear G;have G:=E;clear E;refine H.out _ _ (J.out _ G.out) (fun A=>?_);clear H K;clear A;refine W2.call rfl (fun K H=>?_);go_simp;go_at_call 15;refine(nv dT (Oz (n:=0) (.inl (aU.trans (congrArg Ni HQ.out))))).mono ?_;rintro e wC ⟨qC,z6,z7,z8,z9,d6,d7,rfl,a3,dU,L⟩;dsimp only;have E:=kaa (bt G.out L);have dW:=L;clear G;have G:=E;clear E;refine H.out _ _ (J.out _ G.out) (fun A=>?_);clear H K;clear A;refine W2.call rfl (fun K H=>?_);go_simp;go_at_call 12;refine(uK (dP.below (bt dV dW)) dU (Oz (n:=0) (.inl (a1.trans (congrArg Ni HQ.out)))) (Oz (n:=0) (.inr (by rw[a3,aU,HQ.out]))) (z:=true) (by rw[a1,a3,aU,HQ.out];exact LO)).mono ?_;rintro e wD ⟨rfl,L⟩;dsimp only;have E:=kaa (bt G.out L);clear G;have G:=E;clear E;refine H.out _ _ (J.out _ G.out) (fun A=>?_);clear H K;iterate 2 (refine W2.take (v:=?_) rfl (fun _ _ _ h=>h) (Tba ⟨by rfl,?_⟩) Xf ?_;rotate_left;(intro w0 I;(try dsimp only at I);go_simp;(try with_reducible rfl));(try simp only[Uba,eea,Rda,dca,Vba,Xba,Yba]))
 refine W2.done ?_;go_wp2_with fail;go_ret;exact⟨rfl,bt aT.out G.out⟩
def iR(w:World):Ending→World→Prop:=fun e w'=>e = .returned (.bool true)∧Below w.heap.size w w'
theorem OH(s:ByteArray)(n:Nat):(s.extract 0 (min (s.size:Int) n).toNat).size≤n:=by rw[ByteArray.size_extract];omega
theorem NH(t:ByteArray):t.data.toList.length=t.size:=by rw[Array.length_toList];rfl
theorem eQ{p:lk}(hr:Mi p=true)(H:(Ml p).length≤4000):∃ q,Aj (Ml p)=(q,0,0)∧Ni q=Ni p:=by obtain⟨T,f,h,G⟩:=FI hr;obtain⟨q,A,E⟩:=rM h H;exact⟨q,A,E.trans G⟩
theorem fR{s:List UInt8}(h:4000<s.length):Aj s=(fj,2,4000):=Zt (Bo (Nat.not_le.2 h)) Uf
section
variable {w : World} {a b c d e f : Value} {q : qj} {l : List UInt8}
theorem jz(I:(Aj l).1=q.p)(h:Lp w (o6 a b c d e f) q)(H:Xj w){z:ByteArray}(J:vh (Sn q.p)=z):Calls maa 18 #[.agg #[a,b,c,d,e,f]] w fun e w'=>e = .returned (.string z)∧Below w.heap.size w w':=by obtain⟨A,E,G⟩:=Iq I;subst J;exact ZE (o6 a b c d e f) q A E G w h H
theorem jA(E:(Aj l).1=q.p)(h:Lp w (o6 a b c d e f) q)(A:Xj w){z:Bool}(G:Mi q.p=z):Calls maa 16 #[.agg #[a,b,c,d,e,f]] w fun e w'=>e = .returned (.bool z)∧Below w.heap.size w w':=by subst G;exact Ks (o6 a b c d e f) q (Iq E).1 w h A
end
theorem tD(s:ByteArray)(hz:s.size≤9223372036854775807)(w:World)(hE:Xj w):Calls maa 5 #[.string s] w (iR w):=by
 have HE:=kaa hE;clear hE;go_enter Tryz.func5,Tryz.ntmps5;go_upto_region 2 with fail;have ht:=OH s 2000;simp only[Int.cast_ofNat_Int]at ht;generalize s.extract 0 (min (s.size:Int) 2000).toNat=t at ht ⊢;have bb:=NH t;have a5:=kaa (fun(u:World) (hu:Xj u)=>Yt t u hu);rcases Lq (s:=t.data.toList)with⟨g1,g2,g3⟩|⟨g1,g2,g3,g4⟩
 ·obtain⟨P,hP⟩:∃ P,(Aj t.data.toList).1=P:=⟨_,rfl⟩;have aX:Hid (∀ u,Xj u→Calls maa 10 #[.string t] u fun r w'=>∃ q,q.p=P∧am q 0 0 u r w'):=fun u hu=>by have:=a5.out u hu;rw[g1,g3,hP]at this;exact this
  have aW:=kaa hP;rw[hP]at g2;have bh:=kaa g2;have aZ:Sn P=Ml P:=by unfold Sn;rw[if_pos g2]
  obtain⟨ST,aY⟩:∃ z,Hid (vh (Sn P)=z):=⟨_,rfl⟩;have bE:ST.size=(Ml P).length:=by rw[← aY.out,Dh,aZ]
  unfold am at aX;clear a5 hP g1 g3 bb;by_cases hl:(Ml P).length≤4000
  ·obtain⟨Q,hQ,a9⟩:=eQ g2 hl;have hd:¬ (4000:Int)<(ST.size:Int):=by omega
   have bs:(Aj (Ml P)).1=Q:=by rw[hQ]
   have a6:=kaa bs;have bg:Mi Q=true:=by
    rcases Lq (s:=Ml P)with h|h;·rw[hQ]at h;exact h.2.1
    ·rw[hQ]at h;exact absurd rfl h.1
   have bk:Hid (vh (Sn Q)=ST):=by show _=_;rw[← aY.out,aZ,show Sn Q=Ml Q by unfold Sn;rw[if_pos bg],WC bg g2 a9]
   have bF:Hid (cm false P Q=true):=gw a9.symm;have av:Hid (∀ u,Xj u→Calls maa 10 #[.string ST] u fun r w'=>∃ q,q.p=Q∧am q 0 0 u r w'):=fun u hu=>by have:=Yt ST u hu;rw[show ST.data.toList=Ml P by rw[← aY.out,Yi,aZ],hQ]at this;exact this
   unfold am at av;clear aZ bE hl hQ a9 bs bg g2;go_upto_region 3 with(go_at_call 10;(with_reducible refine(aX.out _ HE.out).mono ?_);rintro r p1 ⟨q,hq,J,c0,L,c1,M,c2,O,c3,Y,c4,Z,c5,rfl,hM,aU⟩;have HQ:=kaa hq;have aT:Hid (Below w.heap.size w (p1.alloc (.cells #[.slice J (q.n 0) c0,.slice L (q.n 1) c1,.slice M (q.n 2) c2,.slice O (q.n 3) c3,.slice Y (q.n 4) c4,.slice Z (q.n 5) c5] 27))):=bt aU (al p1 _);have H:=kaa (Tl p1 (.slice J (q.n 0) c0) (.slice L (q.n 1) c1) (.slice M (q.n 2) c2) (.slice O (q.n 3) c3) (.slice Y (q.n 4) c4) (.slice Z (q.n 5) c5) 27 rfl);have ao:=kaa (fun(u:World) (hu:Below (p1.alloc (.cells #[.slice J (q.n 0) c0,.slice L (q.n 1) c1,.slice M (q.n 2) c2,.slice O (q.n 3) c3,.slice Y (q.n 4) c4,.slice Z (q.n 5) c5] 27)).heap.size (p1.alloc (.cells #[.slice J (q.n 0) c0,.slice L (q.n 1) c1,.slice M (q.n 2) c2,.slice O (q.n 3) c3,.slice Y (q.n 4) c4,.slice Z (q.n 5) c5] 27)) u)=>hM.below (bt (al p1 _) hu));have ad:=kaa (fun(u:World) (hu:Below (p1.alloc (.cells #[.slice J (q.n 0) c0,.slice L (q.n 1) c1,.slice M (q.n 2) c2,.slice O (q.n 3) c3,.slice Y (q.n 4) c4,.slice Z (q.n 5) c5] 27)).heap.size (p1.alloc (.cells #[.slice J (q.n 0) c0,.slice L (q.n 1) c1,.slice M (q.n 2) c2,.slice O (q.n 3) c3,.slice Y (q.n 4) c4,.slice Z (q.n 5) c5] 27)) u)=>HE.out.below (bt aT.out hu));have G:=kaa (Gaa (p1.alloc (.cells #[.slice J (q.n 0) c0,.slice L (q.n 1) c1,.slice M (q.n 2) c2,.slice O (q.n 3) c3,.slice Y (q.n 4) c4,.slice Z (q.n 5) c5] 27)).heap.size (p1.alloc (.cells #[.slice J (q.n 0) c0,.slice L (q.n 1) c1,.slice M (q.n 2) c2,.slice O (q.n 3) c3,.slice Y (q.n 4) c4,.slice Z (q.n 5) c5] 27)));clear hq hM aU;obtain⟨y0,y1,y2,y3,y4,y5⟩:=H.out _ G.out);go_upto_region 6 with(go_at_call 18;(with_reducible refine(jz (aW.out.trans HQ.out.symm) (ao.out _ G.out) (ad.out _ G.out) (z:=ST) (by rw[HQ.out];exact aY.out)).mono ?_);rintro e w3 ⟨rfl,I⟩;have E:=kaa (bt G.out I);clear G;have G:=E;clear E;obtain⟨y0,y1,y2,y3,y4,y5⟩:=H.out _ G.out);go_upto_region 7 with(go_at_call 10;(with_reducible refine(av.out _ (ad.out _ G.out)).mono ?_);rintro r p2 ⟨A,a4,B0,d0,B1,d1,B2,d2,B3,d3,B4,d4,B5,d5,rfl,a1,a3⟩;have a0:=kaa a4;have aV:=kaa (Tl p2 (.slice B0 (A.n 0) d0) (.slice B1 (A.n 1) d1) (.slice B2 (A.n 2) d2) (.slice B3 (A.n 3) d3) (.slice B4 (A.n 4) d4) (.slice B5 (A.n 5) d5) 27 rfl);have a7:=kaa (fun(u:World) (hu:Below (p2.alloc (.cells #[.slice B0 (A.n 0) d0,.slice B1 (A.n 1) d1,.slice B2 (A.n 2) d2,.slice B3 (A.n 3) d3,.slice B4 (A.n 4) d4,.slice B5 (A.n 5) d5] 27)).heap.size (p2.alloc (.cells #[.slice B0 (A.n 0) d0,.slice B1 (A.n 1) d1,.slice B2 (A.n 2) d2,.slice B3 (A.n 3) d3,.slice B4 (A.n 4) d4,.slice B5 (A.n 5) d5] 27)) u)=>a1.below (bt (al p2 _) hu));have I:=bt a3 (al p2 (.cells #[.slice B0 (A.n 0) d0,.slice B1 (A.n 1) d1,.slice B2 (A.n 2) d2,.slice B3 (A.n 3) d3,.slice B4 (A.n 4) d4,.slice B5 (A.n 5) d5] 27));have E:=kaa (bt G.out I);clear G;have G:=E;clear E a4 a1 a3;have HC:=kaa (Gaa (p2.alloc (.cells #[.slice B0 (A.n 0) d0,.slice B1 (A.n 1) d1,.slice B2 (A.n 2) d2,.slice B3 (A.n 3) d3,.slice B4 (A.n 4) d4,.slice B5 (A.n 5) d5] 27)).heap.size (p2.alloc (.cells #[.slice B0 (A.n 0) d0,.slice B1 (A.n 1) d1,.slice B2 (A.n 2) d2,.slice B3 (A.n 3) d3,.slice B4 (A.n 4) d4,.slice B5 (A.n 5) d5] 27)));obtain⟨y0,y1,y2,y3,y4,y5⟩:=H.out _ G.out;obtain⟨z0,z1,z2,z3,z4,z5⟩:=aV.out _ HC.out);go_wp2_with (first
   |(go_at_call 18;have _:=HC;(with_reducible refine(jz (a6.out.trans a0.out.symm) (a7.out _ HC.out) (ad.out _ G.out) (z:=ST) (by rw[a0.out];exact bk.out)).mono ?_);rintro e w6 ⟨rfl,I⟩;have E:=kaa (bt G.out I);have af:=kaa (bt HC.out I);clear G HC;have G:=E;have HC:=af;clear E af;obtain⟨y0,y1,y2,y3,y4,y5⟩:=H.out _ G.out;obtain⟨z0,z1,z2,z3,z4,z5⟩:=aV.out _ HC.out)
   |(go_at_call 16;(with_reducible refine(jA (aW.out.trans HQ.out.symm) (ao.out _ G.out) (ad.out _ G.out) (z:=true) (by rw[HQ.out];exact bh.out)).mono ?_);rintro e w4 ⟨rfl,I⟩;have E:=kaa (bt G.out I);have af:=kaa (bt HC.out I);clear G HC;have G:=E;have HC:=af;clear E af;obtain⟨y0,y1,y2,y3,y4,y5⟩:=H.out _ G.out;obtain⟨z0,z1,z2,z3,z4,z5⟩:=aV.out _ HC.out)
   |(go_at_call 20;(with_reducible refine(mv (ao.out _ G.out) (a7.out _ HC.out) (Iq (aW.out.trans HQ.out.symm)).1 (Iq (a6.out.trans a0.out.symm)).1 (z:=true) (by rw[HQ.out,a0.out];exact bF.out)).mono ?_);rintro e w5 ⟨rfl,I⟩;have E:=kaa (bt G.out I);have af:=kaa (bt HC.out I);clear G HC;have G:=E;have HC:=af;clear E af;obtain⟨y0,y1,y2,y3,y4,y5⟩:=H.out _ G.out;obtain⟨z0,z1,z2,z3,z4,z5⟩:=aV.out _ HC.out)
   |(go_at_call 13;(with_reducible refine(mx _ (ad.out _ G.out)).mono ?_);rintro e w7 ⟨rfl,I⟩;have E:=kaa (bt G.out I);clear G;have G:=E;clear E)
   |fail)
   go_ret;exact⟨rfl,bt aT.out G.out⟩
  ·have hd:(4000:Int)<(ST.size:Int):=by omega
   have av:Hid (∀ u,Xj u→Calls maa 10 #[.string ST] u fun r w'=>∃ q,q.p=fj∧am q 2 4000 u r w'):=fun u hu=>by have:=Yt ST u hu;rw[show ST.data.toList=Ml P by rw[← aY.out,Yi,aZ],fR Tf]at this;exact this
   unfold am at av;clear aZ bE hl g2;go_upto_region 3 with(go_at_call 10;(with_reducible refine(aX.out _ HE.out).mono ?_);rintro r p1 ⟨q,hq,J,c0,L,c1,M,c2,O,c3,Y,c4,Z,c5,rfl,hM,aU⟩;have HQ:=kaa hq;have aT:Hid (Below w.heap.size w (p1.alloc (.cells #[.slice J (q.n 0) c0,.slice L (q.n 1) c1,.slice M (q.n 2) c2,.slice O (q.n 3) c3,.slice Y (q.n 4) c4,.slice Z (q.n 5) c5] 27))):=bt aU (al p1 _);have H:=kaa (Tl p1 (.slice J (q.n 0) c0) (.slice L (q.n 1) c1) (.slice M (q.n 2) c2) (.slice O (q.n 3) c3) (.slice Y (q.n 4) c4) (.slice Z (q.n 5) c5) 27 rfl);have ao:=kaa (fun(u:World) (hu:Below (p1.alloc (.cells #[.slice J (q.n 0) c0,.slice L (q.n 1) c1,.slice M (q.n 2) c2,.slice O (q.n 3) c3,.slice Y (q.n 4) c4,.slice Z (q.n 5) c5] 27)).heap.size (p1.alloc (.cells #[.slice J (q.n 0) c0,.slice L (q.n 1) c1,.slice M (q.n 2) c2,.slice O (q.n 3) c3,.slice Y (q.n 4) c4,.slice Z (q.n 5) c5] 27)) u)=>hM.below (bt (al p1 _) hu));have ad:=kaa (fun(u:World) (hu:Below (p1.alloc (.cells #[.slice J (q.n 0) c0,.slice L (q.n 1) c1,.slice M (q.n 2) c2,.slice O (q.n 3) c3,.slice Y (q.n 4) c4,.slice Z (q.n 5) c5] 27)).heap.size (p1.alloc (.cells #[.slice J (q.n 0) c0,.slice L (q.n 1) c1,.slice M (q.n 2) c2,.slice O (q.n 3) c3,.slice Y (q.n 4) c4,.slice Z (q.n 5) c5] 27)) u)=>HE.out.below (bt aT.out hu));have G:=kaa (Gaa (p1.alloc (.cells #[.slice J (q.n 0) c0,.slice L (q.n 1) c1,.slice M (q.n 2) c2,.slice O (q.n 3) c3,.slice Y (q.n 4) c4,.slice Z (q.n 5) c5] 27)).heap.size (p1.alloc (.cells #[.slice J (q.n 0) c0,.slice L (q.n 1) c1,.slice M (q.n 2) c2,.slice O (q.n 3) c3,.slice Y (q.n 4) c4,.slice Z (q.n 5) c5] 27)));clear hq hM aU;obtain⟨y0,y1,y2,y3,y4,y5⟩:=H.out _ G.out);go_upto_region 6 with(go_at_call 18;(with_reducible refine(jz (aW.out.trans HQ.out.symm) (ao.out _ G.out) (ad.out _ G.out) (z:=ST) (by rw[HQ.out];exact aY.out)).mono ?_);rintro e w3 ⟨rfl,I⟩;have E:=kaa (bt G.out I);clear G;have G:=E;clear E;obtain⟨y0,y1,y2,y3,y4,y5⟩:=H.out _ G.out);go_upto_region 7 with(go_at_call 10;(with_reducible refine(av.out _ (ad.out _ G.out)).mono ?_);rintro r p2 ⟨A,a4,B0,d0,B1,d1,B2,d2,B3,d3,B4,d4,B5,d5,rfl,a1,a3⟩;have a0:=kaa a4;have aV:=kaa (Tl p2 (.slice B0 (A.n 0) d0) (.slice B1 (A.n 1) d1) (.slice B2 (A.n 2) d2) (.slice B3 (A.n 3) d3) (.slice B4 (A.n 4) d4) (.slice B5 (A.n 5) d5) 27 rfl);have a7:=kaa (fun(u:World) (hu:Below (p2.alloc (.cells #[.slice B0 (A.n 0) d0,.slice B1 (A.n 1) d1,.slice B2 (A.n 2) d2,.slice B3 (A.n 3) d3,.slice B4 (A.n 4) d4,.slice B5 (A.n 5) d5] 27)).heap.size (p2.alloc (.cells #[.slice B0 (A.n 0) d0,.slice B1 (A.n 1) d1,.slice B2 (A.n 2) d2,.slice B3 (A.n 3) d3,.slice B4 (A.n 4) d4,.slice B5 (A.n 5) d5] 27)) u)=>a1.below (bt (al p2 _) hu));have I:=bt a3 (al p2 (.cells #[.slice B0 (A.n 0) d0,.slice B1 (A.n 1) d1,.slice B2 (A.n 2) d2,.slice B3 (A.n 3) d3,.slice B4 (A.n 4) d4,.slice B5 (A.n 5) d5] 27));have E:=kaa (bt G.out I);clear G;have G:=E;clear E a4 a1 a3;have HC:=kaa (Gaa (p2.alloc (.cells #[.slice B0 (A.n 0) d0,.slice B1 (A.n 1) d1,.slice B2 (A.n 2) d2,.slice B3 (A.n 3) d3,.slice B4 (A.n 4) d4,.slice B5 (A.n 5) d5] 27)).heap.size (p2.alloc (.cells #[.slice B0 (A.n 0) d0,.slice B1 (A.n 1) d1,.slice B2 (A.n 2) d2,.slice B3 (A.n 3) d3,.slice B4 (A.n 4) d4,.slice B5 (A.n 5) d5] 27)));obtain⟨y0,y1,y2,y3,y4,y5⟩:=H.out _ G.out;obtain⟨z0,z1,z2,z3,z4,z5⟩:=aV.out _ HC.out);go_wp2_with (first
   |(go_at_call 16;(with_reducible refine(jA (aW.out.trans HQ.out.symm) (ao.out _ G.out) (ad.out _ G.out) (z:=true) (by rw[HQ.out];exact bh.out)).mono ?_);rintro e w4 ⟨rfl,I⟩;have E:=kaa (bt G.out I);have af:=kaa (bt HC.out I);clear G HC;have G:=E;have HC:=af;clear E af;obtain⟨y0,y1,y2,y3,y4,y5⟩:=H.out _ G.out;obtain⟨z0,z1,z2,z3,z4,z5⟩:=aV.out _ HC.out)
   |(go_at_call 13;(with_reducible refine(mx _ (ad.out _ G.out)).mono ?_);rintro e w7 ⟨rfl,I⟩;have E:=kaa (bt G.out I);clear G;have G:=E;clear E)
   |fail)
   go_ret;exact⟨rfl,bt aT.out G.out⟩
 ·obtain⟨er,bf⟩:∃ z,(Aj t.data.toList).2.1=z:=⟨_,rfl⟩;obtain⟨at_,a8⟩:∃ z,(Aj t.data.toList).2.2=z:=⟨_,rfl⟩;have aX:Hid (∀ u,Xj u→Calls maa 10 #[.string t] u fun r w'=>∃ q,q.p=fj∧am q er at_ u r w'):=fun u hu=>by have:=a5.out u hu;rw[bf,a8,g2]at this;exact this
  have aW:=kaa g2;rw[a8]at g3 g4;rw[bf]at g1;rw[bb]at g4;have bL:(er != 0)=true:=by simpa using g1
  have bN:(er==0)=false:=by simpa using g1
  unfold am at aX;have bI:Hid (cm false fj Xr.p=true):=ew false _;clear a5 bf a8 g2 bb;go_upto_region 3 with(go_at_call 10;(with_reducible refine(aX.out _ HE.out).mono ?_);rintro r p1 ⟨q,hq,J,c0,L,c1,M,c2,O,c3,Y,c4,Z,c5,rfl,hM,aU⟩;have HQ:=kaa hq;have aT:Hid (Below w.heap.size w (p1.alloc (.cells #[.slice J (q.n 0) c0,.slice L (q.n 1) c1,.slice M (q.n 2) c2,.slice O (q.n 3) c3,.slice Y (q.n 4) c4,.slice Z (q.n 5) c5] 27))):=bt aU (al p1 _);have H:=kaa (Tl p1 (.slice J (q.n 0) c0) (.slice L (q.n 1) c1) (.slice M (q.n 2) c2) (.slice O (q.n 3) c3) (.slice Y (q.n 4) c4) (.slice Z (q.n 5) c5) 27 rfl);have ao:=kaa (fun(u:World) (hu:Below (p1.alloc (.cells #[.slice J (q.n 0) c0,.slice L (q.n 1) c1,.slice M (q.n 2) c2,.slice O (q.n 3) c3,.slice Y (q.n 4) c4,.slice Z (q.n 5) c5] 27)).heap.size (p1.alloc (.cells #[.slice J (q.n 0) c0,.slice L (q.n 1) c1,.slice M (q.n 2) c2,.slice O (q.n 3) c3,.slice Y (q.n 4) c4,.slice Z (q.n 5) c5] 27)) u)=>hM.below (bt (al p1 _) hu));have ad:=kaa (fun(u:World) (hu:Below (p1.alloc (.cells #[.slice J (q.n 0) c0,.slice L (q.n 1) c1,.slice M (q.n 2) c2,.slice O (q.n 3) c3,.slice Y (q.n 4) c4,.slice Z (q.n 5) c5] 27)).heap.size (p1.alloc (.cells #[.slice J (q.n 0) c0,.slice L (q.n 1) c1,.slice M (q.n 2) c2,.slice O (q.n 3) c3,.slice Y (q.n 4) c4,.slice Z (q.n 5) c5] 27)) u)=>HE.out.below (bt aT.out hu));have G:=kaa (Gaa (p1.alloc (.cells #[.slice J (q.n 0) c0,.slice L (q.n 1) c1,.slice M (q.n 2) c2,.slice O (q.n 3) c3,.slice Y (q.n 4) c4,.slice Z (q.n 5) c5] 27)).heap.size (p1.alloc (.cells #[.slice J (q.n 0) c0,.slice L (q.n 1) c1,.slice M (q.n 2) c2,.slice O (q.n 3) c3,.slice Y (q.n 4) c4,.slice Z (q.n 5) c5] 27)));clear hq hM aU;obtain⟨y0,y1,y2,y3,y4,y5⟩:=H.out _ G.out);go_wp2_with (first
   |(go_at_call 20;(with_reducible refine(mv (ao.out _ G.out) (gA _) (Iq (aW.out.trans HQ.out.symm)).1 iA (z:=true) (by rw[HQ.out];exact bI.out)).mono ?_);rintro e w5 ⟨rfl,I⟩;have E:=kaa (bt G.out I);clear G;have G:=E;clear E;obtain⟨y0,y1,y2,y3,y4,y5⟩:=H.out _ G.out)
   |(go_at_call 13;(with_reducible refine(mx _ (ad.out _ G.out)).mono ?_);rintro e w7 ⟨rfl,I⟩;have E:=kaa (bt G.out I);clear G;have G:=E;clear E)
   |fail)
  go_ret;exact⟨rfl,bt aT.out G.out⟩
end Go.Proofs.YtjcihcncljihoaaGreatDoor

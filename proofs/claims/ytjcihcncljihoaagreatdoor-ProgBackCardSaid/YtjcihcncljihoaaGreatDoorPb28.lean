/- Chapter 05 (programs), joined: PgrN, PgrO, PrgI, PrgJ, ScnRun, ScnPlain, NumPlain, ScnNum, WParse, ScnA, ScnB. -/
import Derived.Test.YtjcihcncljihoaaGreatDoorPb24
import Derived.Test.YtjcihcncljihoaaGreatDoorPb26
import Derived.Test.YtjcihcncljihoaaGreatDoorPb27
import Derived.Laws.RangeAny
import Derived.Lib.ParseIntB
import Derived.Lib.Strings
import Derived.Lib.TrimByte
set_option maxRecDepth 100000
set_option maxHeartbeats 16000000
namespace Go.Proofs.YtjcihcncljihoaaGreatDoor
open Go Go.RowKit
set_option linter.unusedVariables false
open Bool renaming false_and→zea,not_false→wea,not_true→vea
open Go.Act renaming put→Uba
open Go.Lib renaming hid→kaa
open Go.RowKit.Below renaming refl→Gaa
open Int renaming natCast_nonneg→Sba
open Kv renaming cells→Cda
open List renaming getElem_cons_succ→Rda,getElem_cons_zero→dca,getElem_mem→dba,getElem_toArray→eea,map_eq_flatMap→lea,setIfInBounds_toArray→Vba,set_cons_succ→Yba,set_cons_zero→Xba
open Nat renaming add_zero→Ada,mul_one→Bda,zero_le→laa
open Or renaming inl→Tba
open Tv renaming cells→Dda
open WO renaming done→yea,take→xea
open bi renaming below→aca
theorem Ra{P:Prop}(h:P:=by
 go_wp2_with fail;refine(Tryz.strconv_ParseInt_10_at64_ok s (by omega) _ HPI.out _).mono ?_;rintro e w2 ⟨rfl,hw2⟩;have hb2:Below w1.heap.size w1 w2:=by
  rcases hw2 with rfl|⟨t,rfl⟩;·exact HBB.out
  ·exact HBB.out.trans ((Lib.bytesWorld_below _ _ _).mono HBB.out.size)
 clear hw2;go_wp2_with fail;go_ret2;exact Ss HN.out hb2):P:=h
theorem Wa{P:Prop}(h:P:=by go_enter Tryz.func12,Tryz.ntmps12;go_upto_region 1 with fail;rw[HX0.out];obtain⟨⟨y0,_,_,_,_,y5⟩,⟨z0,_,_,_,_,z5⟩⟩:=HC.out X0 (Below.refl _ _);go_wp2_with fail;go_ret;exact⟨Bh HN.out.symm,HX1.out⟩):P:=h
theorem Ya{P:Prop}(h:P:=by go_wp2_with fail;refine(Tryz.strconv_ParseInt_10_at64_range_var s (by omega) HPI.out tp p _ HRV.out).mono ?_;rintro e w2 ⟨N,rfl,hN,hNc,hb⟩;have hb2:Below w1.heap.size w1 w2:=HBB.out.trans (hb.mono HBB.out.size);clear hb hNc hN;go_wp2_with fail;go_ret2;exact Ss HN.out hb2):P:=h
theorem Ac{P:Prop}(h:P:=by
 split at this;·exact⟨(ek this).1,(ek this).2.1⟩
 ·rw[this];exact⟨Nat.zero_le _,fun y hy=>by cases hy⟩):P:=h
theorem Ec{P:Prop}(h:P:=by go_upto_region 6 with fail;go_quiet (fail);go_wp2_with fail;go_ret;exact⟨Bh (HNO.out (by simp)).symm,dk HBW.out _⟩):P:=h
theorem Ie{P:Prop}(h:P:=by go_wp2_with fail;go_ret;exact⟨ci (by rw[HS.out];simp),rfl⟩):P:=h
theorem Ke{P:Prop}(h:P:=by
 split at this;·exact um this
 ·rw[this];exact Nat.zero_le _):P:=h
theorem Pe{P:Prop}(h:P:=by go_wp2_with fail;go_ret2;exact Ss HN.out (Sr _ _ _)):P:=h
theorem jf{P:Prop}(h:P:=by have:=FF s 0 hk;rw[List.drop_zero]at this;exact this):P:=h
theorem uf{P:Prop}(h:P:=by go_wp2;go_ret2;exact Ss HN.out (Sr _ _ _)):P:=h
theorem Rf{P:Prop}(h:P:=by injection h with h;omega):P:=h
theorem qg{P:Prop}(h:P:=by simp[results,Tryz.results80,go_sem,lm,hc0,hc1,hc2,hc3];try rfl):P:=h
theorem Xg{P:Prop}(h:P:=by unfold GN;omega):P:=h
theorem UI(pl:Bool)(x y:Tv):Ak pl x.t y.t=(((vh x.name).toList==(vh y.name).toList)&&(x.regs==y.regs)&&(!pl||x.pos==y.pos)&&Qk pl (x.pl.map (·.s)) (y.pl.map (·.s))):=by rw[Ah,Ah];rfl
theorem aM(x y:List (List UInt8))(i:Nat)(A:i<x.length)(E:i<y.length)(h:(x[i]==y[i])=false):(x==y)=false:=by rw[beq_eq_false_iff_ne]at h ⊢;intro e;subst e;exact h rfl
theorem dJ(x y:List (List UInt8))(G:x.length=y.length)(h:∀ i (A:i<x.length) (E:i<y.length),(x[i]==y[i])=true):(x==y)=true:=by rw[beq_iff_eq];exact List.ext_getElem G (fun i A E=>by simpa using h i A E)
theorem Bu(a b:List Tv)(ha:a.length≤100000)(hb:b.length≤100000)(a9:∀ x∈a,Gx x)(bb:∀ x∈b,Gx x)(va vb:Value)(pl:Bool)(w:World)(hA:bi w va 4 a.length (a.flatMap Dda))(hB:bi w vb 4 b.length (b.flatMap Dda))(bk:∀ x∈a,Fx w x)(bs:∀ x∈b,Fx w x):Calls Tryz.prog 34 #[va,vb,.bool pl] w fun e w'=>e = .returned (.bool (Yh (fun x y=>Ak pl x.t y.t) a b))∧Below w.heap.size w w':=by
 have HA:=kaa hA;have HB:=kaa hB;have bS:=kaa bk;have bT:=kaa bs;have bN:=kaa a9;have bR:=kaa bb;obtain⟨_,A1,c1,rfl,ct,_⟩:=id hA;obtain⟨_,A2,c2,rfl,aW,_⟩:=id hB;clear hA hB bk bs a9 bb;by_cases hl:a.length=b.length
 ·have HL:=kaa hl;have b7:((a.length:Int) != (b.length:Int))=false:=by rw[hl];simp
  clear hl;go_enter Tryz.func34,Tryz.ntmps34;go_wp2_with fail;go_loopw [7] (fun k wr=>Below w.heap.size w wr∧∃ j:Nat,j≤a.length∧k = .int .i64 j∧∀ j' (h1:j'<a.length) (h2:j'<b.length),j'<j→Ak pl a[j'].t b[j'].t=true) (fun k _=>a.length - (intOf k).toNat);case atStart=>exact⟨Gaa _ _,0,laa _,rfl,fun j' _ _ h=>absurd h Tf⟩
  case round =>
   obtain⟨a7,j,hj,rfl,a0⟩:=hrel;have HBW:=kaa a7;have HALL:=kaa a0;clear a0;by_cases ao:j<a.length
   ·have A:Hid (j<b.length):=by have:=HL.out;show _<_;omega
    obtain⟨b1,o1,k1,bX,cW,M⟩:=Ki (f:=Dda) (fun _=>rfl) HA.out Tf;obtain⟨b2,o2,k2,bY,cX,O⟩:=Ki (f:=Dda) (fun _=>rfl) HB.out ig;cases bX;cases bY;have G:Hid (∀ u,Below w.heap.size w u→u.cell? ⟨b1,o1+j*4,none⟩=some (.string (vh (a[j]).name))∧u.cell? ⟨b1,o1+j*4+1,none⟩=some (a[j]).rv∧u.cell? ⟨b1,o1+j*4+2,none⟩=some (a[j]).bv∧u.cell? ⟨b1,o1+j*4+3,none⟩=some (.int .i64 (a[j]).pos)∧u.cell? ⟨b2,o2+j*4,none⟩=some (.string (vh (b[j]'A.out).name))∧u.cell? ⟨b2,o2+j*4+1,none⟩=some (b[j]'A.out).rv∧u.cell? ⟨b2,o2+j*4+2,none⟩=some (b[j]'A.out).bv∧u.cell? ⟨b2,o2+j*4+3,none⟩=some (.int .i64 (b[j]'A.out).pos)):=fun u hu =>
     ⟨M u hu j ao 0 _ rfl,M u hu j ao 1 _ rfl,M u hu j ao 2 _ rfl,M u hu j ao 3 _ rfl,O u hu j A.out 0 _ rfl,O u hu j A.out 1 _ rfl,O u hu j A.out 2 _ rfl,O u hu j A.out 3 _ rfl⟩
    have HNO:=kaa (Ol (f:=fun x y:Tv=>Ak pl x.t y.t) a b j ao A.out);have Q:Hid (Ak pl a[j].t (b[j]'A.out).t=true→∀ j' (h1:j'<a.length) (h2:j'<b.length),j'<j+1→Ak pl a[j'].t b[j'].t=true):=fun h j' h1 h2 b8=>by exact Gd
    have mA:=dba ao;have mB:=dba A.out;have aX:=bS.out _ mA;have aZ:=bT.out _ mB;have aT:=bN.out _ mA;have aY:=bR.out _ mB;have HS:=kaa (fun(u:World) (hu:Below w.heap.size w u)=>WI (a[j]).pl (b[j]'A.out).pl aT.bl aY.bl (fun z hz=>⟨(aT.bd z hz).e,(aT.bd z hz).f⟩) (fun z hz=>⟨(aY.bd z hz).e,(aY.bd z hz).f⟩) (a[j]).bv (b[j]'A.out).bv pl u (aX.2.below hu) (aZ.2.below hu));have aU:=kaa aX.1;have aV:=kaa aZ.1;have a6:Hid ((a[j]).regs.length≤100000):=aT.rl;have cT:(0:Int)≤(j:Int):=Sba _;have cU:(j:Int)<(a.length:Int):=by omega
    have cV:(j:Int)<(b.length:Int):=by have:=HL.out;omega
    clear M O mA mB aT aY;rw[UI]at HNO Q;generalize b[j]'A.out=y at G HS aU aV HNO Q aZ;generalize a[j]=x at G HS aU aV a6 HNO Q aX;obtain⟨xn,xr,I,xb,xp,xq⟩:=x;obtain⟨yn,yr,J,yb,yp,yq⟩:=y;obtain⟨⟨_,A3,c3,h3,_,_⟩,⟨⟨_,A4,c4,h4,_,_⟩,_⟩⟩:=aX;obtain⟨⟨_,A5,c5,h5,_,_⟩,⟨⟨_,A6,c6,h6,_,_⟩,_⟩⟩:=aZ;simp only at h3 h4 h5 h6;subst h3 h4 h5 h6;simp only at G HS aU aV a6 HNO Q;generalize Qk pl _ _=b4 at HS HNO Q;obtain⟨H,bf⟩:∃ z,((vh xn).toList==(vh yn).toList)=z:=⟨_,rfl⟩;obtain⟨Y,bg⟩:∃ z,(xq==yq)=z:=⟨_,rfl⟩;have e1:((vh xn).toList != (vh yn).toList)=!H:=congrArg (fun b=>!b) bf;have e2:(xq != yq)=!Y:=congrArg (fun b=>!b) bg;rw[bf,bg]at HNO Q;by_cases av:I.length=J.length
    ·have b9:((I.length:Int)==(J.length:Int))=true:=by rw[av];simp
     have cb:((I.length:Int) != (J.length:Int))=false:=by rw[av];simp
     have a5:=kaa av;clear av;by_cases af:(H&&(!pl||Y))=true
     ·have hc:(pl=false∧H=true)∨(pl=true∧H=true∧Y=true):=by revert af;cases pl<;>cases H<;>cases Y<;>simp
      clear af;have hq:=dm HBW.out;obtain⟨x0,x1,x2,x3,y0,y1,y2,y3⟩:=G.out wr HBW.out;rcases hc with⟨rfl,rfl⟩|⟨rfl,rfl,rfl⟩;all_goals
       simp only[vea]at e1 e2;go_upto_region 6 with fail;refine WO.start [0,1,2,3,4,5,6,7,8,9,10,11,12,13,14,15,16,17,18,19,20,21,22,23,24,25,26,27,28,29,30,31,32,33,34,35,36,37,38,39,40,41,42,43,44,45,46,47,48,49,50,51,52,53,54,55,56] (fun u=>u.cell? ⟨b1,o1+j*4,none⟩=some (.string (vh xn))∧u.cell? ⟨b1,o1+j*4+1,none⟩=some (.slice A3 I.length c3)∧u.cell? ⟨b1,o1+j*4+2,none⟩=some (.slice A4 xp.length c4)∧u.cell? ⟨b1,o1+j*4+3,none⟩=some (.int .i64 xq)∧u.cell? ⟨b2,o2+j*4,none⟩=some (.string (vh yn))∧u.cell? ⟨b2,o2+j*4+1,none⟩=some (.slice A5 J.length c5)∧u.cell? ⟨b2,o2+j*4+2,none⟩=some (.slice A6 yp.length c6)∧u.cell? ⟨b2,o2+j*4+3,none⟩=some (.int .i64 yq)) Vf (G.out _ hq) (fun Z=>?_);iterate 29 (refine xea (v:=?_) rfl Vf Vf Vf (fun _ _ _ h=>h) (Tba ⟨by rfl,?_⟩) Xf ?_;rotate_left;(intro w0 ad;(try dsimp only at ad);go_simp;(try with_reducible rfl));(try simp only[Uba,eea,Rda,dca,Vba,Xba,Yba]))
       first
        |(have _:(xq != yq)=false:=e2;iterate 11 (refine xea (v:=?_) rfl Vf Vf Vf (fun _ _ _ h=>h) (Tba ⟨by rfl,?_⟩) Xf ?_;rotate_left;(intro w0 ad;(try dsimp only at ad);go_simp;(try with_reducible rfl));(try simp only[Uba,eea,Rda,dca,Vba,Xba,Yba])))
        |(iterate 11 (refine xea (v:=undef) rfl Vf Vf Vf (fun _ _ _ h=>h) (Or.inr ⟨by rfl,rfl⟩) Xf ?_;(try simp only[Uba,eea,Rda,dca,Vba,Xba,Yba])))
        |fail
       iterate 14 (refine xea (v:=?_) rfl Vf Vf Vf (fun _ _ _ h=>h) (Tba ⟨by rfl,?_⟩) Xf ?_;rotate_left;(intro w0 ad;(try dsimp only at ad);go_simp;(try with_reducible rfl));(try simp only[Uba,eea,Rda,dca,Vba,Xba,Yba]))
       clear Z;refine WO.call Vf rfl (fun K hK=>?_);go_simp;go_at_call 98;(with_reducible refine(HS.out _ hq).mono ?_);rintro e w5 ⟨rfl,bh⟩;dsimp only;have a3:=kaa (bt hq bh);refine hK.out _ _ (G.out _ a3.out) (fun Z=>?_);clear hK K x0 x1 x2 x3 y0 y1 y2 y3;iterate 2 (refine xea (v:=?_) rfl Vf Vf Vf (fun _ _ _ h=>h) (Tba ⟨by rfl,?_⟩) Xf ?_;rotate_left;(intro w0 ad;(try dsimp only at ad);go_simp;(try with_reducible rfl));(try simp only[Uba,eea,Rda,dca,Vba,Xba,Yba]))
       refine yea Vf ?_;clear Z bh;cases b4;·go_wp2_with fail;go_ret;exact⟨Bh (HNO.out Yf).symm,a3.out⟩
       ·go_wp2_with fail;go_loopw [8] (fun k wx=>∃ i:Nat,i≤I.length∧k = .int .i64 i∧Below w.heap.size w wx∧∀ L (h1:L<I.length) (h2:L<J.length),L<i→(I[L]==J[L])=true) (fun k _=>I.length - (intOf k).toNat);case atStart=>exact⟨0,laa _,rfl,a3.out,fun L _ _ h=>absurd h Tf⟩
        case round =>
         obtain⟨i,hi,rfl,al,bF⟩:=hrel;have a4:=kaa al;have a8:=kaa bF;have cv:=a6.out;clear bF;by_cases bE:i<I.length
         ·have E:Hid (i<J.length):=by have:=a5.out;show _<_;omega
          obtain⟨b3,o3,k3,bZ,_,a1⟩:=Ki (f:=Mh) (fun _=>rfl) aU.out Tf;obtain⟨b5,o5,k5,b0,_,a2⟩:=Ki (f:=Mh) (fun _=>rfl) aV.out (by have:=a5.out;omega);cases bZ;cases b0;have z0:=a1 _ al i bE 0 _ rfl;have z1:=a2 _ al i E.out 0 _ rfl;simp only[Bda,Ada]at z0 z1;obtain⟨x0,x1,x2,x3,y0,y1,y2,y3⟩:=G.out wr al;clear x0 x2 x3 y0 y2 y3;obtain⟨c,hc⟩:∃ z,((vh I[i]).toList==(vh (J[i]'E.out)).toList)=z:=⟨_,rfl⟩;have aW:(I[i]==J[i]'E.out)=c:=by rw[← hc,Ah,Ah]
          have bU:=kaa (fun(h:c=false)=>aM I J i bE E.out (aW.trans h));have bW:Hid (c=true→∀ L (h1:L<I.length) (h2:L<J.length),L<i+1→(I[L]==J[L])=true):=fun h L h1 h2 b8=>by
           by_cases b6:L<i;·exact a8.out L h1 h2 b6
           ·obtain rfl:L=i:=by omega
            exact aW.trans h
          have e3:((vh I[i]).toList != (vh (J[i]'E.out)).toList)=!c:=congrArg (fun b=>!b) hc;have cc:(i:Int)<(I.length:Int):=by omega
          have ch:(i:Int)<(J.length:Int):=by have:=E.out;omega
          have cx:(0:Int)≤(i:Int):=Sba _;clear a1 a2 aW al;generalize I[i]=s at z0 e3 hc;generalize J[i]'E.out=t at z1 e3 hc;cases c;all_goals
           simp only[vea,wea]at e3;go_upto_region 11 with fail;go_quiet (fail);go_wp2_with fail;first
            |(go_ret;exact⟨Bh (HNO.out (by rw[bU.out Yf];simp)).symm,dk a4.out _⟩)
            |(go_roundw;(case rel=>exact⟨i+1,by omega,by go_num,dk a4.out _,bW.out Yf⟩);(case measure=>simp[intOf];omega))
            |fail
         ·have HY:=kaa (dJ I J a5.out (fun L h1 h2=>a8.out L h1 h2 Tf));obtain⟨x0,x1,x2,x3,y0,y1,y2,y3⟩:=G.out wr al;clear x0 x2 x3 y0 y1 y2 y3;go_wp2_with fail;go_roundw;case rel=>exact⟨a4.out,j+1,by omega,by go_num,Q.out (by rw[HY.out];rfl)⟩
          case measure=>simp[intOf];omega
     ·have bI:(H&&(!pl||Y))=false:=by simpa using af
      have bV:Hid (H=false∨(H=true∧pl=true∧Y=false)):=by show _∨_;revert bI;cases pl<;>cases H<;>cases Y<;>simp
      clear af bI;obtain⟨x0,x1,x2,x3,y0,y1,y2,y3⟩:=G.out wr HBW.out;clear a7;rcases bV.out with rfl|⟨rfl,rfl,rfl⟩;all_goals simp only[vea,wea]at e1 e2;exact Ec
    ·have cb:((I.length:Int) != (J.length:Int))=true:=by rw[bne_iff_ne];omega
     have b9:((I.length:Int)==(J.length:Int))=false:=by rw[beq_eq_false_iff_ne];omega
     have bL:(I==J)=false:=by rw[beq_eq_false_iff_ne];exact fun e=>av (by rw[e])
     rw[bL,Bool.and_false,zea,zea]at HNO;obtain⟨x0,x1,x2,x3,y0,y1,y2,y3⟩:=G.out wr HBW.out;clear bL av a7;cases H;all_goals simp only[vea,wea]at e1;exact Ec
   ·have HY:=kaa (Co (f:=fun x y:Tv=>Ak pl x.t y.t) a b HL.out (fun i h1 h2=>HALL.out i h1 h2 Tf));exact Re
 ·have b7:((a.length:Int) != (b.length:Int))=true:=by rw[bne_iff_ne];omega
  have HN:=kaa (Ik (f:=fun x y:Tv=>Ak pl x.t y.t) a b hl);go_enter Tryz.func34,Tryz.ntmps34;exact te
theorem dR:∀ a b c d:Bool,a=false∨(a=true∧b=false)∨(a=true∧b=true∧c=false)∨(a=true∧b=true∧c=true∧d=false)∨(a=true∧b=true∧c=true∧d=true):=by intro a b c d;cases a<;>cases b<;>cases c<;>cases d<;>simp
theorem iJ(o o2:Nat→Value)(q r:qj)(hq:eA q)(hr:eA r)(pl:Bool)(w:World)(hv:Lp w o q)(hu:Lp w o2 r):Calls Tryz.prog 12 #[.agg #[o 0,o 1,o 2,o 3,o 4,o 5],.agg #[o2 0,o2 1,o2 2,o2 3,o2 4,o2 5],.bool pl] w fun e w'=>e = .returned (.bool (cm pl q.p r.p))∧Below w.heap.size w w':=by
 have a2:=fun(u:World) (h:Below w.heap.size w u) (j:Nat) (hj:j<6)=>aca (hv.rows j hj) h;have av:=fun(u:World) (h:Below w.heap.size w u) (j:Nat) (hj:j<6)=>aca (hu.rows j hj) h;have H1:=kaa (fun(u:World) (h:Below w.heap.size w u)=>Az q.vols r.vols (hq.n 1 Uf) (hr.n 1 Uf) (o 1) (o2 1) pl u (a2 u h 1 Uf) (av u h 1 Uf));have H2:=kaa (fun(u:World) (h:Below w.heap.size w u)=>Az q.locks r.locks (hq.n 2 Uf) (hr.n 2 Uf) (o 2) (o2 2) pl u (a2 u h 2 Uf) (av u h 2 Uf));have H3:=kaa (fun(u:World) (h:Below w.heap.size w u)=>Bu q.thrs r.thrs (hq.n 3 Uf) (hr.n 3 Uf) hq.thrs hr.thrs (o 3) (o2 3) pl u (a2 u h 3 Uf) (av u h 3 Uf) (fun x hx=>(hv.deep.thrs x hx).below h) (fun x hx=>(hu.deep.thrs x hx).below h));have H4:=kaa (fun(u:World) (h:Below w.heap.size w u)=>Bu q.rcv r.rcv (hq.n 4 Uf) (hr.n 4 Uf) hq.rcv hr.rcv (o 4) (o2 4) pl u (a2 u h 4 Uf) (av u h 4 Uf) (fun x hx=>(hv.deep.rcv x hx).below h) (fun x hx=>(hu.deep.rcv x hx).below h));have bT:Hid (bi w (o 0) 1 q.lines.length (q.lines.flatMap (fun x:Value × List Xh=>[x.1]))):=by show bi _ _ _ _ _;rw[← lea];exact hv.rows 0 Uf
 have bR:Hid (bi w (o2 0) 1 r.lines.length (r.lines.flatMap (fun x:Value × List Xh=>[x.1]))):=by show bi _ _ _ _ _;rw[← lea];exact hu.rows 0 Uf
 have bU:Hid (bi w (o 5) 2 q.clms.length (q.clms.flatMap Cda)):=hv.rows 5 Uf;have bS:Hid (bi w (o2 5) 2 r.clms.length (r.clms.flatMap Cda)):=hu.rows 5 Uf;have HD:=kaa hv.deep;have HE:=kaa hu.deep;have bL:=kaa hq;have bN:=kaa hr;have HR:=kaa (PE pl q r);have ch:q.lines.length≤100000:=hq.n 0 Uf;have cc:q.clms.length≤100000:=hq.n 5 Uf;have aT:∀ j,j<6→∃ A c,o j = .slice A (q.n j) c:=fun j hj=>ug;have O:∀ j,j<6→∃ A c,o2 j = .slice A (r.n j) c:=fun j hj=>Rg;obtain⟨A0,c0,s0⟩:=aT 0 Uf;obtain⟨B0,d0,t0⟩:=O 0 Uf;obtain⟨A1,c1,s1⟩:=aT 1 Uf;obtain⟨B1,d1,t1⟩:=O 1 Uf;obtain⟨A2,c2,s2⟩:=aT 2 Uf;obtain⟨B2,d2,t2⟩:=O 2 Uf;obtain⟨A3,c3,s3⟩:=aT 3 Uf;obtain⟨B3,d3,t3⟩:=O 3 Uf;obtain⟨A4,c4,s4⟩:=aT 4 Uf;obtain⟨B4,d4,t4⟩:=O 4 Uf;obtain⟨A5,c5,s5⟩:=aT 5 Uf;obtain⟨B5,d5,t5⟩:=O 5 Uf;have s0:o 0 = .slice A0 q.lines.length c0:=s0;have s5:o 5 = .slice A5 q.clms.length c5:=s5;have t0:o2 0 = .slice B0 r.lines.length d0:=t0;have t5:o2 5 = .slice B5 r.clms.length d5:=t5;rw[s0,s1,s2,s3,s4,s5,t0,t1,t2,t3,t4,t5];rw[s1,t1]at H1;rw[s2,t2]at H2;rw[s3,t3]at H3;rw[s4,t4]at H4;rw[s0]at bT;rw[t0]at bR;rw[s5]at bU;rw[t5]at bS;obtain⟨X0,HX0⟩:∃ X0,Hid (((w.alloc (.cells #[.slice A0 q.lines.length c0,.slice A1 (q.n 1) c1,.slice A2 (q.n 2) c2,.slice A3 (q.n 3) c3,.slice A4 (q.n 4) c4,.slice A5 q.clms.length c5] 27)).alloc (.cells #[.slice B0 r.lines.length d0,.slice B1 (r.n 1) d1,.slice B2 (r.n 2) d2,.slice B3 (r.n 3) d3,.slice B4 (r.n 4) d4,.slice B5 r.clms.length d5] 27))=X0):=⟨_,rfl⟩;have HC:Hid (∀ u,Below X0.heap.size X0 u→(u.cell? ⟨w.heap.size,0,none⟩=some (.slice A0 q.lines.length c0)∧u.cell? ⟨w.heap.size,1,none⟩=some (.slice A1 (q.n 1) c1)∧u.cell? ⟨w.heap.size,2,none⟩=some (.slice A2 (q.n 2) c2)∧u.cell? ⟨w.heap.size,3,none⟩=some (.slice A3 (q.n 3) c3)∧u.cell? ⟨w.heap.size,4,none⟩=some (.slice A4 (q.n 4) c4)∧u.cell? ⟨w.heap.size,5,none⟩=some (.slice A5 q.clms.length c5))∧(u.cell? ⟨w.heap.size+1,0,none⟩=some (.slice B0 r.lines.length d0)∧u.cell? ⟨w.heap.size+1,1,none⟩=some (.slice B1 (r.n 1) d1)∧u.cell? ⟨w.heap.size+1,2,none⟩=some (.slice B2 (r.n 2) d2)∧u.cell? ⟨w.heap.size+1,3,none⟩=some (.slice B3 (r.n 3) d3)∧u.cell? ⟨w.heap.size+1,4,none⟩=some (.slice B4 (r.n 4) d4)∧u.cell? ⟨w.heap.size+1,5,none⟩=some (.slice B5 r.clms.length d5))):=fun u hu=>by rw[← HX0.out]at hu;have h1:=Tl w (.slice A0 q.lines.length c0) (.slice A1 (q.n 1) c1) (.slice A2 (q.n 2) c2) (.slice A3 (q.n 3) c3) (.slice A4 (q.n 4) c4) (.slice A5 q.clms.length c5) 27 rfl u (bt (al _ _) hu);have h2:=Tl (w.alloc (.cells #[.slice A0 q.lines.length c0,.slice A1 (q.n 1) c1,.slice A2 (q.n 2) c2,.slice A3 (q.n 3) c3,.slice A4 (q.n 4) c4,.slice A5 q.clms.length c5] 27)) (.slice B0 r.lines.length d0) (.slice B1 (r.n 1) d1) (.slice B2 (r.n 2) d2) (.slice B3 (r.n 3) d3) (.slice B4 (r.n 4) d4) (.slice B5 r.clms.length d5) 27 rfl u hu;rw[World.size_alloc]at h2;exact⟨h1,h2⟩
 have HX1:Hid (Below w.heap.size w X0):=by rw[← HX0.out];exact ii (al _ _) _
 have HW:=kaa (fun(u:World) (hu:Below X0.heap.size X0 u)=>HX1.out.trans (hu.mono HX1.out.size));clear hq hr hv hu a2 av aT O s0 s1 s2 s3 s4 s5 t0 t1 t2 t3 t4 t5;have a9:Hid (Yh (fun x y=>Yh (nj pl) x.2 y.2) q.lines r.lines=false→cm pl q.p r.p=false):=fun h=>by rw[HR.out,h];simp
 have bf:Hid (Yh (fun x y=>Lm pl x.c y.c) q.clms r.clms=false→cm pl q.p r.p=false):=fun h=>by rw[HR.out,h];simp
 by_cases hl:q.lines.length=r.lines.length
 ·have b9:((q.lines.length:Int) != (r.lines.length:Int))=false:=by rw[hl];simp
  have b8:((q.lines.length:Int)==(r.lines.length:Int))=true:=by rw[hl];simp
  have HL:=kaa hl;clear hl;by_cases hk:q.clms.length=r.clms.length
  ·have b7:((q.clms.length:Int) != (r.clms.length:Int))=false:=by rw[hk];simp
   have b6:((q.clms.length:Int)==(r.clms.length:Int))=true:=by rw[hk];simp
   have HK:=kaa hk;clear hk;go_enter Tryz.func12,Tryz.ntmps12;go_upto_region 1 with fail;rw[HX0.out];obtain⟨⟨y0,_,_,_,_,y5⟩,⟨z0,_,_,_,_,z5⟩⟩:=HC.out X0 (Gaa _ _);go_wp2_with fail;go_loopw [7] (fun k wr=>∃ j:Nat,j≤q.lines.length∧k = .int .i64 j∧Below X0.heap.size X0 wr∧∀ E (h1:E<q.lines.length) (h2:E<r.lines.length),E<j→Yh (nj pl) q.lines[E].2 r.lines[E].2=true) (fun k _=>q.lines.length - (intOf k).toNat);case atStart=>exact⟨0,laa _,rfl,Gaa _ _,fun E _ _ h=>absurd h Tf⟩
   case round =>
    obtain⟨j,hj,rfl,a1,a7⟩:=hrel;have bY:=kaa a1;have aY:=kaa a7;clear a7;by_cases bI:j<q.lines.length
    ·have ao:Hid (j<r.lines.length):=by have:=HL.out;show _<_;omega
     obtain⟨b1,o1,k1,bs,_,ad⟩:=Ki (f:=fun x:Value × List Xh=>[x.1]) (fun _=>rfl) bT.out Tf;obtain⟨b2,o3,k2,bE,_,af⟩:=Ki (f:=fun x:Value × List Xh=>[x.1]) (fun _=>rfl) bR.out (by have:=HL.out;omega);cases bs;cases bE;have mA:=dba bI;have mB:=dba ao.out;have aU:=HD.out.lines _ mA;have aV:=HE.out.lines _ mB;have a3:=(bL.out.lines _ mA).1;have a4:=(bN.out.lines _ mB).1;have HS:=kaa (fun(u:World) (hu:Below X0.heap.size X0 u)=>Az (q.lines[j]).2 (r.lines[j]'ao.out).2 a3 a4 (q.lines[j]).1 (r.lines[j]'ao.out).1 pl u (aca aU (HW.out _ hu)) (aca aV (HW.out _ hu)));have H:=kaa (fun h=>a9.out (Ol (f:=fun(x y:Value × List Xh)=>Yh (nj pl) x.2 y.2) q.lines r.lines j bI ao.out h));have I:Hid (Yh (nj pl) q.lines[j].2 (r.lines[j]'ao.out).2=true→∀ E (h1:E<q.lines.length) (h2:E<r.lines.length),E<j+1→Yh (nj pl) q.lines[E].2 r.lines[E].2=true):=fun h E h1 h2 cb=>by
      by_cases bF:E<j;·exact aY.out E h1 h2 bF
      ·obtain rfl:E=j:=by omega
       exact h
     have G:Hid (∀ u,Below X0.heap.size X0 u→u.cell? ⟨b1,o1+j,none⟩=some (q.lines[j]).1∧u.cell? ⟨b2,o3+j,none⟩=some (r.lines[j]'ao.out).1):=fun u hu=>by have e1:=ad u (HW.out _ hu) j bI 0 _ rfl;have e2:=af u (HW.out _ hu) j ao.out 0 _ rfl;simp only[Bda,Ada]at e1 e2;exact⟨e1,e2⟩
     have bZ:(0:Int)≤(j:Int):=Sba _;have b0:(j:Int)<(q.lines.length:Int):=by omega
     have b5:(j:Int)<(r.lines.length:Int):=by have:=HL.out;omega
     clear ad af mA mB a3 a4;generalize r.lines[j]'ao.out=y at G HS H I aV;generalize q.lines[j]=x at G HS H I aU;obtain⟨xv,xc⟩:=x;obtain⟨yv,yc⟩:=y;obtain⟨_,A7,c7,h7,_,_⟩:=aU;obtain⟨_,A8,c8,h8,_,_⟩:=aV;simp only at h7 h8;subst h7 h8;simp only at G HS H I;generalize Yh (nj pl) _ _=bb at HS H I;have bg:Hid (∀ u,Below X0.heap.size X0 u→u.cell? ⟨w.heap.size,0,none⟩=some (.slice (some ⟨b1,o1,none⟩) q.lines.length c0)∧u.cell? ⟨w.heap.size+1,0,none⟩=some (.slice (some ⟨b2,o3,none⟩) r.lines.length d0)∧u.cell? ⟨b1,o1+j,none⟩=some (.slice A7 xc.length c7)∧u.cell? ⟨b2,o3+j,none⟩=some (.slice A8 yc.length c8)):=fun u hu=>⟨(HC.out u hu).1.1,(HC.out u hu).2.1,(G.out u hu).1,(G.out u hu).2⟩;have hQ:=dm a1;obtain⟨v0,v1,v2,v3⟩:=bg.out _ a1;go_upto_region 6 with fail;go_region_held3 (fun u=>u.cell? ⟨w.heap.size,0,none⟩=some (.slice (some ⟨b1,o1,none⟩) q.lines.length c0)∧u.cell? ⟨w.heap.size+1,0,none⟩=some (.slice (some ⟨b2,o3,none⟩) r.lines.length d0)∧u.cell? ⟨b1,o1+j,none⟩=some (.slice A7 xc.length c7)∧u.cell? ⟨b2,o3+j,none⟩=some (.slice A8 yc.length c8))
      (first|exact bg.out _ bk|exact bg.out _ hQ)
      (first|(go_at_call 32;(with_reducible refine(HS.out _ hQ).mono ?_);rintro e w5 ⟨rfl,aW⟩;have bk:=bt hQ aW))
     all_goals
      cases bb;·go_wp2_with fail;go_ret;exact⟨Bh (H.out Yf).symm,HW.out _ bk⟩
      ·go_wp2_with fail;go_roundw;case rel=>exact⟨j+1,by omega,by go_num,bk,I.out Yf⟩
       case measure=>simp[intOf];omega
    ·have bV:=kaa (Co (f:=fun(x y:Value × List Xh)=>Yh (nj pl) x.2 y.2) q.lines r.lines HL.out (fun i h1 h2=>aY.out i h1 h2 Tf));obtain⟨⟨y0,_,_,_,_,y5⟩,⟨z0,_,_,_,_,z5⟩⟩:=HC.out wr a1;go_wp2_with fail;go_loopw [8] (fun k wx=>∃ i:Nat,i≤q.clms.length∧k = .int .i64 i∧Below X0.heap.size X0 wx∧∀ E (h1:E<q.clms.length) (h2:E<r.clms.length),E<i→Lm pl q.clms[E].c r.clms[E].c=true) (fun k _=>q.clms.length - (intOf k).toNat);case atStart=>exact⟨0,laa _,rfl,bY.out,fun E _ _ h=>absurd h Tf⟩
     case round =>
      obtain⟨i,hi,rfl,bX,a0⟩:=hrel;have a8:=kaa bX;have aX:=kaa a0;clear a0;by_cases a6:i<q.clms.length
      ·have Z:Hid (i<r.clms.length):=by have:=HK.out;show _<_;omega
       obtain⟨b1,o1,k1,bs,_,ad⟩:=Ki (f:=Cda) (fun _=>rfl) bU.out Tf;obtain⟨b2,o3,k2,bE,_,af⟩:=Ki (f:=Cda) (fun _=>rfl) bS.out (by have:=HK.out;omega);cases bs;cases bE;have mA:=dba a6;have mB:=dba Z.out;have aU:=HD.out.clms _ mA;have aV:=HE.out.clms _ mB;have a3:=(bL.out.clms _ mA).el;have a4:=(bN.out.clms _ mB).el;have HS:=kaa (fun(u:World) (hu:Below X0.heap.size X0 u)=>xz (q.clms[i]).c.e (r.clms[i]'Z.out).c.e a3 a4 (q.clms[i]).ev (r.clms[i]'Z.out).ev pl u (aca aU (HW.out _ hu)) (aca aV (HW.out _ hu)));have H:=kaa (fun h=>bf.out (Ol (f:=fun(x y:Kv)=>Lm pl x.c y.c) q.clms r.clms i a6 Z.out h));have I:Hid (Lm pl q.clms[i].c (r.clms[i]'Z.out).c=true→∀ E (h1:E<q.clms.length) (h2:E<r.clms.length),E<i+1→Lm pl q.clms[E].c r.clms[E].c=true):=fun h E h1 h2 cb=>by
        by_cases bF:E<i;·exact aX.out E h1 h2 bF
        ·obtain rfl:E=i:=by omega
         exact h
       have G:Hid (∀ u,Below X0.heap.size X0 u→u.cell? ⟨b1,o1+i*2,none⟩=some (q.clms[i]).ev∧u.cell? ⟨b1,o1+i*2+1,none⟩=some (.int .i64 (q.clms[i]).c.pos)∧u.cell? ⟨b2,o3+i*2,none⟩=some (r.clms[i]'Z.out).ev∧u.cell? ⟨b2,o3+i*2+1,none⟩=some (.int .i64 (r.clms[i]'Z.out).c.pos)):=fun u hu =>
        ⟨ad u (HW.out _ hu) i a6 0 _ rfl,ad u (HW.out _ hu) i a6 1 _ rfl,af u (HW.out _ hu) i Z.out 0 _ rfl,af u (HW.out _ hu) i Z.out 1 _ rfl⟩
       have bZ:(0:Int)≤(i:Int):=Sba _;have b0:(i:Int)<(q.clms.length:Int):=by omega
       have b5:(i:Int)<(r.clms.length:Int):=by have:=HK.out;omega
       clear ad af mA mB a3 a4;generalize r.clms[i]'Z.out=y at G HS H I aV;generalize q.clms[i]=x at G HS H I aU;obtain⟨xv,xe,xp⟩:=x;obtain⟨yv,ye,yp⟩:=y;obtain⟨_,A7,c7,h7,_,_⟩:=aU;obtain⟨_,A8,c8,h8,_,_⟩:=aV;simp only at h7 h8;subst h7 h8;simp only[Lm]at G HS H I;generalize tj pl _ _=bb at HS H I;obtain⟨a5,Y⟩:∃ z,(xp==yp)=z:=⟨_,rfl⟩;have e2:(xp != yp)=!a5:=congrArg (fun b=>!b) Y;rw[Y]at H I;have bh:Hid (∀ u,Below X0.heap.size X0 u→u.cell? ⟨w.heap.size,5,none⟩=some (.slice (some ⟨b1,o1,none⟩) q.clms.length c5)∧u.cell? ⟨w.heap.size+1,5,none⟩=some (.slice (some ⟨b2,o3,none⟩) r.clms.length d5)∧u.cell? ⟨b1,o1+i*2,none⟩=some (.slice A7 xe.length c7)∧u.cell? ⟨b1,o1+i*2+1,none⟩=some (.int .i64 xp)∧u.cell? ⟨b2,o3+i*2,none⟩=some (.slice A8 ye.length c8)∧u.cell? ⟨b2,o3+i*2+1,none⟩=some (.int .i64 yp)):=fun u hu=>⟨(HC.out u hu).1.2.2.2.2.2,(HC.out u hu).2.2.2.2.2.2,(G.out u hu).1,(G.out u hu).2.1,(G.out u hu).2.2.1,(G.out u hu).2.2.2⟩;have hq:=dm a8.out;obtain⟨v0,v1,v2,v3,v4,v5⟩:=bh.out wr a8.out;have hc:(bb=false)∨(bb=true∧pl=false)∨(bb=true∧pl=true∧a5=true)∨(bb=true∧pl=true∧a5=false):=by cases bb<;>cases pl<;>cases a5<;>simp
       go_upto_region 11 with fail;refine WO.start [0,1,2,3,4,5,6,7,8,9,10,11,12,13,14,15,16,17,18,19,20,21,22,23,24,25,26,27,28,29,30,31,32] (fun u=>u.cell? ⟨w.heap.size,5,none⟩=some (.slice (some ⟨b1,o1,none⟩) q.clms.length c5)∧u.cell? ⟨w.heap.size+1,5,none⟩=some (.slice (some ⟨b2,o3,none⟩) r.clms.length d5)∧u.cell? ⟨b1,o1+i*2,none⟩=some (.slice A7 xe.length c7)∧u.cell? ⟨b1,o1+i*2+1,none⟩=some (.int .i64 xp)∧u.cell? ⟨b2,o3+i*2,none⟩=some (.slice A8 ye.length c8)∧u.cell? ⟨b2,o3+i*2+1,none⟩=some (.int .i64 yp)) Vf (bh.out _ hq) (fun L=>?_);iterate 13 (refine xea (v:=?_) rfl Vf Vf Vf (fun _ _ _ h=>h) (Tba ⟨by rfl,?_⟩) Xf ?_;rotate_left;(intro w0 M;(try dsimp only at M);go_simp;(try with_reducible rfl));(try simp only[Uba,eea,Rda,dca,Vba,Xba,Yba]))
       clear L;refine WO.call Vf rfl (fun K hK=>?_);go_simp;go_at_call 33;(with_reducible refine(HS.out _ hq).mono ?_);rintro e w5 ⟨rfl,aW⟩;dsimp only;have aZ:=kaa (bt hq aW);refine hK.out _ _ (bh.out _ aZ.out) (fun L=>?_);clear hK K v0 v1 v2 v3 v4 v5;rcases hc with rfl|⟨rfl,rfl⟩|⟨rfl,rfl,rfl⟩|⟨rfl,rfl,rfl⟩
       ·iterate 2 (refine xea (v:=?_) rfl Vf Vf Vf (fun _ _ _ h=>h) (Tba ⟨by rfl,?_⟩) Xf ?_;rotate_left;(intro w0 M;(try dsimp only at M);go_simp;(try with_reducible rfl));(try simp only[Uba,eea,Rda,dca,Vba,Xba,Yba]))
        iterate 16 (refine xea (v:=undef) rfl Vf Vf Vf (fun _ _ _ h=>h) (Or.inr ⟨by rfl,rfl⟩) Xf ?_;(try simp only[Uba,eea,Rda,dca,Vba,Xba,Yba]))
        iterate 1 (refine xea (v:=?_) rfl Vf Vf Vf (fun _ _ _ h=>h) (Tba ⟨by rfl,?_⟩) Xf ?_;rotate_left;(intro w0 M;(try dsimp only at M);go_simp;(try with_reducible rfl));(try simp only[Uba,eea,Rda,dca,Vba,Xba,Yba]))
        refine yea Vf ?_;clear L aW;go_wp2_with fail;go_ret;exact⟨Bh (H.out Yf).symm,HW.out _ aZ.out⟩
       ·iterate 4 (refine xea (v:=?_) rfl Vf Vf Vf (fun _ _ _ h=>h) (Tba ⟨by rfl,?_⟩) Xf ?_;rotate_left;(intro w0 M;(try dsimp only at M);go_simp;(try with_reducible rfl));(try simp only[Uba,eea,Rda,dca,Vba,Xba,Yba]))
        iterate 13 (refine xea (v:=undef) rfl Vf Vf Vf (fun _ _ _ h=>h) (Or.inr ⟨by rfl,rfl⟩) Xf ?_;(try simp only[Uba,eea,Rda,dca,Vba,Xba,Yba]))
        iterate 2 (refine xea (v:=?_) rfl Vf Vf Vf (fun _ _ _ h=>h) (Tba ⟨by rfl,?_⟩) Xf ?_;rotate_left;(intro w0 M;(try dsimp only at M);go_simp;(try with_reducible rfl));(try simp only[Uba,eea,Rda,dca,Vba,Xba,Yba]))
        refine yea Vf ?_;clear L aW;go_wp2_with fail;go_roundw;case rel=>exact⟨i+1,by omega,by go_num,aZ.out,I.out Yf⟩
        case measure=>simp[intOf];omega
       all_goals
        simp only[vea,wea]at e2;iterate 19 (refine xea (v:=?_) rfl Vf Vf Vf (fun _ _ _ h=>h) (Tba ⟨by rfl,?_⟩) Xf ?_;rotate_left;(intro w0 M;(try dsimp only at M);go_simp;(try with_reducible rfl));(try simp only[Uba,eea,Rda,dca,Vba,Xba,Yba]))
        refine yea Vf ?_;clear L aW;go_wp2_with fail;first
         |(go_ret;exact⟨Bh (H.out Yf).symm,HW.out _ aZ.out⟩)
         |(go_roundw;(case rel=>exact⟨i+1,by omega,by go_num,aZ.out,I.out Yf⟩);(case measure=>simp[intOf];omega))
         |fail
      ·have bW:=kaa (Co (f:=fun(x y:Kv)=>Lm pl x.c y.c) q.clms r.clms HK.out (fun j h1 h2=>aX.out j h1 h2 Tf));have HF:Hid (cm pl q.p r.p=(Yh (nj pl) q.vols r.vols&&Yh (nj pl) q.locks r.locks&&Yh (fun x y=>Ak pl x.t y.t) q.thrs r.thrs&&Yh (fun x y=>Ak pl x.t y.t) q.rcv r.rcv)):=by show _=_;rw[HR.out,bV.out,bW.out];simp
       clear bV bW a9 bf HR aX aY bX a1;generalize Yh _ q.vols _=b1 at H1 HF;generalize Yh _ q.locks _=b2 at H2 HF;generalize Yh _ q.thrs _=b3 at H3 HF;generalize Yh _ q.rcv _=b4 at H4 HF;rcases dR b1 b2 b3 b4 with rfl|⟨rfl,rfl⟩|⟨rfl,rfl,rfl⟩|⟨rfl,rfl,rfl,rfl⟩|⟨rfl,rfl,rfl,rfl⟩;all_goals
        have Q:=a8;obtain⟨⟨y0,y1,y2,y3,y4,y5⟩,⟨z0,z1,z2,z3,z4,z5⟩⟩:=HC.out _ Q.out;go_wp2_with (first
         |(go_at_call 32;(with_reducible refine(H1.out _ (HW.out _ Q.out)).mono ?_);rintro e w2 ⟨rfl,Y⟩;have J:=kaa (bt Q.out Y);clear Q;have Q:=J;clear J;obtain⟨⟨y0,y1,y2,y3,y4,y5⟩,⟨z0,z1,z2,z3,z4,z5⟩⟩:=HC.out _ Q.out)
         |(go_at_call 32;(with_reducible refine(H2.out _ (HW.out _ Q.out)).mono ?_);rintro e w2 ⟨rfl,Y⟩;have J:=kaa (bt Q.out Y);clear Q;have Q:=J;clear J;obtain⟨⟨y0,y1,y2,y3,y4,y5⟩,⟨z0,z1,z2,z3,z4,z5⟩⟩:=HC.out _ Q.out)
         |(go_at_call 34;(with_reducible refine(H3.out _ (HW.out _ Q.out)).mono ?_);rintro e w2 ⟨rfl,Y⟩;have J:=kaa (bt Q.out Y);clear Q;have Q:=J;clear J;obtain⟨⟨y0,y1,y2,y3,y4,y5⟩,⟨z0,z1,z2,z3,z4,z5⟩⟩:=HC.out _ Q.out)
         |(go_at_call 34;(with_reducible refine(H4.out _ (HW.out _ Q.out)).mono ?_);rintro e w2 ⟨rfl,Y⟩;have J:=kaa (bt Q.out Y);clear Q;have Q:=J;clear J;obtain⟨⟨y0,y1,y2,y3,y4,y5⟩,⟨z0,z1,z2,z3,z4,z5⟩⟩:=HC.out _ Q.out)
         |fail)
        go_ret;exact⟨Bh (by rw[HF.out];rfl),HW.out _ Q.out⟩
  ·have b7:((q.clms.length:Int) != (r.clms.length:Int))=true:=by rw[bne_iff_ne];omega
   have b6:((q.clms.length:Int)==(r.clms.length:Int))=false:=by rw[beq_eq_false_iff_ne];omega
   have HN:=kaa (bf.out (Ik (f:=fun(x y:Kv)=>Lm pl x.c y.c) q.clms r.clms hk));exact Wa
 ·have b9:((q.lines.length:Int) != (r.lines.length:Int))=true:=by rw[bne_iff_ne];omega
  have b8:((q.lines.length:Int)==(r.lines.length:Int))=false:=by rw[beq_eq_false_iff_ne];omega
  have HN:=kaa (a9.out (Ik (f:=fun(x y:Value × List Xh)=>Yh (nj pl) x.2 y.2) q.lines r.lines hl));exact Wa
end Go.Proofs.YtjcihcncljihoaaGreatDoor
namespace Go.Proofs.YtjcihcncljihoaaGreatDoor
open Go Go.RowKit
set_option linter.unusedVariables false
set_option maxRecDepth 100000
open Go.Lib renaming decDigits→Taa
def ZO:List UInt8:=[108,105,110,101,32,97,32,61,32,49,44,32,98,59,32,108,111,99,107,32,109,59,32,116,104,114,101,97,100,32,116,32,123,32,114,101,103,32,114,59,32,108,111,97,100,32,114,32,61,32,97,59,32,125,32,97,108,119,97,121,115,32,97,32,61,61,32,48,59]
def rQ:List UInt8:=[118,111,108,32,120,59,32,108,105,110,101,32,97,59]
def qQ:List UInt8:=[116,104,114,101,97,100,32,116,32,123,32,114,101,103,32,114,32,108,111,97,100,32,114,32,61,32,97,59,32,125]
def pQ:List UInt8:=[108,105,110,101,32,97]
def oQ:List UInt8:=[114,101,99,111,118,101,114,32,123,32,125,32,114,101,99,111,118,101,114,32,123,32,125]
def lR:List UInt8:=[108,105,110,101,32,97,32,61,32,49,44,32,98,59,10,108,111,99,107,32,109,59,10,116,104,114,101,97,100,32,116,32,123,10,32,32,114,101,103,32,114,59,10,32,32,108,111,97,100,32,114,32,61,32,97,59,10,125,10,97,108,119,97,121,115,32,97,32,61,61,32,48,59,10]
def gE:List Kh:=[⟨10,0,[],64⟩,⟨2,0,[97],62⟩,⟨1,0,[],67⟩]
def gB:List St:=[⟨2,[114],[97],[],[],0,0,0,41⟩]
def gH:Jt:=⟨[116],[[114]],gB,30⟩
def gP:lk:=⟨[[⟨[97],1,5⟩,⟨[98],0,12⟩]],[],[⟨[109],0,20⟩],[gH],[],[⟨gE,55⟩]⟩
theorem aC:Aj ZO=(gP,0,0):=by kernel_rfl
theorem LP:(Aj rQ).2=(5,7):=by kernel_rfl
theorem JP:(Aj qQ).2=(5,17):=by kernel_rfl
theorem GP:(Aj pQ).2=(6,6):=by kernel_rfl
theorem EP:(Aj oQ).2=(5,12):=by kernel_rfl
theorem XM:Mi gP=true:=by
 rcases Lq (s:=ZO)with h|h;·rw[aC]at h;exact h.2.1
 ·rw[aC]at h;exact absurd rfl h.1
def gX:Ex:=.two ⟨10,0,[],64⟩ (.leaf ⟨2,0,[97],62⟩) (.leaf ⟨1,0,[],67⟩)
theorem PN:gX.ok:=⟨rfl,rfl,rfl⟩
theorem aR:Fh gE=true:=by have h:gE=gX.flat:=rfl;rw[h,Xp _ PN];decide +kernel
theorem ZQ:Ej gE=[97,32,61,61,32,48]:=by unfold Ej;rw[if_pos aR,show gE=gX.flat from rfl,Cn _ PN];show gX.show=_;simp[gX,Ex.show,Ex.brk,Lib.itoa,Taa,sg,oG]
theorem cR:Wm [32,32] gB=[32,32,108,111,97,100,32,114,32,61,32,97,59,10]:=by unfold Wm;simp[gB,aj,Lj,Gp,As,fm,Ai,DE,Gh,Ii,CP,Np]
theorem LQ:Sn gP=lR:=by unfold Sn;rw[if_pos XM];simp[Ml,gP,gH,Hv,Xo,Fu,dl,Gs,sk,sr,Wj,pw,mQ,ZQ,cR,El,bm,Np,yk,lR,Lib.itoa,Taa]
theorem MO:cm false gP fj=false:=by rfl
theorem YM:cm false gP (Ni gP)=true:=gw (ir gP).symm
theorem LO:cm true (Ni gP) (Ni (Ni gP))=true:=by rw[ir];exact ew true _
def gL:lk:=⟨[],[],[⟨[],0,0⟩],[],[],[]⟩
theorem UQ:Mi gL=false:=by
 have h:yi 0 gL.locks=false:=by decide +kernel
 unfold Mi;rw[h];simp
end Go.Proofs.YtjcihcncljihoaaGreatDoor
namespace Go.Proofs.YtjcihcncljihoaaGreatDoor
open Go Go.RowKit
set_option linter.unusedVariables false
open Bool renaming and_eq_true→Raa,eq_iff_iff→eaa
open Go.Lib renaming hid→kaa
open List renaming all_eq_true→pda,drop_zero→Aea,length_append→xaa,length_cons→jaa,length_map→Oca,length_nil→Xaa,mem_map→mda,takeWhile_cons→iaa
open Nat renaming add_zero→Ada,le_refl→aaa,le_trans→yba,zero_le→laa
open Go.Proofs.Tryz renaming prog→maa
theorem CA{l:List xh}{s:List UInt8}{i j:Nat}{u:Unit}(h:Oh l s i = .inl (u,j)):j≤l.length:=by have:=yj h;omega
theorem sC{b:Bool}{l:List xh}:∀ (g i:Nat) (cs:List Xh) (j:Nat),Oj b l g i = .inl (cs,j)→j≤l.length
 |0,i,cs,j,h=>by unfold Oj at h;cases h
 |g+1,i,cs,j,h=>by
  unfold Oj at h
  cases G:il b l i with
  |inr q=>rw[G]at h;cases h
  |inl q =>
   rw[G]at h;simp only at h;split at h
   ·cases A:Oj b l g (q.2+1)with
    |inr E=>rw[A]at h;cases h
    |inl E=>rw[A]at h;cases h;exact sC g _ _ _ A
   ·cases A:Oh l [59] q.2 with
    |inr E=>rw[A]at h;cases h
    |inl E=>rw[A]at h;cases h;exact CA A
theorem Zu{b:Bool}{l:List xh}{i j:Nat}{cs:List Xh}(h:fl b l i = .inl (cs,j)):j≤l.length:=sC _ _ _ _ h
theorem Iv{l:List xh}{s:List UInt8}{p:Int}{i j:Nat}{t:Jt}(h:kn l s p i = .inl (t,j)):t.regs.length≤l.length∧j≤l.length:=by
 unfold kn at h
 cases I:Oh l [123] i with
 |inr q=>rw[I]at h;cases h
 |inl q =>
  rw[I]at h
  simp only at h
  cases A:Zp l q.2 with
  |inr J=>rw[A]at h;cases h
  |inl J =>
   rw[A]at h
   simp only at h
   cases H:Yl l i J.2 with
   |inr L=>rw[H]at h;cases h
   |inl L =>
    rw[H]at h
    cases h
    refine⟨?_,uC (x:=L.1) H⟩
    unfold Zp at A
    split at A
    ·cases G:fl false l (q.2+1)with
     |inr E=>rw[G]at A;cases A
     |inl E =>
      rw[G]at A;cases A
      have a:=Pl (cs:=E.1) (j:=E.2) G
      have b:=Zu (cs:=E.1) (j:=E.2) G
      simp only[Oca]
      omega
    ·cases A;exact laa _
structure IC (N i:Nat) (p:lk):Prop where
 ln:p.lines.length≤i
 lr:∀ r∈p.lines,r.length≤N
 vo:p.vols.length≤i
 lo:p.locks.length≤i
 th:p.thrs.length≤i
 tr:∀ t∈p.thrs,t.regs.length≤N
 rc:p.rcv.length≤i+1
 rr:∀ t∈p.rcv,t.regs.length≤N
 cl:p.clms.length≤i
theorem IC.up{N M i j:Nat}{p:lk}(h:IC N i p)(E:N≤M)(A:i≤j):IC M j p :=
 ⟨yba h.ln A,fun r hr=>yba (h.lr r hr) E,yba h.vo A,yba h.lo A,yba h.th A,fun r hr=>yba (h.tr r hr) E,by have:=h.rc;omega,fun r hr=>yba (h.rr r hr) E,yba h.cl A⟩
theorem oB{j:Nat}{l:List xh}{p q:lk}{i t:Nat}(H:IC l.length i p)(hr:Qi j l p i = .inl (q,t)):IC l.length t q∧t≤l.length:=by
 have I:=Ew hr;have E:=H.up (aaa l.length) (Nat.le_of_lt I);unfold Qi at hr;split at hr
 ·cases A:fl true l (i+1)with
  |inr e=>rw[A]at hr;cases hr
  |inl r =>have a:=Pl (cs:=r.1) (j:=r.2) A;have b:=Zu (cs:=r.1) (j:=r.2) A;rw[A]at hr;cases hr;exact⟨{ E with ln:=by have:=H.ln;simp only[xaa,jaa,Xaa];omega,lr:=fq E.lr Tf },b⟩
 split at hr
 ·cases A:fl true l (i+1)with
  |inr e=>rw[A]at hr;cases hr
  |inl r =>have a:=Pl (cs:=r.1) (j:=r.2) A;have b:=Zu (cs:=r.1) (j:=r.2) A;rw[A]at hr;cases hr;exact⟨{ E with vo:=by have:=H.vo;simp only[xaa];omega },b⟩
 split at hr
 ·cases A:fl false l (i+1)with
  |inr e=>rw[A]at hr;cases hr
  |inl r =>have a:=Pl (cs:=r.1) (j:=r.2) A;have b:=Zu (cs:=r.1) (j:=r.2) A;rw[A]at hr;cases hr;exact⟨{ E with lo:=by have:=H.lo;simp only[xaa];omega },b⟩
 split at hr
 ·cases L:Th l (i+1)with
  |inr e=>rw[L]at hr;cases hr
  |inl r =>
   rw[L]at hr
   simp only at hr
   cases A:kn l r.1 (tk l (i+1)).pos r.2 with
   |inr e=>rw[A]at hr;cases hr
   |inl G =>have a:=Iv (t:=G.1) (j:=G.2) A;rw[A]at hr;cases hr;exact⟨{ E with th:=by have:=H.th;simp only[xaa,jaa,Xaa];omega,tr:=fq E.tr a.1 },a.2⟩
 split at hr
 ·split at hr
  ·cases A:kn l [] (tk l i).pos (i+1)with
   |inr e=>rw[A]at hr;cases hr
   |inl G =>have a:=Iv (t:=G.1) (j:=G.2) A;rw[A]at hr;cases hr;exact⟨{ E with rc:=by show 1≤_;omega,rr:=fun y M=>by rw[List.mem_singleton.1 M];exact a.1 },a.2⟩
  ·cases hr
 ·cases A:Ri l (i+1)with
  |inr e=>rw[A]at hr;cases hr
  |inl r =>
   rw[A]at hr
   simp only at hr
   cases J:Oh l [59] r.2 with
   |inr e=>rw[J]at hr;cases hr
   |inl G =>have b:=CA (u:=G.1) (j:=G.2) J;rw[J]at hr;cases hr;exact⟨{ E with cl:=by have:=H.cl;simp only[xaa,jaa,Xaa];omega },b⟩
theorem Ju{j:Nat}{l:List xh}:∀ (g:Nat) (p:lk) (i:Nat) (q:lk) (t:Nat),i≤l.length→IC l.length i p→Ek j l g p i = .inl (q,t)→IC l.length t q∧t≤l.length
 |0,p,i,q,t,hi,A,hr=>by unfold Ek at hr;cases hr;exact⟨A,hi⟩
 |g+1,p,i,q,t,hi,A,hr=>by
  unfold Ek at hr;split at hr
  ·cases E:Qi j l p i with
   |inr e=>rw[E]at hr;cases hr
   |inl r =>rw[E]at hr;have h:=oB A (q:=r.1) (t:=r.2) E;exact Ju g r.1 r.2 q t h.2 h.1 hr
  ·cases hr;exact⟨A,hi⟩
theorem Xs{l:List xh}:∀ (n j:Nat) (p:lk) (i:Nat) (q:lk) (t:Nat),i≤l.length→IC l.length i p→Di l n j p i = .inl (q,t)→IC l.length t q∧t≤l.length
 |0,j,p,i,q,t,hi,A,hr=>by unfold Di at hr;cases hr;exact⟨A,hi⟩
 |n+1,j,p,i,q,t,hi,A,hr=>by
  unfold Di at hr
  cases E:Ek j l (l.length - i) p i with
  |inr e=>rw[E]at hr;cases hr
  |inl r =>rw[E]at hr;have h:=Ju _ p i r.1 r.2 hi A E;exact Xs n (j+1) r.1 r.2 q t h.2 h.1 hr
theorem Qn(N i:Nat):IC N i fj:=⟨laa _,fun r hr=>(by cases hr),laa _,laa _,laa _,fun r hr=>(by cases hr),laa _,fun r hr=>(by cases hr),laa _⟩
theorem Gw(s:List UInt8):IC 4000 4000 (Aj s).1:=by
 unfold Aj;split
 ·unfold eB;have E:(Li s).1.length≤4000:=by
   by_cases h:s.length≤4000;·exact yba (Vn s).1 h
   ·unfold Li;rw[if_neg h];exact laa _
  cases G:Di (Li s).1 6 0 fj 0 with
  |inr e=>exact Qn _ _
  |inl r =>
   have h:=Xs 6 0 fj 0 r.1 r.2 (laa _) (Qn _ _) G;simp only;split
   ·rename_i A;split at A;·exact Qn _ _
    ·cases A
   ·rename_i A;split at A;·cases A
    ·cases A;exact h.1.up E (yba h.2 E)
 ·exact Qn _ _
theorem NO{x:St}(h:Pk x):fQ x:=by
 have hr:x.reg.length≤16:=by have:=h.r;exact Ke
 have G:x.name.length≤16:=by have:=h.nm;exact Ke
 have A:x.e.length≤100000∧∀ y∈x.e,y.name.length≤1000000:=by have:=h.e;exact Ac
 have E:x.f.length≤100000∧∀ y∈x.f,y.name.length≤1000000:=by have:=h.f;exact Ac
 exact⟨by omega,by omega,A.1,E.1,A.2,E.2⟩
theorem Xz{m:Int}{l:List Xh}(h:yi m l=true):∀ c∈l,AE c:=fun c E=>by have A:=pda.1 h c E;unfold jl at A;simp only[Raa]at A;have:=um A.1.1.1;exact⟨by omega⟩
theorem FE{N:Nat}{x:Tv}(L:N≤10000)(h:Xi x.t=true)(M:x.name.length≤16)(hr:x.regs.length≤N):At x:=by unfold Xi at h;simp only[Raa,pda]at h;obtain⟨E,G,d,I,J⟩:=(Uj _).1 h.2;have A:(x.pl.map (·.s)).length≤40:=E;rw[Oca]at A;exact⟨⟨by omega,by omega,fun r hr=>by have:=um (h.1.2 r hr);omega,by omega,fun y H=>NO (G _ (mda.2 ⟨y,H,rfl⟩))⟩,by omega⟩
theorem uD{N:Nat}(G:N≤10000){q:qj}(hr:Mi q.p=true)(E:IC N N q.p):eA q∧(∀ x∈q.thrs,At x)∧∀ x∈q.rcv,At x:=by
 obtain⟨J,L,M,h4,h5,h6,O⟩:=Jk hr;have Y:=E.ln;have Z:=E.vo;have l2:=E.lo;have l3:=E.th;have l4:=E.rc;have l5:=E.cl;simp only[qj.p,Oca]at Y Z l2 l3 l4 l5;have H:∀ x∈q.thrs,At x:=fun x A=>by have hm:x.t∈q.p.thrs:=mda.2 ⟨x,A,rfl⟩;have:=h5 _ hm;exact FE G this.2 (um this.1) (E.tr _ hm)
 have I:∀ x∈q.rcv,At x:=fun x A=>by have hm:x.t∈q.p.rcv:=mda.2 ⟨x,A,rfl⟩;have:=h6 _ hm;exact FE G this.2 (by have h:x.name=[]:=this.1;rw[h];exact laa _) (E.rr _ hm)
 refine⟨⟨fun j Q=>?_,fun x A=>?_,Xz L,Xz M,fun x A=>(H x A).b,fun x A=>(I x A).b,fun x A=>?_⟩,H,I⟩
 ·match j,Q with
  |0,_=>show q.lines.length≤_;omega
  |1,_=>show q.vols.length≤_;omega
  |2,_=>show q.locks.length≤_;omega
  |3,_=>show q.thrs.length≤_;omega
  |4,_=>show q.rcv.length≤_;omega
  |5,_=>show q.clms.length≤_;omega
 ·have hm:x.2∈q.p.lines:=mda.2 ⟨x,A,rfl⟩;have:=E.lr _ hm;exact⟨by omega,Xz (J _ hm).2⟩
 ·have hm:x.c∈q.p.clms:=mda.2 ⟨x,A,rfl⟩;have:=ek (O _ hm).2;exact⟨this.1,this.2.1⟩
theorem Iq{s:List UInt8}{q:qj}(hq:(Aj s).1=q.p):eA q∧(∀ x∈q.thrs,At x)∧∀ x∈q.rcv,At x:=by
 have A:=Gw s;have hr:Mi (Aj s).1=true:=by
  rcases Lq (s:=s)with h|h;·exact h.2.1
  ·rw[h.2.1];exact tu
 rw[hq]at A hr;exact uD Uf hr A
theorem cI(c:UInt8):gi c=(((((c.toNat:Int)==32)||((c.toNat:Int)==9))||((c.toNat:Int)==10))||((c.toNat:Int)==13)):=by rw[eaa];simp[gi];omega
theorem LF(c:UInt8)(w:World):Calls maa 77 #[.int .u8 c.toNat] w fun e w'=>e = .returned (.bool (gi c))∧w=w':=by
 have J:(c.toNat:Int)<256:=by have:=c.toNat_lt;omega
 have A:=cI c;cases E:((c.toNat:Int)==32)<;>cases G:((c.toNat:Int)==9)<;>cases H:((c.toNat:Int)==10)<;>cases I:((c.toNat:Int)==13);all_goals rw[E,G,H,I]at A;have HV2:=kaa A;clear A;go_enter Tryz.func77,Tryz.ntmps77;exact Ye
def Ht(c:UInt8):Bool:=!decide (c.toNat=10)
theorem tP(c:UInt8)(w:World):Calls maa 79 #[.int .u8 c.toNat] w fun e w'=>e = .returned (.bool (Ht c))∧w=w':=by
 have H:(c.toNat:Int)<256:=by have:=c.toNat_lt;omega
 have A:Ht c=((c.toNat:Int) != 10):=by rw[eaa];simp[Ht];omega
 cases G:((c.toNat:Int) != 10);all_goals rw[G]at A;have E:=kaa A;clear A;go_enter Tryz.func79,Tryz.ntmps79;go_wp2;go_ret;exact⟨Bh E.out.symm,rfl⟩
theorem KN(c:UInt8)(w:World):Calls maa 138 #[.int .u8 c.toNat] w fun e w'=>e = .returned (.bool (Xm c))∧w=w':=by have E:=kaa (show Xm c=(si c||Ph c)from rfl);cases G:si c;all_goals have A:=E.out;rw[G]at A;have HV3:=kaa A;clear A E;go_enter Tryz.func138,Tryz.ntmps138;exact fb
theorem xG(s:ByteArray)(G:s.size≤9223372036854775807)(w:World):Calls maa 76 #[.string s,.func (.func 77) #[] #[]] w fun e w'=>e = .returned (.int .i64 (s.data.toList.takeWhile gi).length)∧w=w':=by
 go_enter Tryz.func76,Tryz.ntmps76;go_wp2_with fail;go_loop [5] (fun n=>∃ k:Nat,k≤s.size∧n = .int .i64 k∧∀ j (h:j<k) (h':j<s.size),gi s[j]=true) (fun n=>s.size - (intOf n).toNat);case atStart=>exact⟨0,laa _,rfl,fun j h=>absurd h Tf⟩
 case round =>
  obtain⟨k,E,rfl,A⟩:=hrel;have HA:=kaa A;clear A;by_cases hlt:k<s.size
  ·cases hd:gi (s[k]'hlt);·have HS:=kaa (Cq (p:=gi) s.data.toList k Pg (fun j h=>HA.out j h Tf) hd);go_wp2_with (go_at_call 77;refine(LF (s[k]'hlt) _).mono ?_;rintro e w' ⟨rfl,rfl⟩);exact Ff
   ·go_wp2_with (go_at_call 77;refine(LF (s[k]'hlt) _).mono ?_;rintro e w' ⟨rfl,rfl⟩);exact Ib
  ·obtain rfl:k=s.size:=by omega
   have HS:=kaa (Wu (p:=gi) s.data.toList (fun j h=>HA.out j xg xg));exact Ie
theorem jO(s:ByteArray)(G:s.size≤9223372036854775807)(w:World):Calls maa 76 #[.string s,.func (.func 79) #[] #[]] w fun e w'=>e = .returned (.int .i64 (s.data.toList.takeWhile Ht).length)∧w=w':=by
 go_enter Tryz.func76,Tryz.ntmps76;go_wp2_with fail;go_loop [5] (fun n=>∃ k:Nat,k≤s.size∧n = .int .i64 k∧∀ j (h:j<k) (h':j<s.size),Ht s[j]=true) (fun n=>s.size - (intOf n).toNat);case atStart=>exact⟨0,laa _,rfl,fun j h=>absurd h Tf⟩
 case round =>
  obtain⟨k,E,rfl,A⟩:=hrel;have HA:=kaa A;clear A;by_cases hlt:k<s.size
  ·cases hd:Ht (s[k]'hlt);·have HS:=kaa (Cq (p:=Ht) s.data.toList k Pg (fun j h=>HA.out j h Tf) hd);go_wp2_with (go_at_call 79;refine(tP (s[k]'hlt) _).mono ?_;rintro e w' ⟨rfl,rfl⟩);exact Ff
   ·go_wp2_with (go_at_call 79;refine(tP (s[k]'hlt) _).mono ?_;rintro e w' ⟨rfl,rfl⟩);exact Ib
  ·obtain rfl:k=s.size:=by omega
   have HS:=kaa (Wu (p:=Ht) s.data.toList (fun j h=>HA.out j xg xg));exact Ie
theorem XL(s:ByteArray)(G:s.size≤9223372036854775807)(w:World):Calls maa 76 #[.string s,.func (.func 109) #[] #[]] w fun e w'=>e = .returned (.int .i64 (s.data.toList.takeWhile Ph).length)∧w=w':=by
 go_enter Tryz.func76,Tryz.ntmps76;go_wp2_with fail;go_loop [5] (fun n=>∃ k:Nat,k≤s.size∧n = .int .i64 k∧∀ j (h:j<k) (h':j<s.size),Ph s[j]=true) (fun n=>s.size - (intOf n).toNat);case atStart=>exact⟨0,laa _,rfl,fun j h=>absurd h Tf⟩
 case round =>
  obtain⟨k,E,rfl,A⟩:=hrel;have HA:=kaa A;clear A;by_cases hlt:k<s.size
  ·cases hd:Ph (s[k]'hlt);·have HS:=kaa (Cq (p:=Ph) s.data.toList k Pg (fun j h=>HA.out j h Tf) hd);go_wp2_with (go_at_call 109;refine(pt (s[k]'hlt) _).mono ?_;rintro e w' ⟨rfl,rfl⟩);exact Ff
   ·go_wp2_with (go_at_call 109;refine(pt (s[k]'hlt) _).mono ?_;rintro e w' ⟨rfl,rfl⟩);exact Ib
  ·obtain rfl:k=s.size:=by omega
   have HS:=kaa (Wu (p:=Ph) s.data.toList (fun j h=>HA.out j xg xg));exact Ie
theorem WL(s:ByteArray)(G:s.size≤9223372036854775807)(w:World):Calls maa 76 #[.string s,.func (.func 138) #[] #[]] w fun e w'=>e = .returned (.int .i64 (s.data.toList.takeWhile Xm).length)∧w=w':=by
 go_enter Tryz.func76,Tryz.ntmps76;go_wp2_with fail;go_loop [5] (fun n=>∃ k:Nat,k≤s.size∧n = .int .i64 k∧∀ j (h:j<k) (h':j<s.size),Xm s[j]=true) (fun n=>s.size - (intOf n).toNat);case atStart=>exact⟨0,laa _,rfl,fun j h=>absurd h Tf⟩
 case round =>
  obtain⟨k,E,rfl,A⟩:=hrel;have HA:=kaa A;clear A;by_cases hlt:k<s.size
  ·cases hd:Xm (s[k]'hlt);·have HS:=kaa (Cq (p:=Xm) s.data.toList k Pg (fun j h=>HA.out j h Tf) hd);go_wp2_with (go_at_call 138;refine(KN (s[k]'hlt) _).mono ?_;rintro e w' ⟨rfl,rfl⟩);exact Ff
   ·go_wp2_with (go_at_call 138;refine(KN (s[k]'hlt) _).mono ?_;rintro e w' ⟨rfl,rfl⟩);exact Ib
  ·exact Eb
def Zi(b:Bool)(pos:Nat)(l:List UInt8):List xh × Int × Int:=Ar (pos+li b l) (l.drop (li b l))
theorem TL(pos:Nat)(l:List UInt8):Zi false pos l=Nl pos l:=rfl
theorem Gq(b:Bool)(pos:Nat):Zi b pos []=([],0,0):=by cases b<;>rfl
theorem jp{b A:Bool}{c:UInt8}{r:List UInt8}(pos:Nat)(h:li b (c::r)=li A r+1):Zi b pos (c::r)=Zi A (pos+1) r:=by unfold Zi;rw[h,List.drop_succ_cons,show pos+(li A r+1)=pos+1+li A r by omega]
theorem KA{c:UInt8}{r:List UInt8}(pos:Nat)(h:¬ c.toNat=10):Zi true pos (c::r)=Zi true (pos+1) r :=
 jp pos (by simp only[li,h,if_false])
theorem iy{c:UInt8}{r:List UInt8}(pos:Nat)(h:c.toNat=10):Zi true pos (c::r)=Zi false (pos+1) r :=
 jp pos (by simp only[li,h,if_true])
theorem Vp{c:UInt8}{r:List UInt8}(pos:Nat)(h:gi c=true):Zi false pos (c::r)=Zi false (pos+1) r :=
 jp pos (by simp only[li,h,if_true])
def Ir(c:UInt8)(r:List UInt8):Prop:=c.toNat=47∧r.head? = some 47
theorem gy{c:UInt8}{r:List UInt8}(pos:Nat)(A:gi c=false)(h:Ir c r):Zi false pos (c::r)=Zi true (pos+1) r:=by unfold Ir at h;exact jp pos (by simp only[li,A,h,and_self,if_true];rfl)
theorem Xt{c:UInt8}{r:List UInt8}(A:gi c=false)(h:¬ Ir c r):li false (c::r)=0:=by unfold Ir at h;simp only[li,A,h,if_false];rfl
theorem ky{c:UInt8}{r:List UInt8}{e:Int}{pos:Nat}(A:li false (c::r)=0)(h:lj (c::r) pos = .inr e):Zi false pos (c::r)=([],e,(pos:Int)):=by unfold Zi;rw[A,Ada,Aea];exact sG h
theorem fy{c:UInt8}{r:List UInt8}{t:xh}{n:Nat}{pos:Nat}(A:li false (c::r)=0)(h:lj (c::r) pos = .inl (t,n)):Zi false pos (c::r)=Nn [t] (Zi false (pos+n) ((c::r).drop n)):=by unfold Zi;rw[A,Ada,Aea];exact dy h
theorem Fv{l:List UInt8}{pos e:Int}(h:lj l pos = .inr e):e=2∨e=3∨e=4:=by
 unfold lj at h;split at h;·exact Rf
 ·split at h
  ·split at h;·cases h
   ·exact Rf
  ·split at h
   ·split at h;·cases h
    ·exact Rf
   ·split at h;·exact Rf
    ·cases h
inductive uE (c : UInt8) (r : List UInt8) : Bool → Bool → Prop
 | in_ : ¬ c.toNat = 10 → uE c r true true
 | out : c.toNat = 10 → uE c r true false
 | blank : gi c = true → uE c r false false
 | rem : gi c = false → Ir c r → uE c r false true
theorem iP{c:UInt8}{r:List UInt8}{b A:Bool}(h:uE c r b A)(pos:Nat):Zi b pos (c::r)=Zi A (pos+1) r:=by
 cases h with
 |in_ h=>exact KA pos h
 |out h=>exact iy pos h
 |blank h=>exact Vp pos h
 |rem h E=>exact gy pos h E
theorem LL(c:UInt8)(r:List UInt8)(b:Bool):(∃ E,uE c r b E)∨(b=false∧gi c=false∧¬ Ir c r):=by
 cases b with
 |true =>
  by_cases h:c.toNat=10
  ·exact .inl ⟨_,.out h⟩
  ·exact .inl ⟨_,.in_ h⟩
 |false =>
  cases A:gi c with
  |true=>exact .inl ⟨_,.blank A⟩
  |false =>
   by_cases h:Ir c r
   ·exact .inl ⟨_,.rem A h⟩
   ·exact .inr ⟨rfl,rfl,h⟩
theorem Ot(P:Bool→Nat→List UInt8→List xh × Int × Int→Prop)
  (E:∀ b pos,P b pos [] ([],0,0))
  (G:∀ b A pos c r,uE c r b A→P A (pos+1) r (Zi A (pos+1) r)→P b pos (c::r) (Zi A (pos+1) r))
  (H:∀ (pos:Nat) c r (e:Int),gi c=false→¬ Ir c r→lj (c::r) pos = .inr e→P false pos (c::r) ([],e,(pos:Int)))
  (I:∀ (pos:Nat) c r t n,gi c=false→¬ Ir c r→lj (c::r) pos = .inl (t,n)→P false (pos+n) ((c::r).drop n) (Zi false (pos+n) ((c::r).drop n))→P false pos (c::r) (Nn [t] (Zi false (pos+n) ((c::r).drop n)))) :
  ∀ (n:Nat) (b:Bool) (pos:Nat) (l:List UInt8),l.length≤n→P b pos l (Zi b pos l)
 |_,b,pos,[],_=>by rw[Gq];exact E b pos
 |0,_,_,c::r,h=>by simp at h
 |n+1,b,pos,c::r,h=>by
  have hr:r.length≤n:=by simpa using h
  rcases LL c r b with⟨A,L⟩|⟨rfl,hb,hc⟩;·rw[iP L];exact G _ _ _ _ _ L (Ot P E G H I n _ _ r hr)
  ·have J:=Xt hb hc;cases ht:lj (c::r) pos with
   |inr e=>rw[ky J ht];exact H _ _ _ _ hb hc ht
   |inl x =>obtain⟨t,k⟩:=x;rw[fy J ht];have M:=Yk ht;exact I _ _ _ _ _ hb hc ht (Ot P E G H I n _ _ _ (by simp only[List.length_drop,jaa]at *;omega))
theorem Zv(b:Bool)(pos:Nat)(l:List UInt8):Nn [] (Zi b pos l)=Zi b pos l :=
 Ot (fun _ _ _ x=>Nn [] x=x) (fun _ _=>rfl) (fun _ _ _ _ _ _ h=>h)
  (fun _ _ _ _ _ _ ht=>mC _ _ _ (by rcases Fv ht with h|h|h<;>omega))
  (fun _ _ _ _ _ _ _ _ _=>by rw[ak];rfl) l.length b pos l (aaa _)
theorem UL{l:List UInt8}(h:l.length≤4000):Li l=Zi false 0 l:=by rw[OE h,← TL,Zv]
theorem Bo{l:List UInt8}(h:¬ l.length≤4000):Li l=([],2,4000):=by unfold Li;rw[if_neg h]
def iQ(d:Nat)(t:xh):xh:=⟨t.kind,t.text,t.n,t.pos+d⟩
theorem Ev(l:List UInt8)(pos:Int)(d:Nat):lj l (pos+d)=match lj l pos with
  | .inl (t,n)=>.inl (iQ d t,n)
  | .inr e=>.inr e:=by
 unfold lj
 split
 ·rfl
 ·split;·split<;>rfl
  ·split;·split<;>rfl
   ·split<;>rfl
theorem wL{p:UInt8→Bool}(l:List UInt8):(l.takeWhile p).takeWhile p=l.takeWhile p:=by
 induction l with
 |nil=>rfl
 |cons c r ih =>
  rw[iaa]
  split
  ·rename_i h;rw[iaa,if_pos h,ih]
  ·rfl
theorem Zr{p:UInt8→Bool}{c:UInt8}(h:p c=true)(r:List UInt8):(c::r).takeWhile p=c::r.takeWhile p:=by rw[iaa,if_pos h]
theorem sA{c:UInt8}{r:List UInt8}(h:si c=true)(pos:Int):lj (c::r) pos=if ((c::r).takeWhile Xm).length≤16 then .inl (⟨1,(c::r).takeWhile Xm,0,pos⟩,((c::r).takeWhile Xm).length)else .inr 2:=by simp only[lj,h,if_true]
theorem SC{c:UInt8}{r:List UInt8}(h:si c=false)(A:Ph c=true)(pos:Int):lj (c::r) pos=if mr ((c::r).takeWhile Ph)≤4294967296 then .inl (⟨2,(c::r).takeWhile Ph,mr ((c::r).takeWhile Ph),pos⟩,((c::r).takeWhile Ph).length)else .inr 4:=by simp only[lj,h,A,if_true];rfl
theorem aG{c:UInt8}{r:List UInt8}(h:si c=false)(A:Ph c=false)(pos:Int):lj (c::r) pos=if Gl (c::r)=0 then .inr 3 else .inl (⟨3,(c::r).take (Gl (c::r)),0,pos⟩,Gl (c::r)):=by simp only[lj,h,A];rfl
end Go.Proofs.YtjcihcncljihoaaGreatDoor
namespace Go.Proofs.YtjcihcncljihoaaGreatDoor
open Go
set_option linter.unusedVariables false
open Bool renaming and_eq_true→Raa
open Go.Lib renaming hasPrefix→Cea,parseIntB→Eea,parseUintM→Dea,trimPrefix→Bea
open List renaming all_cons→Uaa
def GN(a:Int):Prop:=-9223372036854775808≤a∧a≤9223372036854775807
instance(a:Int):Decidable (GN a):=inferInstanceAs (Decidable (_∧_))
def Fp(c:UInt8):Bool:=decide (48≤c.toNat)&&decide (c.toNat≤57)
theorem Tq(c:UInt8):Fp c=true ↔ 48≤c.toNat∧c.toNat≤57:=by simp[Fp]
theorem YB(c:UInt8):Fp c=false ↔ c.toNat<48∨57<c.toNat:=by rw[← Bool.not_eq_true,Tq];omega
def Ov(acc:Nat)(c:UInt8):Nat:=acc*10+(c.toNat - 48)
def oo(acc:Nat)(l:List UInt8):Nat:=l.foldl Ov acc
theorem kA(acc:Nat):oo acc []=acc:=rfl
def Ru(l:List UInt8):Nat:=oo 0 l
theorem wn(acc:Nat)(c:UInt8)(r:List UInt8):oo acc (c::r)=oo (Ov acc c) r:=by unfold oo;rw[List.foldl_cons]
theorem rL(l:List UInt8):∀ acc,acc≤oo acc l:=by
 induction l with
 |nil=>intro acc;exact Nat.le_refl _
 |cons x l ih=>intro acc;have:=ih (Ov acc x);rw[wn];unfold Ov at *;omega
theorem tI(l m:List UInt8):∀ acc,oo acc (l++m)=oo (oo acc l) m:=by
 induction l with
 |nil=>intro acc;simp only[List.nil_append,kA]
 |cons x l ih=>intro acc;rw[List.cons_append,wn,wn,ih]
def Ji(s:List UInt8):List UInt8:=Bea s [45]
def Zn(s:List UInt8):Bool:=(Ji s).all Fp&&!(Ji s).isEmpty&&!(decide ((Ji s).head? = some 48)&&!decide (s=[48]))
def signed(s:List UInt8):Int:=if s.head? = some 45 then -(Ru (Ji s):Int)else Ru (Ji s)
def Nr(s:List UInt8):Int × Int:=if Zn s then (if GN (signed s)then (signed s,0)else (0,4))else (0,8)
theorem Hm(c:UInt8)(r:List UInt8):Ji (c::r)=if c=45 then r else c::r:=by
 unfold Ji Bea Cea;by_cases h:c=45;·simp[h]
 ·have:¬ (45=c):=fun e=>h e.symm;simp[h,this]
theorem Vz:Ji []=[]:=by unfold Ji Bea Cea;simp
theorem Xn(l:List UInt8):∀ acc,acc≤18446744073709551615→l.all Fp=true→Dea 18446744073709551615 acc l=if oo acc l≤18446744073709551615 then .ok (oo acc l)else .range:=by
 induction l with
 |nil=>intro acc h _;simp[Dea,kA,h]
 |cons c r ih =>
  intro acc h A
  simp only[Uaa,Raa]at A
  have I:=(Tq c).1 A.1
  unfold Dea
  rw[if_pos I]
  have E:=rL r (Ov acc c)
  rw[wn]
  unfold Ov at E ⊢
  by_cases G:1844674407370955162≤acc
  ·rw[if_pos G,if_neg Tf]
  ·rw[if_neg G];by_cases H:18446744073709551615<acc*10+(c.toNat - 48);·rw[if_pos H,if_neg Tf]
   ·rw[if_neg H];exact ih _ Tf A.2
theorem Fw(s:List UInt8)(h:Zn s=true):Eea 64 s=if GN (signed s)then .ok (signed s)else .range:=by
 unfold Zn at h
 simp only[Raa]at h
 obtain⟨⟨E,A⟩,_⟩:=h
 cases s with
 |nil=>rw[Vz]at A;simp at A
 |cons c r =>
  have L:(2:Nat) ^ 64 - 1=18446744073709551615:=by decide +kernel
  have J:(2:Nat) ^ (64 - 1)=9223372036854775808:=by decide +kernel
  rw[Hm]at E A
  unfold Eea
  simp only[Lib.parseUintB,L,J]
  by_cases Q:c=45
  ·subst Q;simp only[if_true]at E A;have hr:r≠[]:=by intro e;subst e;simp at A
   have O:(45:UInt8).toNat=45:=rfl;simp only[O,or_true,if_true,hr,if_false,Xn r 0 Tf E,not_true_eq_false,false_and,true_and];have M:signed (45::r) = -(Ru r:Int):=by simp[signed,Hm]
   rw[M];show _=if GN (-(Ru r:Int))then _ else _;unfold Ru;generalize oo 0 r=v;by_cases G:v≤18446744073709551615
   ·rw[if_pos G];simp only;by_cases H:9223372036854775808<v;·rw[if_pos H,if_neg Xg]
    ·rw[if_neg H,if_pos Xg]
   ·rw[if_neg G,if_neg Xg]
  ·rw[if_neg Q]at E A;have I:=E;simp only[Uaa,Raa]at I;have Y:=(Tq c).1 I.1;have n1:¬ (c.toNat=43∨c.toNat=45):=by omega
   have Z:¬ c.toNat=45:=by omega
   have n3:(c.toNat=43∨c.toNat=45)=False:=eq_false n1;rw[if_neg n1,if_neg Yf,Xn (c::r) 0 Tf E];simp only[Z,if_false,not_false_eq_true,true_and,false_and];have M:signed (c::r)=(Ru (c::r):Int):=by simp[signed,Hm,Q]
   rw[M];unfold Ru;generalize oo 0 (c::r)=v;by_cases G:v≤18446744073709551615
   ·rw[if_pos G];simp only;by_cases H:9223372036854775808≤v;·rw[if_pos H,if_neg Xg]
    ·rw[if_neg H,if_pos Xg]
   ·rw[if_neg G,if_neg Xg]
end Go.Proofs.YtjcihcncljihoaaGreatDoor
namespace Go.Proofs.YtjcihcncljihoaaGreatDoor
open Go Go.RowKit
set_option linter.unusedVariables false
open Bool renaming and_eq_true→Raa
open Go.ByteArray renaming toList_eq→Kea
open Go.Instr renaming next→Zda
open Go.Lib renaming hid→kaa,indexByte→ica,trimB→Gea,trimLeftB→Hea
open Go.RowKit.Below renaming refl→Gaa
open Go.Utf8 renaming decode→Jea
open List renaming all_cons→Uaa,all_eq_true→pda,all_reverse→Iea,dropWhile_cons→Fea,length→tea
open Nat renaming le_refl→aaa,zero_le→laa
open Option.some renaming injEq→dda
open UInt8 renaming toNat_inj→Lea
open Go.Proofs.Tryz renaming prog→maa
theorem Sz{p:UInt8→Bool}:∀ {l:List UInt8} {y:UInt8} {E:List UInt8},l.dropWhile p=y::E→p y=false
 | [],_,_,h=>by cases h
 |c::l,y,E,h=>by
  rw[Fea]at h
  cases A:p c with
  |true=>rw[if_pos A]at h;exact Sz h
  |false=>rw[A]at h;injection h with h _;rw[← h];exact A
theorem jE{p:UInt8→Bool}:∀ {l:List UInt8},l.dropWhile p=[]→l.all p=true
 | [],_=>rfl
 |c::l,h=>by
  rw[Fea]at h
  cases A:p c with
  |true=>rw[if_pos A]at h;rw[Uaa,A,jE h];rfl
  |false=>rw[A]at h;cases h
theorem kE{p:UInt8→Bool}:∀ {l:List UInt8},l.all p=true→l.dropWhile p=[]
 | [],_=>rfl
 |c::l,h=>by rw[Uaa,Raa]at h;rw[Fea,if_pos h.1,kE h.2]
theorem Vx(l:List UInt8)(c:UInt8):Gea l c=[] ↔ l.all (· == c)=true:=by
 unfold Gea Hea Lib.trimRightB;constructor
 ·intro h;have A:=jE h;cases hm:l.reverse.dropWhile (· == c)with
  |nil =>have:=jE hm;rw[Iea]at this;exact this
  |cons y G =>have E:=Sz hm;rw[hm,Iea,Uaa,Raa]at A;rw[A.1]at E;cases E
 ·intro h;have e:l.reverse.dropWhile (· == c)=[]:=kE (by rw[Iea];exact h);rw[e];rfl
theorem NC(l:List UInt8):mr l=Ru l:=by
 have:∀ (l:List UInt8) (a:Nat),l.foldl (fun n c=>10*n+(c.toNat - 48)) a=oo a l:=by
  intro l
  induction l with
  |nil=>intro a;rfl
  |cons c r ih=>intro a;rw[List.foldl_cons,ih,wn];congr 1;unfold Ov;omega
 exact this l 0
theorem Dr:∀ (l:List UInt8),oo 0 (l.dropWhile (· == 48))=oo 0 l
 | []=>rfl
 |c::l=>by
  rw[Fea]
  cases A:(c==48)with
  |true =>
   rw[if_pos rfl,Dr l,wn];have:c=48:=by simpa using A
   subst this;rfl
  |false=>rfl
theorem Tx{l:List UInt8}(h:l.all (· == 48)=true):oo 0 l=0:=by rw[← Dr,kE h];rfl
def Tj(l:List UInt8):List UInt8:=Hea (l.take (l.length - 1)) 48++l.drop (l.length - 1)
theorem Ux(a b:List UInt8)(k:Nat):oo k (a++b)=oo (oo k a) b:=tI a b k
theorem iI(l:List UInt8):Ru (Tj l)=mr l:=by unfold Tj Ru Hea;rw[Ux,Dr,← Ux,List.take_append_drop,NC];rfl
theorem gK(c:UInt8):Fp c=Ph c:=rfl
theorem BC{p:UInt8→Bool}:∀ {l:List UInt8} {q:UInt8→Bool},l.all p=true→(l.dropWhile q).all p=true
 | [],_,_=>rfl
 |c::l,q,h=>by
  rw[Fea];have A:=h;rw[Uaa,Raa]at A;split;·exact BC A.2
  ·exact h
def UC(l:List UInt8):Int × Int:=if Gea l 48=[]then (0,0)else Nr (Tj l)
theorem tE{l:List UInt8}(O:l≠[])(G:l.all Ph=true)(Y:¬ Gea l 48=[]):∃ c r,Tj l=c::r∧Ph c=true∧(Tj l).all Fp=true∧(c=48→r=[]):=by
 have J:0<l.length:=List.length_pos_iff.2 O
 have A:(Tj l).all Fp=true:=by
  unfold Tj;rw[List.all_append,Raa];have L:(l.take (l.length - 1)).all Ph=true:=by rw[pda]at G ⊢;exact fun x I=>G x (List.mem_of_mem_take I)
  have M:(l.drop (l.length - 1)).all Ph=true:=by rw[pda]at G ⊢;exact fun x I=>G x (List.mem_of_mem_drop I)
  exact⟨BC L,M⟩
 have H:(l.drop (l.length - 1)).length=1:=by rw[List.length_drop];omega
 obtain⟨z,E⟩:∃ z,l.drop (l.length - 1)=[z]:=by
  match l.drop (l.length - 1),H with
  | [z],_=>exact⟨z,rfl⟩
 cases hm:Hea (l.take (l.length - 1)) 48 with
 |nil =>
  have e:Tj l=[z]:=by unfold Tj;rw[hm,E];rfl
  rw[e]at A ⊢
  refine⟨z,[],rfl,?_,A,fun _=>rfl⟩
  simpa[gK]using A
 |cons y Q =>
  have e:Tj l=y::(Q++[z]):=by unfold Tj;rw[hm,E];rfl
  rw[e]at A ⊢
  refine⟨y,_,rfl,?_,A,fun h=>?_⟩
  ·rw[Uaa,Raa]at A;exact A.1
  ·have:=Sz (p:=(· == 48)) hm;rw[h]at this;cases this
theorem FK{c:UInt8}(h:Ph c=true):c≠45:=by intro e;subst e;cases h
theorem gz{l:List UInt8}(Y:l≠[])(Q:l.all Ph=true)(Z:¬ Gea l 48=[]):Nr (Tj l)=if GN (mr l)then ((mr l:Int),0)else (0,4):=by
 obtain⟨c,r,e,O,E,J⟩:=tE Y Q Z;have G:=FK O;have I:Ji (Tj l)=Tj l:=by rw[e,Hm,if_neg G]
 have A:Zn (Tj l)=true:=by
  unfold Zn;rw[I,E];have L:(Tj l).isEmpty=false:=by rw[e];rfl
  rw[L];have M:(decide ((Tj l).head? = some 48)&&!decide (Tj l=[48]))=false:=by
   by_cases h:c=48;·have:=J h;rw[e,this,h];simp
   ·rw[e];simp[h]
  rw[M];rfl
 have H:signed (Tj l)=(mr l:Int):=by unfold signed;rw[I,if_neg (by rw[e];simp only[List.head?_cons,dda];exact G),iI]
 unfold Nr;rw[if_pos A,H]
theorem GL{l:List UInt8}(G:l≠[])(E:l.all Ph=true)(h:mr l≤4294967296):UC l=((mr l:Int),0):=by
 unfold UC;split;·rename_i A;rw[NC,Ru,Tx ((Vx l 48).1 A)];rfl
 ·rename_i A;rw[gz G E A,if_pos];unfold GN;omega
theorem CI{l:List UInt8}(H:l≠[])(G:l.all Ph=true)(h:¬ mr l≤4294967296):UC l=(0,4)∨∃ n:Int,4294967296<n∧n≤9223372036854775807∧UC l=(n,0):=by
 unfold UC;split;·rename_i A;exfalso;rw[NC,Ru,Tx ((Vx l 48).1 A)]at h;exact h Uf
 ·rename_i A;rw[gz H G A];split;·rename_i E;exact .inr ⟨_,by omega,E.2,rfl⟩
  ·exact .inl rfl
def Dt(s:ByteArray)(w:World)(e:Ending)(w':World):Prop:=e = .returned (.tuple #[.int .i64 (Nr s.data.toList).1,.int .i64 (Nr s.data.toList).2])∧Below w.heap.size w w'
theorem Ss{s:ByteArray}{w w':World}{a b:Int}(h:Nr s.data.toList=(a,b))(A:Below w.heap.size w w'):Dt s w (.returned (.tuple #[.int .i64 a,.int .i64 b])) w':=by unfold Dt;rw[h];exact⟨rfl,A⟩
theorem xO{l:List UInt8}(h:Zn l=true)(A:GN (signed l)):Nr l=(signed l,0):=by unfold Nr;rw[if_pos h,if_pos A]
theorem zM{l:List UInt8}(h:Zn l=true)(A:¬ GN (signed l)):Nr l=(0,4):=by unfold Nr;rw[if_pos h,if_neg A]
theorem Mw{l:List UInt8}(h:Zn l=false):Nr l=(0,8):=by unfold Nr;rw[h];rfl
theorem Qx{l:List UInt8}(j:Nat)(h:j<(Ji l).length)(A:Fp (Ji l)[j]=false):Zn l=false:=by
 unfold Zn;have:(Ji l).all Fp=false:=by rw[List.all_eq_false];exact⟨_,List.getElem_mem h,by simp[A]⟩
 rw[this];rfl
theorem Sr(w:World)(s:ByteArray)(p:Nat):Below w.heap.size w (w.iter s p):=(Gaa _ _).alloc (aaa _) _
def dg(s:ByteArray):ByteArray:=⟨(Ji s.data.toList).toArray⟩
theorem oM(s:ByteArray)(w:World)(hs:s.size≤281474976710656)(hE:Xj w):Calls maa 139 #[.string s] w (Dt s w):=by
 have HE:=kaa hE;clear hE;go_enter Tryz.func139,Tryz.ntmps139;go_wp2_with fail;refine(Tryz.strings_TrimPrefix s ⟨#[45]⟩ w).mono ?_;rintro e w1 ⟨rfl,rfl⟩;have hd:ByteArray.mk (Lib.trimPrefix s.data.toList [45]).toArray=dg s:=rfl;have HD:Hid ((dg s).data.toList=Ji s.data.toList):=by simp[dg,Hid]
 show _;rw[show(⟨#[45]⟩:ByteArray).data.toList=[45]from rfl,hd];clear hd;go_wp2_with fail;go_loopw [6] (fun c w'=>∃ pos:Nat,w'=w1.iter (dg s) pos∧pos≤(dg s).size∧∀ j (h:j<pos) (h':j<(dg s).size),Fp (dg s)[j]=true) (fun _ w'=>(dg s).size - w'.iterPos w1.heap.size);case atStart=>exact⟨0,rfl,laa _,fun j h=>absurd h Tf⟩
 case round =>
  obtain⟨pos,rfl,hp,al⟩:=hrel;have HA:=kaa al;clear al;by_cases G:pos<(dg s).size
  ·by_cases Y:48≤((dg s)[pos]'G).toNat∧((dg s)[pos]'G).toNat≤57
   ·have a3:¬ (((dg s)[pos]'G).toNat:Int)<48:=by omega
    have a4:¬ 57<(((dg s)[pos]'G).toNat:Int):=by omega
    have aV:∀ ty,(Zda (.pointer (some ⟨w1.heap.size,0,none⟩)) true ty).run maa (w1.iter (dg s) pos)=_:=fun ty=>run_next_ascii w1 (dg s) pos ty G Tf;have aT:=kaa Y;clear Y;go_wp2;go_roundw;case rel =>
     refine⟨pos+1,rfl,by omega,fun j hj h'=>?_⟩;by_cases a0:j<pos;·exact HA.out j a0 h'
     ·obtain rfl:j=pos:=by omega
      exact(Tq _).2 aT.out
    case measure=>simp;omega
   ·have hr:((Jea (dg s) pos).1:Int)<48∨57<((Jea (dg s) pos).1:Int):=by
     by_cases ha:((dg s)[pos]'G).toNat<128;·rw[decode_ascii _ _ G ha];simp only;omega
     ·have:=(decode_high (dg s) pos G Tf).1;omega
    have HN:=kaa (Mw (Qx (l:=s.data.toList) pos (by have:=congrArg tea HD.out;simp at this;omega) ((YB _).2 (by
     have e:(Ji s.data.toList)[pos]'(by have:=congrArg tea HD.out;simp at this;omega)=(dg s)[pos]'G:=by simp only[← HD.out];rfl
     rw[e];omega))))
    clear Y;have aV:∀ ty,(Zda (.pointer (some ⟨w1.heap.size,0,none⟩)) true ty).run maa (w1.iter (dg s) pos)=_:=fun ty=>run_next_any w1 (dg s) pos ty G;rcases hr with hr|hr
    ·have a6:decide (((Jea (dg s) pos).1:Int)<48)=true:=by simpa using hr
     exact uf
    ·have a5:¬ ((Jea (dg s) pos).1:Int)<48:=by omega
     exact uf
  ·have a2:pos=(dg s).size:=by omega
   subst a2;have aV:∀ ty,(Zda (.pointer (some ⟨w1.heap.size,0,none⟩)) true ty).run maa (w1.iter (dg s) (dg s).size)=_:=fun ty=>run_next_end w1 (dg s) (dg s).size ty G;have ad:(Ji s.data.toList).all Fp=true:=by rw[← HD.out,pda];intro c hc;obtain⟨j,hj,rfl⟩:=List.mem_iff_getElem.1 hc;exact HA.out j (by simpa using hj) (by simpa using hj)
   have Z:(dg s).size=(Ji s.data.toList).length:=by rw[← HD.out];simp
   have O:(dg s).toList=Ji s.data.toList:=(Kea _).trans HD.out;by_cases hz:(dg s).size=0
   ·have hD:Ji s.data.toList=[]:=List.eq_nil_of_length_eq_zero Tf;have HN:=kaa (Mw (l:=s.data.toList) (by unfold Zn;rw[hD];rfl));rw[hD]at O;have aX:(dg s).toList.isEmpty=true:=by rw[O];rfl
    clear ad Z hD hz;exact Pe
   ·have A:0<(dg s).size:=by omega
    have a1:¬ (dg s).toList=[]:=by rw[O];intro e;rw[e]at Z;simp only[List.length_nil]at Z;omega
    have aX:(dg s).toList.isEmpty=false:=by rw[List.isEmpty_eq_false_iff];exact a1
    have af:(Ji s.data.toList).head? = some ((dg s)[0]'A):=by rw[List.head?_eq_getElem?,← HD.out,List.getElem?_eq_getElem (by simpa using A)];rfl
    have aZ:(((dg s)[0]'A).toNat:Int)<256:=by have:=((dg s)[0]'A).toNat_lt;omega
    by_cases E:(((dg s)[0]'A).toNat:Int)=48∧(s.toList==[48])=false
    ·have H:(dg s)[0]'A=48:=Lea.1 (by show((dg s)[0]'A).toNat=48;omega);have av:¬ s.data.toList=[48]:=by have:=E.2;rw[Kea]at this;simpa using this
     have HN:=kaa (Mw (l:=s.data.toList) (by unfold Zn;rw[af,H];simp[av]));have J:(((dg s)[0]'A).toNat:Int)=48:=E.1;have ao:(((((dg s)[0]'A).toNat:Int))==48)=true:=by simpa using J
     have aU:=E.2;clear E ad Z O hz H av af;exact Pe
    ·have I:Zn s.data.toList=true:=by
      unfold Zn;rw[ad,af];have h4:(Ji s.data.toList).isEmpty=false:=by rw[← O];exact aX
      rw[h4];by_cases H:(dg s)[0]'A=48
      ·have:s.data.toList=[48]:=by have h5:¬ (s.toList==[48])=false:=fun h=>E ⟨by rw[H];rfl,h⟩;rw[Kea]at h5;simpa using h5
       simp[this]
      ·simp[H]
     have M:=Fw _ I;have Q:=kaa I;have L:((((dg s)[0]'A).toNat:Int)=48∧(s.toList==[48])=true)∨((((dg s)[0]'A).toNat:Int)==48)=false:=by
      by_cases H:(((dg s)[0]'A).toNat:Int)=48;·exact .inl ⟨H,by have h5:¬ (s.toList==[48])=false:=fun h=>E ⟨H,h⟩;simpa using h5⟩
      ·exact .inr (by rw[beq_eq_false_iff_ne];exact H)
     have HB:=Sr w1 (dg s) (dg s).size;have aY:=kaa (HE.out.below HB);have HBB:=kaa HB;clear E ad Z O hz I af HB;by_cases hI:GN (signed s.data.toList)
     ·rw[if_pos hI]at M;have HPI:=kaa M;have HN:=kaa (xO Q.out hI);clear M hI;rcases L with⟨J,aU⟩|J
      ·have ao:(((((dg s)[0]'A).toNat:Int))==48)=true:=by simpa using J
       exact Ra
      ·exact Ra
     ·rw[if_neg hI]at M;have HPI:=kaa M;have HN:=kaa (zM Q.out hI);clear M hI;obtain⟨tp,p,aW⟩:=aY.out.rng;have HRV:=kaa aW;clear aW;rcases L with⟨J,aU⟩|J
      ·have ao:(((((dg s)[0]'A).toNat:Int))==48)=true:=by simpa using J
       exact Ya
      ·exact Ya
theorem UD(l:List UInt8)(c:UInt8):decide (0≤ica l c)=l.contains c:=by
 induction l with
 |nil=>rfl
 |cons b l ih =>
  unfold ica
  rw[List.contains_cons]
  by_cases h:b=c
  ·subst h;simp
  ·have E:(b==c)=false:=by simpa using h
   have G:(c==b)=false:=by rw[beq_eq_false_iff_ne];exact fun e=>h e.symm
   rw[E,G,Bool.false_or,← ih];have I:=Lib.indexByte_ge l c;by_cases A:ica l c = -1;·simp[A]
   ·have H:(ica l c == -1)=false:=by simpa using A
    rw[H];simp only[Bool.false_eq_true,if_false];rw[decide_eq_decide];omega
theorem ZH(c:UInt8):((c.toNat:Int)).toNat.toUInt8=c:=by rw[Int.toNat_natCast];exact Lea.1 (by show(UInt8.ofNat c.toNat).toNat=c.toNat;simp)
abbrev pA:ByteArray:=⟨#[61,61,32,33,61,32,60,61,32,38,38,32,124,124]⟩
theorem nA:Lib.countB pA ⟨#[32]⟩=4:=by decide +kernel
theorem lA:(Lib.splitB ⟨#[32]⟩ 0 4 pA).map (·.data.toList)=Yr:=by decide +kernel
theorem oA:(Lib.splitB ⟨#[32]⟩ 0 4 pA).map Value.string=Yr.map fun t=>Value.string (vh t):=by rw[← lA,List.map_map];exact pd
theorem ZC(w:World)(m:Int)(hm:w.cell? ⟨0,0,none⟩=some (.int .i64 m)):Calls maa 184 #[.string pA,.string ⟨#[32]⟩] w fun e w'=>e = .returned (.slice (some ⟨w.heap.size,0,none⟩) 5 5)∧w'=w.alloc (.cells (Yr.map fun t=>Value.string (vh t)).toArray 9):=by have h:=Tryz.strings_Split pA ⟨#[32]⟩ m w (by decide +kernel) hm Uf;rw[nA,oA]at h;exact h
theorem kG{l:List UInt8}(h:Yr.any (fun t=>t.isPrefixOf l)=false):∀ (c:UInt8) (r:List UInt8),l=c::r→Gl l=if jH.contains c then 1 else 0:=by rintro c r rfl;unfold Gl;rw[if_neg (by rw[h];simp)]
def Hx(s:ByteArray)(w:World)(e:Ending)(w':World):Prop:=e = .returned (.int .i64 (Gl s.data.toList))∧Below w.heap.size w w'
theorem ZN(s:ByteArray)(hs:s.size≤1000000)(hk:0<s.size)(w:World)(hE:Xj w):Calls maa 142 #[.string s] w (Hx s w):=by
 obtain⟨mm,hm⟩:=hE.mlen;have HM:=kaa hm;have Q:Hid (s.data.toList=(s[0]'hk)::s.data.toList.drop 1):=by exact jf
 clear hE hm;go_enter Tryz.func142,Tryz.ntmps142;go_wp2_with fail;refine(ZC _ mm HM.out).mono ?_;rintro e w1 ⟨rfl,J⟩;have HT:Hid (MF w.heap.size w w1):=by show MF _ _ _;rw[J];exact PC w
 clear J;go_wp2_with fail;go_loopw [7,4] (fun i _ w'=>∃ m:Nat,m≤5∧i = .int .i64 m∧MF w.heap.size w w'∧∀ j,j<m→(tw j).isPrefixOf s.data.toList=false) (fun i _ _=>5 - (intOf i).toNat);case atStart=>exact⟨0,laa _,rfl,HT.out,fun j h=>absurd h Tf⟩
 case round =>
  obtain⟨m,hm,rfl,hw,I⟩:=hrel;have H:=kaa hw;have Y:=kaa I;clear hw I HT;by_cases E:m<5
  ·have hc:=H.out.cell m E;have L:Hid (∀ u:World,Calls maa 78 #[.string s,.string (vh (tw m))] u fun e w'=>e = .returned (.bool ((tw m).isPrefixOf s.data.toList))∧u=w'):=fun u =>
    (Tryz.strings_HasPrefix s (vh (tw m)) u).mono fun _ _ ⟨h1,h2⟩=>⟨by rw[h1,Yi];rfl,h2.symm⟩
   cases G:(tw m).isPrefixOf s.data.toList
   ·have HP:=kaa G;have A:Hid (∀ u:World,Calls maa 78 #[.string s,.string (vh (tw m))] u fun e w'=>e = .returned (.bool false)∧u=w'):=fun u=>by have:=L.out u;rw[G]at this;exact this
    clear G L;go_wp2_with (go_at_call 78;refine(A.out _).mono ?_;rintro e w' ⟨rfl,rfl⟩);go_roundw;case rel =>
     refine⟨m+1,by omega,by go_num,H.out,fun j h=>?_⟩;by_cases hj:j<m;·exact Y.out j hj
     ·obtain rfl:j=m:=by omega
      exact HP.out
    case measure=>simp[intOf];omega
   ·have HF:=kaa (vI E G);have Z:Hid (((vh (tw m)).size:Int)=2):=by
     show _=_;rw[Dh];have:∀ j:Fin 5,(tw j.val).length=2:=by decide
     rw[this ⟨m,E⟩];rfl
    have A:Hid (∀ u:World,Calls maa 78 #[.string s,.string (vh (tw m))] u fun e w'=>e = .returned (.bool true)∧u=w'):=fun u=>by have:=L.out u;rw[G]at this;exact this
    clear G L;go_wp2_with (go_at_call 78;refine(A.out _).mono ?_;rintro e w' ⟨rfl,rfl⟩);go_ret;exact⟨ci (by rw[HF.out,Z.out];rfl),H.out.below⟩
  ·obtain rfl:m=5:=by omega
   have HE:=kaa (kG (tL Y.out) _ _ Q.out);have O:=kaa H.out.below;have HI:Hid (∀ u:World,Calls maa 170 #[.string MN,.int .u8 ((s[0]'hk).toNat)] u fun e w'=>e = .returned (.int .i64 (ica jH (s[0]'hk)))∧u=w'):=fun u =>
    (Tryz.strings_IndexByte MN ((s[0]'hk).toNat) u).mono fun _ _ ⟨h1,h2⟩=>⟨by rw[h1,ZH];rfl,h2.symm⟩
   have ad:((s[0]'hk).toNat:Int)<256:=by have:=(s[0]'hk).toNat_lt;omega
   have M:=kaa (UD jH (s[0]'hk));clear H Y;generalize ica jH (s[0]'hk)=ix at HI M;generalize jH.contains (s[0]'hk)=cx at HE M;cases cx;all_goals have hx:=M.out;clear M;go_wp2_with (go_at_call 170;refine(HI.out _).mono ?_;rintro e w' ⟨rfl,rfl⟩);go_ret;exact⟨ci (by rw[HE.out];rfl),O.out⟩
def lm(t:xh):Value:=.agg #[.int .i64 t.kind,.string (vh t.text),.int .i64 t.n,.int .i64 t.pos]
def TC:(xh × Nat) ⊕ Int→Value
 | .inl (t,_)=>.tuple #[lm t,.int .i64 0]
 | .inr e=>.tuple #[lm ⟨0,[],0,0⟩,.int .i64 e]
def Cm(s:ByteArray)(w:World)(e:Ending)(w':World):Prop:=e = .returned (TC (lj s.data.toList 0))∧Below w.heap.size w w'
theorem km{s:ByteArray}{R:(xh × Nat) ⊕ Int}(A:lj s.data.toList 0=R){w w':World}{v:Value}(G:v=TC R)(E:Below w.heap.size w w'):Cm s w (.returned v) w':=by subst A;subst G;exact⟨rfl,E⟩
theorem Uz(s:ByteArray)(hk:0<s.size):s.data.toList=(s[0]'hk)::s.data.toList.drop 1:=by exact jf
theorem ot(s:ByteArray)(n:Nat):s.extract 0 n=vh (s.data.toList.take n):=by rw[← oz (s.extract 0 n)];congr 1;rw[← Kea,Wl];simp
theorem qo{w w1:World}{o:Obj}(h:Below (w.alloc o).heap.size (w.alloc o) w1)(a b c d:Value) :
 Below w.heap.size w ((((w1.setCell ⟨w.heap.size,0,none⟩ a).setCell ⟨w.heap.size,1,none⟩ b).setCell ⟨w.heap.size,2,none⟩ c).setCell ⟨w.heap.size,3,none⟩ d) :=
 (((((((Gaa _ w).alloc (aaa _) o).trans (h.mono (by rw[World.size_alloc];omega))).setCell (p:=⟨w.heap.size,0,none⟩) (aaa _) a).setCell (p:=⟨w.heap.size,1,none⟩) (aaa _) b).setCell (p:=⟨w.heap.size,2,none⟩) (aaa _) c).setCell (p:=⟨w.heap.size,3,none⟩) (aaa _) d)
theorem lz(s:ByteArray)(hs:s.size≤1000000)(I:0<s.size)(M:si (s[0]'I)=true)(w:World):Calls maa 80 #[.string s] w (Cm s w):=by
 have Z:=kaa (Uz s I);have Q:Hid (∀ u,Calls maa 106 #[.int .u8 (s[0]'I).toNat] u fun e w'=>e = .returned (.bool true)∧u=w'):=fun u=>by rw[← M];exact No _ u
 have Y:=kaa (WL s Tf);have E:=kaa (sA (r:=s.data.toList.drop 1) M 0);have ad:(s.data.toList.takeWhile Xm).length≤s.size:=by have:=Hk Xm s.data.toList;simpa using this
 have J:Hid (s.data.toList.takeWhile Xm=s.data.toList.take (s.data.toList.takeWhile Xm).length):=List.prefix_iff_eq_take.1 (List.takeWhile_prefix _);have L:((s[0]'I).toNat:Int)<256:=by have:=(s[0]'I).toNat_lt;omega
 clear M;rw[← Z.out]at E;by_cases G:(s.data.toList.takeWhile Xm).length≤16
 ·have A:Hid (lj s.data.toList 0 = .inl (⟨1,s.data.toList.takeWhile Xm,0,0⟩,(s.data.toList.takeWhile Xm).length)):=by have:=E.out;rw[if_pos G]at this;exact this
  clear E;generalize O:(s.data.toList.takeWhile Xm).length=n at *;generalize s.data.toList.takeWhile Xm=tw at *;have H:¬ ((16:Int)<(n:Int)):=by omega
  have HX:Hid (s.extract 0 n=vh tw):=by show _=_;rw[ot,← J.out]
  have hX:=HX.out;clear O J;go_enter Tryz.func80,Tryz.ntmps80;go_wp2_with (first|(go_at_call 106;refine(Q.out _).mono ?_;rintro e w' ⟨rfl,rfl⟩)|(go_at_call 76;refine(Y.out _).mono ?_;rintro e w' ⟨rfl,rfl⟩));exact bodyPost_ret (v:=.tuple #[lm ⟨1,tw,0,0⟩,.int .i64 0]) (by simp[results,Tryz.results80,go_sem,lm]) rfl (km A.out rfl ((Gaa _ _).alloc (aaa _) _))
 ·have A:Hid (lj s.data.toList 0 = .inr 2):=by have:=E.out;rw[if_neg G]at this;exact this
  clear E;generalize O:(s.data.toList.takeWhile Xm).length=n at *;have H:((16:Int)<(n:Int)):=by omega
  clear O J;go_enter Tryz.func80,Tryz.ntmps80;go_wp2_with (first|(go_at_call 106;refine(Q.out _).mono ?_;rintro e w' ⟨rfl,rfl⟩)|(go_at_call 76;refine(Y.out _).mono ?_;rintro e w' ⟨rfl,rfl⟩));exact bodyPost_ret (v:=.tuple #[lm ⟨0,[],0,0⟩,.int .i64 2]) (by simp[results,Tryz.results80,go_sem,lm];rfl) rfl (km A.out rfl ((Gaa _ _).alloc (aaa _) _))
theorem RC(s:ByteArray)(hs:s.size≤1000000)(A:0<s.size)(hl:si (s[0]'A)=false)(I:Ph (s[0]'A)=false)(w:World)(hE:Xj w):Calls maa 80 #[.string s] w (Cm s w):=by
 have HD:=kaa (Uz s A);have HL:Hid (∀ u,Calls maa 106 #[.int .u8 (s[0]'A).toNat] u fun e w'=>e = .returned (.bool false)∧u=w'):=fun u=>by rw[← hl];exact No _ u
 have J:Hid (∀ u,Calls maa 109 #[.int .u8 (s[0]'A).toNat] u fun e w'=>e = .returned (.bool false)∧u=w'):=fun u=>by rw[← I];exact pt _ u
 have L:=kaa (aG (r:=s.data.toList.drop 1) hl I 0);have Q:=kaa (fun u O=>ZN s hs A u O);have av:Gl s.data.toList≤s.size:=by have:=DA s.data.toList;simpa using this
 have Z:((s[0]'A).toNat:Int)<256:=by have:=(s[0]'A).toNat_lt;omega
 have HE:=kaa (hE.below ((Gaa _ w).alloc (aaa _) (.cells #[.int .i64 0,.string ByteArray.empty,.int .i64 0,.int .i64 0] 66)));clear hl I hE;rw[← HD.out]at L;by_cases M:Gl s.data.toList=0
 ·have E:Hid (lj s.data.toList 0 = .inr 3):=by have:=L.out;rw[if_pos M]at this;exact this
  have G:Hid (∀ u:World,Xj u→Calls maa 142 #[.string s] u fun e w'=>e = .returned (.int .i64 0)∧Below u.heap.size u w'):=fun u O=>by have:=Q.out u O;unfold Hx at this;rw[M]at this;exact this
  clear L Q M av;go_enter Tryz.func80,Tryz.ntmps80;go_wp2_with (first|(go_at_call 106;refine(HL.out _).mono ?_;rintro e w' ⟨rfl,rfl⟩)|(go_at_call 109;refine(J.out _).mono ?_;rintro e w' ⟨rfl,rfl⟩)|(go_at_call 142;refine(G.out _ HE.out).mono ?_;rintro e w1 ⟨rfl,H⟩;obtain⟨hz,hc0,hc1,hc2,hc3,ad,af,al,ao⟩:=Cl H;have Y:=kaa H;clear H));exact bodyPost_ret (v:=.tuple #[lm ⟨0,[],0,0⟩,.int .i64 3]) qg rfl (km E.out rfl (qo Y.out _ _ _ _))
 ·have E:Hid (lj s.data.toList 0 = .inl (⟨3,s.data.toList.take (Gl s.data.toList),0,0⟩,Gl s.data.toList)):=by have:=L.out;rw[if_neg M]at this;exact this
  generalize hn:Gl s.data.toList=n at *;have G:Hid (∀ u:World,Xj u→Calls maa 142 #[.string s] u fun e w'=>e = .returned (.int .i64 n)∧Below u.heap.size u w'):=fun u O=>by have:=Q.out u O;unfold Hx at this;rw[hn]at this;exact this
  have HX:=kaa (ot s n);have aT:((n:Int)==0)=false:=by rw[beq_eq_false_iff_ne];omega
  generalize s.data.toList.take n=tx at *;have hX:=HX.out;clear L Q M hn;go_enter Tryz.func80,Tryz.ntmps80;go_wp2_with (first|(go_at_call 106;refine(HL.out _).mono ?_;rintro e w' ⟨rfl,rfl⟩)|(go_at_call 109;refine(J.out _).mono ?_;rintro e w' ⟨rfl,rfl⟩)|(go_at_call 142;refine(G.out _ HE.out).mono ?_;rintro e w1 ⟨rfl,H⟩;obtain⟨hz,hc0,hc1,hc2,hc3,ad,af,al,ao⟩:=Cl H;have Y:=kaa H;clear H));exact bodyPost_ret (v:=.tuple #[lm ⟨3,tx,0,0⟩,.int .i64 0]) qg rfl (km E.out rfl (qo Y.out _ _ _ _))
end Go.Proofs.YtjcihcncljihoaaGreatDoor

/- Chapter 05 (programs), joined: ParD, ParE, PalG, PalI, PalJ. -/
import Derived.Test.YtjcihcncljihoaaGreatDoorPb05
set_option maxRecDepth 100000
set_option maxHeartbeats 20000000
namespace Go.Proofs.YtjcihcncljihoaaGreatDoor
open Go Go.RowKit
set_option linter.unusedVariables false
open Cj renaming below→Hba,belowB→Pba,drew→Kba,drewN→Jba,set1→Iba
open Ex renaming flat→Naa
open Go.Lib renaming hid→kaa
open Go.Region renaming wanted→xba
open Go.RowKit.Below renaming mono→Oba,refl→Gaa,size→Nba,trans→Lba
open Go.World renaming alloc→Fba,drewN→Eba,size_alloc→gba,size_setCell→wba
open Hj renaming new→qba
open Kh renaming cells→lba
open List renaming getElem_mem→dba,length_cons→jaa
open Nat renaming le_of_lt→nba,le_refl→aaa,le_succ→sba,le_succ_of_le→vba,le_trans→yba,lt_of_lt_of_le→mba,lt_succ_of_lt→uba,lt_succ_self→rba,succ_le_of_lt→tba
open uh renaming alloc→Dba,drew→Cba,drewN→Bba,of→zba,refl→Aba,set→Gba,trans→Mba
open Go.Proofs.Tryz renaming prog→maa
theorem La{P:Prop}(h:P:=by
 refine oj (.agg #[.slice none 0 0,.int .i64 0,.int .i64 e1,.int .i64 p1]) rfl ?_ ?_;·have hS:=ni (bt (al _ _) hb1) (Nat.le_refl _) (.slice none 0 0) (.int .i64 0) (.int .i64 e1) (.int .i64 p1);refine⟨hS.alloc hS.size _,none,0,0,0,e1,p1,rfl,?_⟩;rw[HZ.out];exact⟨rfl,rfl,rfl,rfl⟩
 ·simp[results,Tryz.results193,go_sem,r0,r1,r2,r3,rl]):P:=h
theorem Ua{P:Prop}(h:P:=by
 refine oj (.agg #[.slice none 0 0,.int .i64 0,.int .i64 7,.int .i64 (Ch l i)]) rfl ?_ ?_;·exact⟨ni (bt (al _ _) hb1) (Nat.le_refl _) _ _ _ _,none,0,0,0,7,Ch l i,rfl,rfl,rfl,rfl,rfl⟩
 ·simp[results,Tryz.results193,go_sem,r0,r1,r2,r3]):P:=h
theorem Lb{P:Prop}(h:P:=by go_wp2_with fail;go_ret;exact⟨hkw6,A6,_,c6,a5,e5,p5,rfl,hp6,((yB hown6).2.mono (Nat.le_succ_of_le (Nat.le_succ _))),sL hi hk0 hv5 hnlen hnle (yB hown6).1⟩):P:=h
theorem Sb{P:Prop}(h:P:=by have:=Ps (W.alloc O) (W.heap.size+1) (by rw[World.size_alloc];exact Nat.le_refl _) ⟨o,0,[],ps⟩;rw[World.size_alloc]at this;exact this):P:=h
theorem fc{P:Prop}(h:P:=by have:=Tu l (by omega) i [c] _ u (HT.out u hu);unfold Vk at this;rw[hb]at this;exact this.mono fun _ _ ⟨h1,h2⟩=>⟨h1,h2.symm⟩):P:=h
theorem vc{P:Prop}(h:P:=by exact(uh.size (g:=g) (by repeat (first|exact HKP.out|refine uh.drewN ?_ _|refine uh.drew ?_|refine uh.alloc ?_ _)))):P:=h
theorem Yc{P:Prop}(h:P:=by
 rcases Nat.lt_or_ge b w.heap.size with hlt|hge;·exact hlt
 ·rw[Array.getElem?_eq_none hge]at hh;cases hh):P:=h
theorem qd{P:Prop}(h:P:=by (repeat (first|exact hkw5|refine uh.drewN ?_ _|refine uh.drew ?_|refine uh.alloc ?_ _))):P:=h
theorem Dd{P:Prop}(h:P:=by have:=ZI l (by omega) i [c] _ w' h;unfold Vk at this;rw[hb]at this;exact this):P:=h
theorem Ed{P:Prop}(h:P:=by simp[results,Tryz.results193,go_sem,r0,r1,r2,r3,rl]):P:=h
theorem Nd{P:Prop}(h:P:=by (repeat (first|exact uh.refl _ _|refine uh.drewN ?_ _|refine uh.drew ?_))):P:=h
theorem Qd{P:Prop}(h:P:=by simp[results,Tryz.results152,go_sem,r0,r1,r2,r3]):P:=h
theorem Sd{P:Prop}(h:P:=by simp[results,Tryz.results193,go_sem,r0,r1,r2,r3]):P:=h
theorem Yd{P:Prop}(h:P:=by (repeat (first|exact HKP.out|refine uh.drewN ?_ _|refine uh.drew ?_))):P:=h
theorem Zd{P:Prop}(h:P:=by rw[HZ.out];exact⟨rfl,rfl,by omega,by omega,[],Sl.nil _ _ _,by simp⟩):P:=h
theorem be{P:Prop}(h:P:=by
 cases h2:Qh l i [40];·rfl
 ·have:=(bj h2).1;rw[ht]at this;cases this):P:=h
theorem ce{P:Prop}(h:P:=by (repeat (first|exact HP5.out|refine Cj.drewN ?_ _|refine Cj.drew ?_))):P:=h
theorem Le{P:Prop}(h:P:=by rw[VE (by omega)];exact kD l hl v _ i u hv (by omega)):P:=h
theorem ef{P:Prop}(h:P:=by
 cases b33;·exact(bj h45).1
 ·exact(bj h33).1):P:=h
theorem Gf{P:Prop}(h:P:=by rw[HZ.out];exact⟨rfl,rfl,rfl,rfl⟩):P:=h
theorem If{P:Prop}(h:P:=by rw[if_neg (by omega)]at this;exact this):P:=h
theorem Jf{P:Prop}(h:P:=by show bi w v 4 _ _;rw[e1,e2];exact h2):P:=h
theorem jg{P:Prop}(h:P:=by rfl):P:=h
theorem lg{P:Prop}(h:P:=by repeat (first|exact HKP.out|refine uh.drewN ?_ _|refine uh.drew ?_|refine uh.alloc ?_ _)):P:=h
theorem Ig{P:Prop}(h:P:=by rw[World.size_alloc];omega):P:=h
theorem Mg{P:Prop}(h:P:=by trivial):P:=h
theorem Yg{P:Prop}(h:P:=by show w.heap.size<_;omega):P:=h
theorem fh{P:Prop}(h:P:=by unfold Gt;rw[h33,h45];decide):P:=h
theorem wy(n:Nat)(h:n<5):0<(Rh n).length:=by
 match n,h with
 |0,_=>decide
 |1,_=>decide
 |2,_=>decide
 |3,_=>decide
 |4,_=>decide
theorem yy{n:Nat}{l:List xh}{t:Nat}(h:∀ j (G:j<(Rh n).length),Qh l t (sg ((Rh n)[j]))=false):opAt n l t=0:=by
 by_cases A:opAt n l t=0;·exact A
 ·have:=Lk A;obtain⟨j,G,e⟩:=List.mem_iff_getElem.1 this.1;have E:=h j G;rw[e,this.2]at E;cases E
theorem yh{w:World}{E:Nat}{e:TypeId}{size:Nat}{v:Value}{n:Nat}{G:List Value}(h:w.ownsRow E e size v n G):∃ A c,v = .slice A n c:=by
 rcases h.2 with⟨rfl,rfl⟩|⟨g,cap,cur,rfl,_⟩;·exact⟨_,_,rfl⟩
 ·exact⟨_,_,rfl⟩
def Xy(f:Nat→Dm)(n:Nat)(l:List xh):Dm→Dm
 | .inl (x,t)=>PD f n l x t
 | .inr e=>.inr e
theorem mo{B:Nat}{a w:World}(h:Below B a w):Below B a w.drew:=⟨h.os,h.tape,h.output,h.size,h.block⟩
structure kR (l:List xh) (f:Nat→Dm) (n:Nat) (R:Dm) (u:World) (gx:Nat) (wr:World):Prop where
 below:Below u.heap.size u wr
 res:Hj wr u.heap.size (.slice none 0 0) (.int .i64 0) (.int .i64 0) (.int .i64 0)
 cur:∃ (A:Option Addr) (k c:Nat) (t e p:Int) (r:Dm),Hj wr gx (.slice A k c) (.int .i64 t) (.int .i64 e) (.int .i64 p)∧Ur (u.heap.size+1) wr r (.slice A k c) t e p ∧
  R=Xy f n l r∧(∀ x t,r = .inl (x,t)→t≤l.length∧x.flat.length≤t)∧(∀ e p,r = .inr (e,p)→1≤e)
theorem Hj.belowB{w w':World}{B g:Nat}{a b c d:Value}(h:Hj w g a b c d)(hb:Below B w w')(hlt:g<B):Hj w' g a b c d:=by have E:=hb.size;have A:=h.lt;exact Ma
theorem nI{B C:Nat}{a b c:World}(h:Below B a b)(k:Below C b c)(A:B≤C):Below B a c:=h.trans (k.mono A)
theorem aF{w:World}{A:Nat}{v:Value}{nd:Kh}{x y:Ex}(h:w.ownsRow A 46 4 v (1+x.flat.length+y.flat.length) ((lba nd++x.flat.flatMap lba)++y.flat.flatMap lba)):Wh w v (Ex.two nd x y).flat∧dj A v:=by
 refine⟨?_,dj.own h⟩;have h2:=Ti h;have e1:(Ex.two nd x y).flat.length=1+x.flat.length+y.flat.length:=by simp only[Naa,jaa,List.length_append];omega
 have e2:(Ex.two nd x y).flat.flatMap lba=(lba nd++x.flat.flatMap lba)++y.flat.flatMap lba:=by simp[Naa]
 exact Jf
theorem XA(l:List xh)(hl:l.length≤100000)(v:Value)(k d m n:Nat)(hd:d+k=12)(hn:m+1+n=5)(lZ:∀ (i:Nat) (u:World),Vi u v l→Calls maa 152 #[v,.int .i64 i,.int .i64 d,.int .i64 ((n:Int)+1)] u (gn (Dj (ti l k) l m i) u))(i:Nat)(u:World)(hv:Vi u v l):Calls maa 152 #[v,.int .i64 i,.int .i64 d,.int .i64 n] u (gn (Dj (ti l k) l (m+1) i) u):=by
 obtain⟨i0,hi,kY,kZ,k8⟩:=info_parts dt;obtain⟨Av,cv,pV,qY⟩:=hv.shape;subst pV;have mW:oL l (Dj (ti l k) l m):=Nk (Kk l k) m;have HR:Hid (Dj (ti l k) l (m+1) i=Xy (Dj (ti l k) l m) n l (Dj (ti l k) l m i)):=by
  have e:4 - m=n:=by omega
  show _=_
  rw[Dj,e]
  cases Dj (ti l k) l m i with
  |inl r=>rfl
  |inr e=>rfl
 have HC:=kaa (lZ i _ (hv.below (al u (.cells #[.slice none 0 0,.int .i64 0,.int .i64 0,.int .i64 0] 164))));have rY:((n:Int)==5)=false:=by rw[beq_eq_false_iff_ne];omega
 have oT:Hid (∀ i x t,Dj (ti l k) l m i = .inl (x,t)→t≤l.length∧x.flat.length≤t):=fun i x t h=>by have:=mW.good i x t h;exact⟨this.2.1,by omega⟩
 have j5:=kaa mW;have HF:=kaa lZ;clear mW lZ;have oS:Hid (∀ i e p,Dj (ti l k) l m i = .inr (e,p)→1≤e):=fun i e p h=>(j5.out.bad i e p h).1;generalize Dj (ti l k) l (m+1) i=R at HR;go_enter Tryz.func152,Tryz.ntmps152;go_wp2_with (go_at_call 152;refine(HC.out).mono ?_;rintro e w1 ⟨kT,A1,n1,c1,t1,e1,p1,rfl,nX⟩);go_loopw [10,11,12,13] (fun _ _ _ _ wr=>kR l (Dj (ti l k) l m) n R u w1.heap.size wr) (fun _ _ _ _ wr=>l.length - (intOf ((wr.cell? ⟨w1.heap.size,1,none⟩).getD (.int .i64 0))).toNat);case atStart =>have hb:=bt (al _ _) kT;exact⟨bt hb (al _ _),((qba u _ _ _ _ _).below kT).below (al _ _),A1,n1,c1,t1,e1,p1,_,qba _ _ _ _ _ _,(nX.below (al _ _)).mono Ig,HR.out,fun x t h=>oT.out _ _ _ h,fun e p h=>oS.out _ _ _ h⟩
 case round =>
  rename World=>wo
  obtain⟨hb,g9,A,kk,c,t,e,p,r,iZ,f7,hR,i5,iY⟩:=hrel
  match r,f7,hR,i5,iY with
  | .inr (e2,p2),f7,hR,i5,iY =>
   obtain⟨hA,rfl,rfl,rfl⟩:=f7;have qZ:=iY _ _ rfl;have he:(e==0)=false:=by rw[beq_eq_false_iff_ne];omega
   cases hA;obtain⟨ml,m0,m1,m2,m3,I,J,L,M⟩:=iZ;have pT:=g9;obtain⟨rl,r0,r1,r2,r3,jS,jT,jU,jV⟩:=g9;go_wp2_with fail;refine oj (.agg #[.slice none 0 0,.int .i64 0,.int .i64 e,.int .i64 p]) rfl ?_ ?_;·refine⟨ni hb (aaa _) _ _ _ _,none,0,0,0,e,p,rfl,?_⟩;rw[hR];exact⟨rfl,rfl,rfl,rfl⟩
   ·exact Qd
  | .inl (x,G),f7,hR,i5,iY =>
   obtain⟨rfl,rfl,rfl,lW,oX⟩:=f7;obtain⟨rZ,sU⟩:=i5 _ _ rfl;have HV:=kaa hv;have HB:=kaa hb;have gU:=kaa g9;have H:=kaa iZ;have HN:=kaa lW;have l8:Hid (R=PD (Dj (ti l k) l m) n l x G):=hR;obtain⟨ml,m0,m1,m2,m3,I,J,L,M⟩:=iZ;have qS:=xy n;have lS:Hid (∀ w':World,Calls maa 194 #[.int .i64 n] w' fun e w2=>∃ v,e = .returned v∧yE w2 v (Rh n)∧Below w'.heap.size w' w2):=fun w'=>mO n Tf w';have m7:=kaa ml;have j9:Hid (u.heap.size<w1.heap.size):=by have:=kT.size;rw[gba]at this;show _<_;omega
   clear hR i5 iY hb g9 lW hv HC HR kT nX f7;go_wp2_with fail;clear ml m0 m1 m2 m3 I J L M;go_loopw [10,11] (fun op kv wr2=>Below wo.heap.size wo wr2∧∃ j:Nat,j≤(Rh n).length∧kv = .int .i64 j∧((op = .int .i64 0∧∀ j' (hj:j'<(Rh n).length),j'<j→Qh l G (sg ((Rh n)[j']))=false)∨(op = .int .i64 (opAt n l G)∧opAt n l G≠0))) (fun _ kv _=>(Rh n).length - (intOf kv).toNat);case atStart=>exact⟨Gaa _ _,0,Nat.zero_le _,rfl,.inl ⟨rfl,fun j' _ h=>absurd h Tf⟩⟩
   case round =>
    obtain⟨gV,j,hj,rfl,nW⟩:=hrel;have gT:=kaa gV;have l7:=kaa nW;clear nW;have m4:wr.cell? ⟨w1.heap.size,1,none⟩=some (.int .i64 G):=(gV.cell (p:=⟨w1.heap.size,1,none⟩) m7.out).trans H.out.c1;have mS:Hid (∀ w',Below wr.heap.size wr w'→w'.cell? ⟨w1.heap.size,1,none⟩=some (.int .i64 G)):=fun w' hb=>(hb.cell (p:=⟨w1.heap.size,1,none⟩) (mba m7.out gT.out.size)).trans m4;by_cases kW:j<(Rh n).length
    ·have ho:=Mo n _ (dba kW);have f9:Hid (∀ w':World,Calls maa 194 #[.int .i64 n] w' fun e w2=>∃ b off c,e = .returned (.slice (some ⟨b,off,none⟩) (Rh n).length c)∧(Rh n).length≤c∧b<w2.heap.size∧w2.cell? ⟨b,off+j,none⟩=some (.int .i64 ((Rh n)[j]:Int))∧Below w'.heap.size w' w2):=fun w'=>(lS.out w').mono (by rintro e w2 ⟨v2,rfl,mY,gV⟩;obtain⟨b,off,c,rfl,hc,i7,nT⟩:=mY.at_ Tf;exact⟨b,off,c,rfl,hc,i7,nT j kW,gV⟩);have l9:Hid (∀ w':World,Calls maa 174 #[.int .i64 ((Rh n)[j]:Int)] w' fun e w2=>e = .returned (.string (vh (sg (Rh n)[j])))∧Below w'.heap.size w' w2):=fun w'=>vz _ Tf w';have j6:Hid (∀ w':World,Below wr.heap.size wr w'→Calls maa 92 #[.slice Av l.length cv,.int .i64 G,.string (vh (sg (Rh n)[j]))] w' fun e w2=>e = .returned (.bool (Qh l G (sg (Rh n)[j])))∧w'=w2):=fun w' hb=>ZI l Tf G _ _ w' (((HV.out.below HB.out).below gT.out).below hb);have m8:Hid (Qh l G (sg (Rh n)[j])=false→∀ j' (hj:j'<(Rh n).length),j'<j+1→(∀ j' (hj:j'<(Rh n).length),j'<j→Qh l G (sg ((Rh n)[j']))=false)→Qh l G (sg ((Rh n)[j']))=false):=fun h j' i6 i7 h2=>by
      by_cases o8:j'<j;·exact h2 j' i6 o8
      ·obtain rfl:j'=j:=by omega
       exact h
     have g7:Hid (Qh l G (sg (Rh n)[j])=true→opAt n l G=(Rh n)[j]):=fun o7=>Fz (dba kW) o7;have p9:=kW;generalize Qh l G (sg (Rh n)[j])=bb at j6 m8 g7;generalize (Rh n)[j]=o at f9 l9 j6 ho g7;generalize sg o=so at l9 j6;clear gV m4;go_upto_region 9 with(go_at_call 194;refine(f9.out _).mono ?_;rintro e w3 ⟨b3,qU,c3,rfl,qW,rV,nY,kU⟩);have r9:=mS.out _ kU;go_cut [45] (fun s wx=>s = .bool bb∧Below wr.heap.size wr wx);case first =>
      go_region_with (first
       |(go_at_call 194;refine(f9.out _).mono ?_;rintro e w4 ⟨b4,iU,c4,rfl,kV,rW,nZ,Q⟩;have kX:Below wr.heap.size wr w4:=(by first|exact bt kU Q|exact bt (mo kU) Q|exact bt (mo (mo kU)) Q);have sS:=mS.out _ kX)
       |(go_at_call 174;refine(l9.out _).mono ?_;rintro e w5 ⟨rfl,fZ⟩;have E:Below wr.heap.size wr w5:=(by first|exact bt kX fZ|exact bt (mo kX) fZ|exact bt (mo (mo kX)) fZ);have sT:=mS.out _ E)
       |(go_at_call 92;refine(j6.out _ (by first|exact E|exact mo E|exact mo (mo E))).mono ?_;rintro e w6 ⟨rfl,rfl⟩))
      all_goals go_wp2_with fail;go_meet;exact⟨rfl,by first|exact E|exact mo E|exact mo (mo E)⟩
     case rest =>
      obtain⟨rfl,hq⟩:=hcut;cases bb
      ·go_wp2_with fail;go_roundw;case rel =>
        refine⟨bt gT.out hq,j+1,by omega,by go_num,?_⟩;rcases l7.out with⟨h1,h2⟩|h2;·exact .inl ⟨h1,fun j' i6 i7=>m8.out Mg j' i6 i7 h2⟩
        ·exact .inr h2
       case measure=>simp[intOf];omega
      ·go_wp2_with (go_at_call 194;refine(f9.out _).mono ?_;rintro e w7 ⟨b7,qV,c7,rfl,qX,rX,n9,gY⟩);go_roundw;case rel =>refine⟨bt gT.out (bt hq gY),j+1,by omega,by go_num,?_⟩;exact .inr ⟨by rw[g7.out Mg],by rw[g7.out Mg];omega⟩
       case measure=>simp[intOf];omega
    ·have f9:Hid (∀ w':World,Calls maa 194 #[.int .i64 n] w' fun e w2=>∃ b off c,e = .returned (.slice (some ⟨b,off,none⟩) (Rh n).length c)∧(Rh n).length≤c∧Below w'.heap.size w' w2):=fun w'=>(lS.out w').mono (by rintro e w2 ⟨v2,rfl,mY,gV⟩;obtain⟨b,off,c,rfl,hc,i7,nT⟩:=mY.at_ (wy n Tf);exact⟨b,off,c,rfl,hc,gV⟩);have rU:j=(Rh n).length:=by omega
     clear gV m4;rcases l7.out with⟨rfl,hno⟩|⟨rfl,hne⟩
     ·have HZ:Hid (R = .inl (x,G)):=l8.out.trans (Vs (yy fun j' i6=>hno j' i6 Tf));clear hno;go_wp2_with (go_at_call 194;refine(f9.out _).mono ?_;rintro e w4 ⟨b4,iU,c4,rfl,kV,Q⟩;have hq:=bt gT.out Q;obtain⟨ml,m0,m1,m2,m3,I,J,L,M⟩:=H.out.below hq;obtain⟨rl,r0,r1,r2,r3,jS,jT,jU,jV⟩:=gU.out.below hq);refine oj (.agg #[.slice A kk c,.int .i64 G,.int .i64 0,.int .i64 0]) rfl ?_ ?_;·refine⟨ni (bt HB.out hq) (aaa _) _ _ _ _,A,kk,c,G,0,0,rfl,?_⟩;rw[HZ.out];have pU:Ur (u.heap.size+1) wo (.inl (x,G)) (.slice A kk c) G 0 0:=⟨rfl,rfl,rfl,HN.out,oX⟩;exact((pU.below hq).away4 (rba _) _ _ _ _).mono (sba _)
      ·exact Qd
     ·have lV:=Mq hne;have i8:=Mo n _ (Lk hne).1;have lX:((opAt n l G:Int)==0)=false:=by rw[beq_eq_false_iff_ne];omega
      have HY:Hid (∀ (w':World),Vi w' (.slice Av l.length cv) l→Calls maa 152 #[.slice Av l.length cv,.int .i64 ((G:Int)+1),.int .i64 d,.int .i64 ((n:Int)+1)] w' (gn (Dj (ti l k) l m (G+1)) w')):=fun w' h=>HF.out (G+1) w' h;have mX:=j5.out.good (G+1);have mV:=j5.out.bad (G+1);cases hy:Dj (ti l k) l m (G+1)with
      |inr ep =>
       obtain⟨ey,py⟩:=ep;have oW:=mV _ _ hy;have q9:(ey==0)=false:=by rw[beq_eq_false_iff_ne];omega
       have HZ:Hid (R = .inr (ey,py)):=l8.out.trans (Jz hne hy);rw[hy]at HY;clear mX mV hy oW hne i8;generalize opAt n l G=o at lX;go_wp2_with (first
        |(go_at_call 194;refine(f9.out _).mono ?_;rintro e w4 ⟨b4,iU,c4,rfl,kV,Q⟩;have hq:=bt gT.out Q;obtain⟨ml,m0,m1,m2,m3,I,J,L,M⟩:=H.out.below hq)
        |(go_at_call 152;refine(HY.out _ ((HV.out.below HB.out).below hq)).mono ?_;rintro e w5 ⟨fZ,A5,n5,c5,t5,e5,p5,rfl,i9⟩;obtain⟨oU,rfl,rfl,rfl⟩:=i9;cases oU;obtain⟨rl,r0,r1,r2,r3,jS,jT,jU,jV⟩:=gU.out.below (bt hq fZ)))
       have nS:=bt (bt HB.out hq) fZ;refine oj (.agg #[.slice none 0 0,.int .i64 0,.int .i64 e5,.int .i64 p5]) rfl ?_ ?_;·refine⟨(ni nS (aaa _) _ _ _ _).alloc (by simp only[World.setCell,Array.size_modify];exact nS.size) _,none,0,0,0,e5,p5,rfl,?_⟩;exact Gf
       ·simp[results,Tryz.results152,go_sem,r0,r1,r2,r3,rl]
      |inl yt =>
       obtain⟨y,t3⟩:=yt;have hg:=mX _ _ hy;have HZ:Hid (R=if n=2 then .inl (.two ⟨opAt n l G,0,[],(tk l G).pos⟩ x y,t3)else PD (Dj (ti l k) l m) n l (.two ⟨opAt n l G,0,[],(tk l G).pos⟩ x y) t3):=l8.out.trans (Ws j5.out hne hy);rw[hy]at HY;obtain⟨rS,oY,rT,oZ⟩:=hg;clear mX mV hy hne i8 oZ;obtain⟨kS,lY,ct,hE,oV,mU,lU⟩:=HV.out.at_ Tf;cases hE;have gZ:=(lU G lV).pos;rw[← rj lV]at gZ;have iV:Hid (∀ w',Below u.heap.size u w'→w'.cell? ⟨kS,lY+G*4+3,none⟩=some (.int .i64 (tk l G).pos)):=fun w' hb=>(hb.cell (p:=⟨kS,lY+G*4+3,none⟩) mU).trans gZ;clear lU gZ oV;generalize opAt n l G=o at lX HZ l7;generalize (tk l G).pos=ps at iV HZ;have lT:Hid (∀ (W:World) (O:Obj),((W.alloc O).alloc (.cells #[.int .i64 o,.int .i64 0,.string ⟨#[]⟩,.int .i64 ps] 46)).ownsRow (W.heap.size+1) 46 4 (.slice (some ⟨W.heap.size+1,0,none⟩) 1 1) 1 (lba ⟨o,0,[],ps⟩)):=fun W O=>by exact Sb
       have m9:Hid (∀ (W:World) (O N:Obj),W.heap.size+1≤((W.alloc O).alloc N).heap.size):=fun W O N=>by rw[gba,gba];omega
       have j7:Hid (1+x.flat.length≤maxLen∧(1+x.flat.length)*40≤140737488355328):=by show _∧_;unfold maxLen;constructor<;>omega
       have j8:Hid (1+x.flat.length+y.flat.length≤maxLen∧(1+x.flat.length+y.flat.length)*40≤140737488355328):=by show _∧_;unfold maxLen;constructor<;>omega
       have qT:¬ (u.heap.size=w1.heap.size):=Nat.ne_of_lt j9.out;have iT:¬ (w1.heap.size=u.heap.size):=Nat.ne_of_gt j9.out;cases nV:((n:Int)==2)
       ·have mT:Hid (R=PD (Dj (ti l k) l m) n l (.two ⟨o,0,[],ps⟩ x y) t3):=by show _=_;rw[HZ.out,if_neg (by intro e;subst e;simp at nV)]
        go_wp2_with (first
         |(go_at_call 194;refine(f9.out _).mono ?_;rintro e w4 ⟨b4,iU,c4,rfl,kV,Q⟩;have hq:=bt gT.out Q;obtain⟨ml,m0,m1,m2,m3,I,J,L,M⟩:=H.out.below hq)
         |(go_at_call 152;refine(HY.out _ ((HV.out.below HB.out).below hq)).mono ?_;rintro e w5 ⟨fZ,A5,n5,c5,t5,e5,p5,rfl,i9⟩;obtain⟨rfl,rfl,rfl,mZ,nU⟩:=i9;clear ml m0 m1 m2 m3 I J L M;have E:=bt hq fZ;obtain⟨ml,m0,m1,m2,m3,I,J,L,M⟩:=H.out.below E;have pS:=iV.out _ (bt HB.out E);have o9:kS<w5.heap.size:=mba mU (bt HB.out E).size)
         |(at_builtin;refine Gk rfl _ _ 42 rfl (w5.heap.size+1) 46 i0 _ 4 40 Tryz.underlying42 hi kY kZ k8 rfl Uf _ 1 _ rfl (lT.out w5 (.cells #[.slice A5 n5 c5,.int .i64 t3,.int .i64 0,.int .i64 0] 164)) _ x.flat.length _ rfl (((HN.out.below E).below (al _ _)).below (al _ _)) (ol _) j7.out.1 j7.out.2 (m9.out _ _ _) ?_;intro v6 w6 Y iX;obtain⟨A6,c6,rfl⟩:=yh Y;obtain⟨yl,y0,y1,y2,y3,jW,jX,jY,jZ⟩:=(((qba w5 (.slice A5 n5 c5) (.int .i64 t3) (.int .i64 0) (.int .i64 0) 164).below (al _ _)).belowB iX (rba _));have iW:Below w5.heap.size w5 w6:=nI (bt (al _ _) (al _ _)) iX (sba _))
         |(at_builtin;refine Gk rfl _ _ 42 rfl (w5.heap.size+1) 46 i0 _ 4 40 Tryz.underlying42 hi kY kZ k8 rfl Uf _ (1+x.flat.length) _ rfl Y _ y.flat.length _ rfl (mZ.below iW) (ol _) j8.out.1 j8.out.2 (tba yl) ?_;intro v7 w7 Z gY;obtain⟨A7,c7,rfl⟩:=yh Z;obtain⟨zl,z0,z1,z2,z3,pW,pX,pY,pZ⟩:=(Hj.belowB ⟨yl,y0,y1,y2,y3,jW,jX,jY,jZ⟩ gY (rba _));have gW:Below w5.heap.size w5 w7:=nI iW gY (sba _);clear ml m0 m1 m2 m3 I J L M;obtain⟨ml,m0,m1,m2,m3,I,J,L,M⟩:=(H.out.below E).below gW;obtain⟨rl,r0,r1,r2,r3,jS,jT,jU,jV⟩:=(gU.out.below E).below gW;clear y0 y1 y2 y3 jW jX jY jZ))
        have hz:=aF (nd:=⟨o,0,[],ps⟩) Z;have hB:=bt (bt HB.out E) gW;go_roundw;case rel =>
         refine⟨ni hB (nba j9.out) _ _ _ _,?_,?_⟩;·exact(((Hj.mk rl r0 r1 r2 r3 jS jT jU jV).away iT 0 _).away iT 1 _ |>.away iT 2 _).away iT 3 _
         ·refine⟨A7,_,c7,t3,0,0,.inl (.two ⟨o,0,[],ps⟩ x y,t3),(Hj.mk ml m0 m1 m2 m3 I J L M).set _ _ _ _,⟨rfl,rfl,rfl,?_,?_⟩,mT.out,?_,?_⟩;·exact hz.1.away4 hz.2 (uba (H.out.below E).lt) _ _ _ _
          ·exact hz.2.mono (Nat.succ_le_succ (bt HB.out E).size)
          ·intro x2 sV e;cases e;refine⟨oY,?_⟩;exact Qe
          ·intro e p h;cases h
        case measure =>have e1:(wo.cell? ⟨w1.heap.size,1,none⟩)=some (.int .i64 G):=H.out.c1;have e2:=((Hj.mk ml m0 m1 m2 m3 I J L M).set (.slice A7 (1+x.flat.length+y.flat.length) c7) (.int .i64 t3) (.int .i64 0) (.int .i64 0)).c1;rw[e1,e2];simp[intOf];omega
       ·have mT:Hid (R = .inl (.two ⟨o,0,[],ps⟩ x y,t3)):=by show _=_;rw[HZ.out,if_pos (by have:=eq_of_beq nV;omega)]
        go_wp2_with (first
         |(go_at_call 194;refine(f9.out _).mono ?_;rintro e w4 ⟨b4,iU,c4,rfl,kV,Q⟩;have hq:=bt gT.out Q;obtain⟨ml,m0,m1,m2,m3,I,J,L,M⟩:=H.out.below hq)
         |(go_at_call 152;refine(HY.out _ ((HV.out.below HB.out).below hq)).mono ?_;rintro e w5 ⟨fZ,A5,n5,c5,t5,e5,p5,rfl,i9⟩;obtain⟨rfl,rfl,rfl,mZ,nU⟩:=i9;clear ml m0 m1 m2 m3 I J L M;have E:=bt hq fZ;obtain⟨ml,m0,m1,m2,m3,I,J,L,M⟩:=H.out.below E;have pS:=iV.out _ (bt HB.out E);have o9:kS<w5.heap.size:=mba mU (bt HB.out E).size)
         |(at_builtin;refine Gk rfl _ _ 42 rfl (w5.heap.size+1) 46 i0 _ 4 40 Tryz.underlying42 hi kY kZ k8 rfl Uf _ 1 _ rfl (lT.out w5 (.cells #[.slice A5 n5 c5,.int .i64 t3,.int .i64 0,.int .i64 0] 164)) _ x.flat.length _ rfl (((HN.out.below E).below (al _ _)).below (al _ _)) (ol _) j7.out.1 j7.out.2 (m9.out _ _ _) ?_;intro v6 w6 Y iX;obtain⟨A6,c6,rfl⟩:=yh Y;obtain⟨yl,y0,y1,y2,y3,jW,jX,jY,jZ⟩:=(((qba w5 (.slice A5 n5 c5) (.int .i64 t3) (.int .i64 0) (.int .i64 0) 164).below (al _ _)).belowB iX (rba _));have iW:Below w5.heap.size w5 w6:=nI (bt (al _ _) (al _ _)) iX (sba _))
         |(at_builtin;refine Gk rfl _ _ 42 rfl (w5.heap.size+1) 46 i0 _ 4 40 Tryz.underlying42 hi kY kZ k8 rfl Uf _ (1+x.flat.length) _ rfl Y _ y.flat.length _ rfl (mZ.below iW) (ol _) j8.out.1 j8.out.2 (tba yl) ?_;intro v7 w7 Z gY;obtain⟨A7,c7,rfl⟩:=yh Z;obtain⟨zl,z0,z1,z2,z3,pW,pX,pY,pZ⟩:=(Hj.belowB ⟨yl,y0,y1,y2,y3,jW,jX,jY,jZ⟩ gY (rba _));have gW:Below w5.heap.size w5 w7:=nI iW gY (sba _);clear ml m0 m1 m2 m3 I J L M;obtain⟨ml,m0,m1,m2,m3,I,J,L,M⟩:=(H.out.below E).below gW;obtain⟨rl,r0,r1,r2,r3,jS,jT,jU,jV⟩:=(gU.out.below E).below gW;clear y0 y1 y2 y3 jW jX jY jZ))
        have hz:=aF (nd:=⟨o,0,[],ps⟩) Z;have hB:=bt (bt HB.out E) gW;refine oj (.agg #[.slice A7 (1+x.flat.length+y.flat.length) c7,.int .i64 t3,.int .i64 0,.int .i64 0]) rfl ?_ ?_
        ·refine⟨ni (ni hB (nba j9.out) _ _ _ _) (aaa _) _ _ _ _,A7,_,c7,t3,0,0,rfl,?_⟩;rw[mT.out];refine⟨rfl,rfl,rfl,?_,?_⟩;·exact(hz.1.away4 hz.2 (uba (H.out.below E).lt) _ _ _ _).away4 hz.2 (uba (gU.out.below E).lt) _ _ _ _
         ·exact hz.2.mono (vba (bt HB.out E).size)
        ·exact Qd
theorem kD(l:List xh)(O:l.length≤100000)(v:Value)(d:Int)(i:Nat)(u:World)(E:Vi u v l)(hi:l.length≤i):Calls maa 193 #[v,.int .i64 i,.int .i64 d] u (gn (.inr (6,Ch l i)) u):=by
 obtain⟨H,I,G,M⟩:=E.shape;subst G;have J:Hid (∀ w',Vi w' (.slice H l.length I) l→Calls maa 224 #[.slice H l.length I,.int .i64 i,.int .i64 6] w' fun e w2=>e = .returned (.agg #[.slice none 0 0,.int .i64 0,.int .i64 6,.int .i64 (Ch l i)])∧Below w'.heap.size w' w2):=fun w' h=>by have:=Cz l O i 6 _ w' h;rw[if_pos hi]at this;exact this
 have L:=kaa E;have hd:decide ((l.length:Int)≤(i:Int))=true:=by simp;omega
 clear E;go_enter Tryz.func193,Tryz.ntmps193;go_wp2_with (go_at_call 224;refine(J.out _ (L.out.below (al _ _))).mono ?_;rintro e w1 ⟨rfl,A⟩;obtain⟨rl,Q,Y,Z,r3,sW,sX,sY,sZ⟩:=(qba u _ _ _ _ _).below A);refine oj (.agg #[.slice none 0 0,.int .i64 0,.int .i64 6,.int .i64 (Ch l i)]) rfl ?_ ?_;·exact⟨ni (bt (al _ _) A) (aaa _) _ _ _ _,none,0,0,0,6,Ch l i,rfl,rfl,rfl,rfl,rfl⟩
 ·simp[results,Tryz.results193,go_sem,Q,Y,Z,r3]
theorem Zw{l:List xh}{i:Nat}(h:Qh l i [33]=true):Qh l i [45]=false∧Qh l i [40]=false:=by
 have ht:=(bj h).1;constructor
 ·cases h2:Qh l i [45];·rfl
  ·have:=(bj h2).1;rw[ht]at this;cases this
 ·exact be
theorem sF{l:List xh}{i:Nat}(h:Qh l i [45]=true):Qh l i [33]=false∧Qh l i [40]=false:=by
 have ht:=(bj h).1;constructor
 ·cases h2:Qh l i [33];·rfl
  ·have:=(bj h2).1;rw[ht]at this;cases this
 ·exact be
theorem PA(l:List xh)(hl:l.length≤100000)(v:Value)(i:Nat)(u:World)(hv:Vi u v l)(hi:i<l.length)(Y:(Gt l i||Nx l i)=true):Calls maa 193 #[v,.int .i64 i,.int .i64 12] u (gn (.inr (7,Ch l i)) u):=by
 obtain⟨O,Q,s9,tW⟩:=hv.shape;subst s9;have HB:Hid (∀ w',Vi w' (.slice O l.length Q) l→Calls maa 224 #[.slice O l.length Q,.int .i64 i,.int .i64 7] w' fun e w2=>e = .returned (.agg #[.slice none 0 0,.int .i64 0,.int .i64 7,.int .i64 (Ch l i)])∧Below w'.heap.size w' w2):=fun w' h=>by have:=Cz l hl i 7 _ w' h;exact If
 have I:∀ (c:UInt8) (b:Bool),Qh l i [c]=b→Hid (∀ w',Vi w' (.slice O l.length Q) l→Calls maa 92 #[.slice O l.length Q,.int .i64 i,.string ⟨#[c]⟩] w' fun e w2=>e = .returned (.bool b)∧w'=w2):=fun c b hb w' h=>by exact Dd
 have J:=kaa hv;have hd:decide ((l.length:Int)≤(i:Int))=false:=by simp;omega
 clear hv;have M:(Qh l i [33]=true∧Qh l i [40]=false)∨(Qh l i [33]=false∧Qh l i [45]=true∧Qh l i [40]=false)∨(Qh l i [33]=false∧Qh l i [45]=false∧Qh l i [40]=true):=by
  cases h1:Qh l i [33]
  ·cases h2:Qh l i [45];·refine .inr (.inr ⟨rfl,rfl,?_⟩);simp only[Gt,Nx,h1,h2,Bool.false_or]at Y;exact Y
   ·exact .inr (.inl ⟨rfl,rfl,(sF h2).2⟩)
  ·exact .inl ⟨rfl,(Zw h1).2⟩
 rcases M with⟨A,E⟩|⟨A,L,E⟩|⟨A,L,E⟩
 ·have G:=I 33 _ A;have H:=I 40 _ E;clear I A E Y;go_enter Tryz.func193,Tryz.ntmps193;go_wp2_with (first
   |(go_at_call 224;refine(HB.out _ (J.out.below (al _ _))).mono ?_;rintro e w1 ⟨rfl,hb1⟩;obtain⟨rl,r0,r1,r2,r3,tS,tT,tU,tV⟩:=(qba u _ _ _ _ _).below hb1)
   |(go_at_call_of 92 (Value.string ⟨#[33]⟩);refine(G.out _ (J.out.below (al _ _))).mono ?_;rintro e w' ⟨rfl,rfl⟩)
   |(go_at_call_of 92 (Value.string ⟨#[40]⟩);refine(H.out _ (J.out.below (al _ _))).mono ?_;rintro e w' ⟨rfl,rfl⟩))
  exact Ua
 all_goals
  have G:=I 33 _ A;have Z:=I 45 _ L;have H:=I 40 _ E;clear I A E L Y;go_enter Tryz.func193,Tryz.ntmps193;go_wp2_with (first
   |(go_at_call 224;refine(HB.out _ (J.out.below (al _ _))).mono ?_;rintro e w1 ⟨rfl,hb1⟩;obtain⟨rl,r0,r1,r2,r3,tS,tT,tU,tV⟩:=(qba u _ _ _ _ _).below hb1)
   |(go_at_call_of 92 (Value.string ⟨#[33]⟩);refine(G.out _ (J.out.below (al _ _))).mono ?_;rintro e w' ⟨rfl,rfl⟩)
   |(go_at_call_of 92 (Value.string ⟨#[45]⟩);refine(Z.out _ (J.out.below (al _ _))).mono ?_;rintro e w' ⟨rfl,rfl⟩)
   |(go_at_call_of 92 (Value.string ⟨#[40]⟩);refine(H.out _ (J.out.below (al _ _))).mono ?_;rintro e w' ⟨rfl,rfl⟩))
  exact Ua
theorem CB(W:World)(x:Kh):Wh (W.alloc (.cells #[.int .i64 x.op,.int .i64 x.n,.string (vh x.name),.int .i64 x.pos] 46)) (.slice (some ⟨W.heap.size,0,none⟩) 1 1) [x] :=
 Ti (Ps W W.heap.size (aaa _) x)
theorem Mk(B b o n c:Nat)(h:B≤b):dj B (.slice (some ⟨b,o,none⟩) n c):=fun A m k e=>by cases e;exact h
theorem Cu(l:List xh)(hl:l.length≤100000)(uT:∀ t∈l,t.text.length≤1000000)(v:Value)(d:Int)(i:Nat)(u:World)(hv:Vi u v l)(hi:i<l.length)(t7:Qh l i [33]=false)(t9:Qh l i [45]=false)(t8:Qh l i [40]=false):Calls maa 193 #[v,.int .i64 i,.int .i64 d] u (gn (Fk l i) u):=by
 obtain⟨Z,E,ct,rfl,uY,tX,tZ⟩:=hv.at_ Tf;have G:=tZ i hi;have t6:Hid ((tk l i).text.length≤1000000):=by rw[rj hi];exact uT _ (dba hi)
 rw[← rj hi]at G;have hk:=G.kind;have hx:=G.text;have hn:=G.n;have hp:=G.pos;clear G tZ uY uT;have HB:Hid (∀ w',Vi w' (.slice (some ⟨Z,E,none⟩) l.length ct) l→Calls maa 224 #[.slice (some ⟨Z,E,none⟩) l.length ct,.int .i64 i,.int .i64 5] w' fun e w2=>e = .returned (.agg #[.slice none 0 0,.int .i64 0,.int .i64 5,.int .i64 (Ch l i)])∧Below w'.heap.size w' w2):=fun w' h=>by have:=Cz l hl i 5 _ w' h;exact If
 have HI:∀ (c:UInt8),Qh l i [c]=false→Hid (∀ w',Vi w' (.slice (some ⟨Z,E,none⟩) l.length ct) l→Calls maa 92 #[.slice (some ⟨Z,E,none⟩) l.length ct,.int .i64 i,.string ⟨#[c]⟩] w' fun e w2=>e = .returned (.bool false)∧w'=w2):=fun c hb w' h=>by exact Dd
 have O:=HI 33 t7;have Y:=HI 45 t9;have Q:=HI 40 t8;have A:=kaa hv;have hd:decide ((l.length:Int)≤(i:Int))=false:=by simp;omega
 have M:Hid (Fk l i=if (tk l i).kind=2 then .inl (.leaf ⟨1,(tk l i).n,[],(tk l i).pos⟩,i+1)else if (tk l i).kind=1∧Hh (tk l i).text=true then .inl (.leaf ⟨2,0,(tk l i).text,(tk l i).pos⟩,i+1)else .inr (5,Ch l i)):=rfl;clear HI t7 t8 t9 hv;generalize Fk l i=R at M;generalize tk l i=t at t6 hk hx hn hp M;by_cases I:t.kind=2
 ·have uZ:(t.kind==2)=true:=by rw[beq_iff_eq];exact I
  have HZ:Hid (R = .inl (.leaf ⟨1,t.n,[],t.pos⟩,i+1)):=by show _=_;rw[M.out,if_pos I]
  clear M;go_enter Tryz.func193,Tryz.ntmps193;go_wp2_with (first
   |(go_at_call_of 92 (Value.string ⟨#[33]⟩);refine(O.out _ (A.out.below (al _ _))).mono ?_;rintro e w' ⟨rfl,rfl⟩)
   |(go_at_call_of 92 (Value.string ⟨#[45]⟩);refine(Y.out _ (A.out.below (al _ _))).mono ?_;rintro e w' ⟨rfl,rfl⟩)
   |(go_at_call_of 92 (Value.string ⟨#[40]⟩);refine(Q.out _ (A.out.below (al _ _))).mono ?_;rintro e w' ⟨rfl,rfl⟩))
  go_region;go_wp2_with fail;refine oj (.agg #[.slice (some ⟨u.heap.size+1,0,none⟩) 1 1,.int .i64 ((i:Int)+1),.int .i64 0,.int .i64 0]) rfl ?_ ?_;·refine⟨mo (bt (al _ _) (al _ _)),some ⟨u.heap.size+1,0,none⟩,1,1,(i:Int)+1,0,0,rfl,?_⟩;rw[HZ.out];refine⟨rfl,rfl,rfl,?_,Mk _ _ _ _ _ (sba _)⟩;have:=CB (u.alloc (.cells #[.slice (some ⟨u.heap.size+1,0,none⟩) 1 1,.int .i64 ((i:Int)+1),.int .i64 0,.int .i64 0] 164)) ⟨1,t.n,[],t.pos⟩;rw[gba]at this;exact this.below (mo (Gaa _ _))
  ·simp[results,Tryz.results193,go_sem]
 ·have uZ:(t.kind==2)=false:=by rw[beq_eq_false_iff_ne];exact I
  by_cases tY:t.kind=1
  ·have uS:(t.kind==1)=true:=by rw[beq_iff_eq];exact tY
   have HN:Hid (∀ w',Calls maa 94 #[.string (vh t.text)] w' (Gj t.text w')):=fun w'=>QE t.text t6.out w';unfold Gj at HN;cases J:Hh t.text
   ·have HZ:Hid (R = .inr (5,Ch l i)):=by show _=_;rw[M.out,if_neg I,if_neg (by rw[J];simp)]
    rw[J]at HN;clear M J;go_enter Tryz.func193,Tryz.ntmps193;go_wp2_with (first
   |(go_at_call_of 92 (Value.string ⟨#[33]⟩);refine(O.out _ (A.out.below (al _ _))).mono ?_;rintro e w' ⟨rfl,rfl⟩)
   |(go_at_call_of 92 (Value.string ⟨#[45]⟩);refine(Y.out _ (A.out.below (al _ _))).mono ?_;rintro e w' ⟨rfl,rfl⟩)
   |(go_at_call_of 92 (Value.string ⟨#[40]⟩);refine(Q.out _ (A.out.below (al _ _))).mono ?_;rintro e w' ⟨rfl,rfl⟩)
     |(go_at_call 94;refine(HN.out _).mono ?_;rintro e w1 ⟨rfl,H⟩)
     |(go_at_call 224;refine(HB.out _ (A.out.below (bt (al _ _) H))).mono ?_;rintro e w2 ⟨rfl,L⟩;obtain⟨rl,r0,r1,r2,r3,uU,uV,uW,uX⟩:=((qba u _ _ _ _ _).below H).below L))
    refine oj (.agg #[.slice none 0 0,.int .i64 0,.int .i64 5,.int .i64 (Ch l i)]) rfl ?_ ?_
    ·refine⟨ni (bt (bt (al _ _) H) L) (aaa _) _ _ _ _,none,0,0,0,5,Ch l i,rfl,?_⟩;exact Gf
    ·exact Sd
   ·have HZ:Hid (R = .inl (.leaf ⟨2,0,t.text,t.pos⟩,i+1)):=by show _=_;rw[M.out,if_neg I,if_pos ⟨tY,J⟩]
    rw[J]at HN;clear M J;go_enter Tryz.func193,Tryz.ntmps193;go_wp2_with (first
   |(go_at_call_of 92 (Value.string ⟨#[33]⟩);refine(O.out _ (A.out.below (al _ _))).mono ?_;rintro e w' ⟨rfl,rfl⟩)
   |(go_at_call_of 92 (Value.string ⟨#[45]⟩);refine(Y.out _ (A.out.below (al _ _))).mono ?_;rintro e w' ⟨rfl,rfl⟩)
   |(go_at_call_of 92 (Value.string ⟨#[40]⟩);refine(Q.out _ (A.out.below (al _ _))).mono ?_;rintro e w' ⟨rfl,rfl⟩)
     |(go_at_call 94;refine(HN.out _).mono ?_;rintro e w1 ⟨rfl,H⟩;have hB:=bt (al _ _) H;obtain⟨rl,r0,r1,r2,r3,uU,uV,uW,uX⟩:=((qba u _ _ _ _ _).below H);replace hx:=(hB.cell (p:=⟨_,_,none⟩) tX).trans hx;replace hp:=(hB.cell (p:=⟨_,_,none⟩) tX).trans hp;replace tX:=mba tX hB.size))
    go_region
    go_wp2_with fail
    refine oj (.agg #[.slice (some ⟨w1.heap.size,0,none⟩) 1 1,.int .i64 ((i:Int)+1),.int .i64 0,.int .i64 0]) rfl ?_ ?_
    ·have hS:=ni hB (aaa _) (.slice (some ⟨w1.heap.size,0,none⟩) 1 1) (.int .i64 ((i:Int)+1)) (.int .i64 0) (.int .i64 0);refine⟨mo (hS.alloc hS.size _),some ⟨w1.heap.size,0,none⟩,1,1,(i:Int)+1,0,0,rfl,?_⟩;rw[HZ.out];refine⟨rfl,rfl,rfl,?_,Mk _ _ _ _ _ (nba rl)⟩;have:=CB ((((w1.setCell ⟨u.heap.size,0,none⟩ (.slice (some ⟨w1.heap.size,0,none⟩) 1 1)).setCell ⟨u.heap.size,1,none⟩ (.int .i64 ((i:Int)+1))).setCell ⟨u.heap.size,2,none⟩ (.int .i64 0)).setCell ⟨u.heap.size,3,none⟩ (.int .i64 0)) ⟨2,0,t.text,t.pos⟩;simp only[wba]at this;exact this.below (mo (Gaa _ _))
    ·exact Ed
  ·have uS:(t.kind==1)=false:=by rw[beq_eq_false_iff_ne];exact tY
   have HZ:Hid (R = .inr (5,Ch l i)):=by show _=_;rw[M.out,if_neg I,if_neg (fun h=>tY h.1)]
   clear M;go_enter Tryz.func193,Tryz.ntmps193;go_wp2_with (first
   |(go_at_call_of 92 (Value.string ⟨#[33]⟩);refine(O.out _ (A.out.below (al _ _))).mono ?_;rintro e w' ⟨rfl,rfl⟩)
   |(go_at_call_of 92 (Value.string ⟨#[45]⟩);refine(Y.out _ (A.out.below (al _ _))).mono ?_;rintro e w' ⟨rfl,rfl⟩)
   |(go_at_call_of 92 (Value.string ⟨#[40]⟩);refine(Q.out _ (A.out.below (al _ _))).mono ?_;rintro e w' ⟨rfl,rfl⟩)
    |(go_at_call 224;refine(HB.out _ (A.out.below (al _ _))).mono ?_;rintro e w2 ⟨rfl,L⟩;obtain⟨rl,r0,r1,r2,r3,uU,uV,uW,uX⟩:=(qba u _ _ _ _ _).below L))
   refine oj (.agg #[.slice none 0 0,.int .i64 0,.int .i64 5,.int .i64 (Ch l i)]) rfl ?_ ?_;·refine⟨ni (bt (al _ _) L) (aaa _) _ _ _ _,none,0,0,0,5,Ch l i,rfl,?_⟩;exact Gf
   ·exact Sd
theorem uM{w:World}{A:Nat}{v:Value}{nd:Kh}{x:Ex}(h:w.ownsRow A 46 4 v (1+x.flat.length) (lba nd++x.flat.flatMap lba)):Wh w v (Ex.one nd x).flat∧dj A v:=by
 refine⟨?_,dj.own h⟩;have h2:=Ti h;have e1:(Ex.one nd x).flat.length=1+x.flat.length:=by simp only[Naa,jaa];omega
 have e2:(Ex.one nd x).flat.flatMap lba=lba nd++x.flat.flatMap lba:=by simp[Naa]
 exact Jf
theorem oy(l:List xh)(hl:l.length≤100000)(v:Value)(d k:Nat)(yV:d<12)(i:Nat)(u:World)(hv:Vi u v l)(hi:i<l.length)(b33:Bool)(h33:Qh l i [33]=b33)(h45:Qh l i [45]=!b33)(HP:∀ (u:World),Vi u v l→Calls maa 193 #[v,.int .i64 ((i:Int)+1),.int .i64 ((d:Int)+1)] u (gn (ti l k (i+1)) u)):Calls maa 193 #[v,.int .i64 i,.int .i64 d] u (gn (ti l (k+1) i) u):=by
 obtain⟨i0,xW,xZ,yS,yT⟩:=info_parts dt
 obtain⟨wT,M,ct,rfl,xU,H,J⟩:=hv.at_ Tf
 have G:=J i hi
 rw[← rj hi]at G
 have hx:=G.text
 have hp:=G.pos
 clear G J xU
 have wU:Qh l i [40]=false:=by
  cases b33;·exact(sF h45).2
  ·exact(Zw h33).2
 have HI:∀ (c:UInt8) (b:Bool),Qh l i [c]=b→Hid (∀ w',Vi w' (.slice (some ⟨wT,M,none⟩) l.length ct) l→Calls maa 92 #[.slice (some ⟨wT,M,none⟩) l.length ct,.int .i64 i,.string ⟨#[c]⟩] w' fun e w2=>e = .returned (.bool b)∧w'=w2):=fun c b hb w' h=>by exact Dd
 have vY:=HI 33 _ h33
 have v8:=HI 45 _ h45
 have vZ:=HI 40 _ wU
 have I:=kaa hv
 have E:=kaa HP
 have hd:decide ((l.length:Int)≤(i:Int))=false:=by simp;omega
 have yW:((d:Int)==12)=false:=by rw[beq_eq_false_iff_ne];omega
 have wY:Gt l i=true:=by unfold Gt;rw[h33,h45];cases b33<;>rfl
 have hR:ti l (k+1) i=match ti l k (i+1)with|.inr e=>.inr e|.inl (x,yU)=>.inl (.one ⟨if (tk l i).text=[45]then 3 else 4,0,[],(tk l i).pos⟩ x,yU):=by rw[ti,if_neg Tf,if_pos wY];cases ti l k (i+1)<;>rfl
 have vT:(tk l i).text=if b33 then [33]else [45]:=by exact ef
 have xY:((vh (tk l i).text).toList==[45])=!b33:=by rw[vT];rw[Ah];cases b33<;>rfl
 have wX:(if (tk l i).text=[45]then (3:Int)else 4)=if b33 then 4 else 3:=by rw[vT];cases b33<;>rfl
 rw[wX]at hR
 have HR:=kaa hR
 have Y:=Kk l k
 have Z:=Y.good (i+1)
 have Q:=Y.bad (i+1)
 clear HI h33 wU h45 hv HP wX vT hR Y wY
 generalize ti l (k+1) i=R at HR
 generalize (tk l i).text=tx at hx xY
 generalize (tk l i).pos=ps at hp HR
 cases L:ti l k (i+1)with
 |inr ep =>
  obtain⟨ey,py⟩:=ep
  have xV:=Q _ _ L
  have yX:(ey==0)=false:=by rw[beq_eq_false_iff_ne];omega
  have HZ:Hid (R = .inr (ey,py)):=by have:=HR.out;rw[L]at this;exact this
  rw[L]at E
  clear Z Q L xV HR
  cases b33
  all_goals
   go_enter Tryz.func193,Tryz.ntmps193;go_wp2_with (first
    |(go_at_call_of 92 (Value.string ⟨#[33]⟩);refine(vY.out _ (I.out.below (al _ _))).mono ?_;rintro e w' ⟨rfl,rfl⟩)
    |(go_at_call_of 92 (Value.string ⟨#[45]⟩);refine(v8.out _ (I.out.below (al _ _))).mono ?_;rintro e w' ⟨rfl,rfl⟩)
    |(go_at_call_of 92 (Value.string ⟨#[40]⟩);refine(vZ.out _ (I.out.below (al _ _))).mono ?_;rintro e w' ⟨rfl,rfl⟩)
    |(go_at_call 193;refine(E.out _ (I.out.below (al _ _))).mono ?_;rintro e w1 ⟨hb1,A1,n1,c1,t1,e1,p1,rfl,vS⟩;obtain⟨xT,rfl,rfl,rfl⟩:=vS;cases xT;obtain⟨rl,r0,r1,r2,r3,vU,vV,vW,vX⟩:=(qba u _ _ _ _ _).below hb1))
   exact La
 |inl yt =>
  obtain⟨x,t3⟩:=yt
  have hg:=Z _ _ L
  have HZ:Hid (R = .inl (.one ⟨if b33 then 4 else 3,0,[],ps⟩ x,t3)):=by have:=HR.out;rw[L]at this;exact this
  rw[L]at E
  have v9:Hid (1+x.flat.length≤maxLen∧(1+x.flat.length)*40≤140737488355328):=by show _∧_;unfold maxLen;constructor<;>omega
  have xS:Hid (∀ (W:World) (O N:Obj),W.heap.size+1≤((W.alloc O).alloc N).heap.size):=fun W O N=>by rw[gba,gba];omega
  have wS:Hid (∀ (o:Int) (W:World) (O:Obj),((W.alloc O).alloc (.cells #[.int .i64 o,.int .i64 0,.string ⟨#[]⟩,.int .i64 ps] 46)).ownsRow (W.heap.size+1) 46 4 (.slice (some ⟨W.heap.size+1,0,none⟩) 1 1) 1 (lba ⟨o,0,[],ps⟩)):=fun o W O=>by exact Sb
  clear Z Q L HR hg
  cases b33
  all_goals
   go_enter Tryz.func193,Tryz.ntmps193;go_wp2_with (first
    |(go_at_call_of 92 (Value.string ⟨#[33]⟩);refine(vY.out _ (I.out.below (al _ _))).mono ?_;rintro e w' ⟨rfl,rfl⟩)
    |(go_at_call_of 92 (Value.string ⟨#[45]⟩);refine(v8.out _ (I.out.below (al _ _))).mono ?_;rintro e w' ⟨rfl,rfl⟩)
    |(go_at_call_of 92 (Value.string ⟨#[40]⟩);refine(vZ.out _ (I.out.below (al _ _))).mono ?_;rintro e w' ⟨rfl,rfl⟩)
    |(go_at_call 193;refine(E.out _ (I.out.below (al _ _))).mono ?_;rintro e w1 ⟨hb1,A1,n1,c1,t1,e1,p1,rfl,vS⟩;obtain⟨rfl,rfl,rfl,xX,yY⟩:=vS;have hB:=bt (al _ _) hb1;obtain⟨rl,r0,r1,r2,r3,vU,vV,vW,vX⟩:=(qba u _ _ _ _ _).below hb1;replace hx:=(hB.cell (p:=⟨_,_,none⟩) H).trans hx;replace hp:=(hB.cell (p:=⟨_,_,none⟩) H).trans hp;replace H:=mba H hB.size)
    |(at_builtin;refine Gk rfl _ _ 42 rfl (w1.heap.size+1) 46 i0 _ 4 40 Tryz.underlying42 xW xZ yS yT rfl Uf _ 1 _ rfl (wS.out _ w1 _) _ x.flat.length _ rfl ((xX.below (al _ _)).below (al _ _)) (ol _) v9.out.1 v9.out.2 (xS.out _ _ _) ?_;intro v6 w6 A wW;obtain⟨A6,c6,rfl⟩:=yh A;obtain⟨yl,y0,y1,y2,y3,yZ,zS,zT,zU⟩:=(((qba w1 (.slice A1 n1 c1) (.int .i64 t3) (.int .i64 0) (.int .i64 0) 164).below (al _ _)).belowB wW (rba _));have wV:Below w1.heap.size w1 w6:=nI (bt (al _ _) (al _ _)) wW (sba _);clear r0 r1 r2 r3 vU vV vW vX;have wZ:=rl;obtain⟨rl,r0,r1,r2,r3,vU,vV,vW,vX⟩:=((qba u _ _ _ _ _).below hb1).below wV))
   have hz:=uM A;have hS:=ni (Ui (o:=0) (bt hB wV) (nba wZ) (.slice A6 (1+x.flat.length) c6)) (aaa _) (.slice A6 (1+x.flat.length) c6) (.int .i64 t3) (.int .i64 0) (.int .i64 0);refine oj (.agg #[.slice A6 (1+x.flat.length) c6,.int .i64 t3,.int .i64 0,.int .i64 0]) rfl ?_ ?_;·refine⟨hS,A6,_,c6,t3,0,0,rfl,?_⟩;rw[HZ.out];refine⟨rfl,rfl,rfl,?_,hz.2.mono Tf⟩;exact bi.away4 (bi.away hz.1 hz.2 (rba _) 0 _) hz.2 (uba wZ) _ _ _ _
   ·exact Sd
theorem OA(l:List xh)(hl:l.length≤100000)(v:Value)(d k:Nat)(BY:d<12)(i:Nat)(u:World)(hv:Vi u v l)(hi:i<l.length)(zZ:Qh l i [33]=false)(AT:Qh l i [45]=false)(AS:Qh l i [40]=true)(HF:∀ (u:World),Vi u v l→Calls maa 152 #[v,.int .i64 ((i:Int)+1),.int .i64 ((d:Int)+1),.int .i64 0] u (gn (Dj (ti l k) l 5 (i+1)) u)):Calls maa 193 #[v,.int .i64 i,.int .i64 d] u (gn (ti l (k+1) i) u):=by
 obtain⟨H,A,ct,rfl,BW,BZ,AV⟩:=hv.at_ Tf
 clear AV BW
 have HI:∀ (c:UInt8) (b:Bool),Qh l i [c]=b→Hid (∀ w',Vi w' (.slice (some ⟨H,A,none⟩) l.length ct) l→Calls maa 92 #[.slice (some ⟨H,A,none⟩) l.length ct,.int .i64 i,.string ⟨#[c]⟩] w' fun e w2=>e = .returned (.bool b)∧w'=w2):=fun c b hb w' h=>by exact Dd
 have zW:=HI 33 _ zZ
 have zY:=HI 45 _ AT
 have zX:=HI 40 _ AS
 have G:=kaa hv
 have J:=kaa HF
 have hd:decide ((l.length:Int)≤(i:Int))=false:=by simp;omega
 have B6:((d:Int)==12)=false:=by rw[beq_eq_false_iff_ne];omega
 have AY:¬ Gt l i=true:=by unfold Gt;rw[zZ,AT];decide
 have hR:ti l (k+1) i=match Dj (ti l k) l 5 (i+1)with|.inr e=>.inr e|.inl (x,zV)=>if Qh l zV [41]=true then .inl (x,zV+1)else .inr (if l.length≤zV then 6 else 5,Ch l zV):=by rw[ti,if_neg Tf,if_neg AY,if_pos (show Nx l i=true from AS)];cases Dj (ti l k) l 5 (i+1)<;>rfl
 have HR:=kaa hR
 have AU:=Nk (Kk l k) 5
 have Z:=AU.good (i+1)
 have Q:=AU.bad (i+1)
 clear HI zZ AS AT hv HF hR AU AY
 generalize ti l (k+1) i=R at HR
 cases hy:Dj (ti l k) l 5 (i+1)with
 |inr ep =>
  obtain⟨ey,py⟩:=ep
  have BX:=Q _ _ hy
  have B7:(ey==0)=false:=by rw[beq_eq_false_iff_ne];omega
  have HZ:Hid (R = .inr (ey,py)):=by have:=HR.out;rw[hy]at this;exact this
  rw[hy]at J
  clear Z Q hy BX HR
  go_enter Tryz.func193,Tryz.ntmps193
  go_wp2_with (first
   |(go_at_call_of 92 (Value.string ⟨#[33]⟩);refine(zW.out _ (G.out.below (al _ _))).mono ?_;rintro e w' ⟨rfl,rfl⟩)
   |(go_at_call_of 92 (Value.string ⟨#[45]⟩);refine(zY.out _ (G.out.below (al _ _))).mono ?_;rintro e w' ⟨rfl,rfl⟩)
   |(go_at_call_of 92 (Value.string ⟨#[40]⟩);refine(zX.out _ (G.out.below (al _ _))).mono ?_;rintro e w' ⟨rfl,rfl⟩)
   |(go_at_call 152;refine(J.out _ (G.out.below (al _ _))).mono ?_;rintro e w1 ⟨hb1,A1,n1,c1,t1,e1,p1,rfl,M⟩;obtain⟨BV,rfl,rfl,rfl⟩:=M;cases BV;obtain⟨rl,r0,r1,r2,r3,AZ,BS,BT,BU⟩:=(qba u _ _ _ _ _).below hb1))
  exact La
 |inl yt =>
  obtain⟨x,E⟩:=yt
  have hg:=Z _ _ hy
  rw[hy]at J
  have L:=HR.out
  rw[hy]at L
  have O:Hid (∀ w',Vi w' (.slice (some ⟨H,A,none⟩) l.length ct) l→Calls maa 92 #[.slice (some ⟨H,A,none⟩) l.length ct,.int .i64 E,.string ⟨#[41]⟩] w' fun e w2=>e = .returned (.bool (Qh l E [41]))∧w'=w2):=fun w' h=>ZI l Tf E [41] _ w' h
  have HB:Hid (∀ w',Vi w' (.slice (some ⟨H,A,none⟩) l.length ct) l→Calls maa 224 #[.slice (some ⟨H,A,none⟩) l.length ct,.int .i64 E,.int .i64 5] w' fun e w2=>e = .returned (.agg #[.slice none 0 0,.int .i64 0,.int .i64 (if l.length≤E then 6 else 5),.int .i64 (Ch l E)])∧Below w'.heap.size w' w2):=fun w' h=>Cz l hl E 5 _ w' h
  have B8:(E:Int)≤100000:=by omega
  cases I:Qh l E [41]
  ·have HZ:Hid (R = .inr (if l.length≤E then 6 else 5,Ch l E)):=by show _=_;rw[L];show(if Qh l E [41]=true then _ else _)=_;rw[I];rfl
   rw[I]at O;clear Z Q hy HR hg L I;generalize (if l.length≤E then (6:Int)else 5)=q at HB HZ;go_enter Tryz.func193,Tryz.ntmps193;go_wp2_with (first
    |(go_at_call_of 92 (Value.string ⟨#[33]⟩);refine(zW.out _ (G.out.below (al _ _))).mono ?_;rintro e w' ⟨rfl,rfl⟩)
    |(go_at_call_of 92 (Value.string ⟨#[45]⟩);refine(zY.out _ (G.out.below (al _ _))).mono ?_;rintro e w' ⟨rfl,rfl⟩)
    |(go_at_call_of 92 (Value.string ⟨#[40]⟩);refine(zX.out _ (G.out.below (al _ _))).mono ?_;rintro e w' ⟨rfl,rfl⟩)
    |(go_at_call 152;refine(J.out _ (G.out.below (al _ _))).mono ?_;rintro e w1 ⟨hb1,A1,n1,c1,t1,e1,p1,rfl,M⟩;obtain⟨rfl,rfl,rfl,AX,Y⟩:=M;have hB:=bt (al _ _) hb1)
    |(go_at_call_of 92 (Value.string ⟨#[41]⟩);refine(O.out _ ((G.out.below hB).below (al _ _))).mono ?_;rintro e w' ⟨rfl,rfl⟩)
    |(go_at_call 224;refine(HB.out _ ((G.out.below hB).below (al _ _))).mono ?_;rintro e w5 ⟨rfl,AW⟩;obtain⟨rl,r0,r1,r2,r3,AZ,BS,BT,BU⟩:=(((qba u _ _ _ _ _).below hb1).below (al _ _)).below AW))
   refine oj (.agg #[.slice none 0 0,.int .i64 0,.int .i64 q,.int .i64 (Ch l E)]) rfl ?_ ?_;·refine⟨ni (bt (bt hB (al _ _)) AW) (aaa _) _ _ _ _,none,0,0,0,q,Ch l E,rfl,?_⟩;exact Gf
   ·exact Sd
  ·have HZ:Hid (R = .inl (x,E+1)):=by show _=_;rw[L];show(if Qh l E [41]=true then _ else _)=_;rw[I];rfl
   rw[I]at O;clear Z Q hy HR hg L I;go_enter Tryz.func193,Tryz.ntmps193;go_wp2_with (first
    |(go_at_call_of 92 (Value.string ⟨#[33]⟩);refine(zW.out _ (G.out.below (al _ _))).mono ?_;rintro e w' ⟨rfl,rfl⟩)
    |(go_at_call_of 92 (Value.string ⟨#[45]⟩);refine(zY.out _ (G.out.below (al _ _))).mono ?_;rintro e w' ⟨rfl,rfl⟩)
    |(go_at_call_of 92 (Value.string ⟨#[40]⟩);refine(zX.out _ (G.out.below (al _ _))).mono ?_;rintro e w' ⟨rfl,rfl⟩)
    |(go_at_call 152;refine(J.out _ (G.out.below (al _ _))).mono ?_;rintro e w1 ⟨hb1,A1,n1,c1,t1,e1,p1,rfl,M⟩;obtain⟨rfl,rfl,rfl,AX,Y⟩:=M;have hB:=bt (al _ _) hb1;obtain⟨rl,r0,r1,r2,r3,AZ,BS,BT,BU⟩:=(qba u _ _ _ _ _).below hb1)
    |(go_at_call_of 92 (Value.string ⟨#[41]⟩);refine(O.out _ ((G.out.below hB).below (al _ _))).mono ?_;rintro e w' ⟨rfl,rfl⟩))
   have hS:=ni hB (aaa _) (.slice A1 n1 c1) (.int .i64 ((E:Int)+1)) (.int .i64 0) (.int .i64 0);refine oj (.agg #[.slice A1 n1 c1,.int .i64 ((E:Int)+1),.int .i64 0,.int .i64 0]) rfl ?_ ?_;·refine⟨hS.alloc hS.size _,A1,_,c1,(E:Int)+1,0,0,rfl,?_⟩;rw[HZ.out];rw[gba]at Y;refine⟨rfl,rfl,rfl,?_,Y.mono (sba _)⟩;exact bi.below (bi.away4 AX Y (rba _) _ _ _ _) (al _ _)
   ·exact Ed
theorem uw(l:List xh)(H:l.length≤100000)(v:Value)(k d:Nat)(A:d+k=12)
  (G:∀ (i:Nat) (u:World),Vi u v l→Calls maa 193 #[v,.int .i64 i,.int .i64 d] u (gn (ti l k i) u)) :
  ∀ (m n:Nat),m+n=5→∀ (i:Nat) (u:World),Vi u v l→Calls maa 152 #[v,.int .i64 i,.int .i64 d,.int .i64 n] u (gn (Dj (ti l k) l m i) u)
 |0,n,I,i,u,E=>by
  obtain rfl:n=5:=by omega
  exact WA l v k d A G i u E
 |m+1,n,I,i,u,E =>
  XA l H v k d m n A I (fun i u J=>uw l H v k d A G m (n+1) Tf i u J) i u E
theorem QA(l:List xh)(hl:l.length≤100000)(G:∀ t∈l,t.text.length≤1000000)(v:Value) :
  ∀ (k d:Nat),d+k=12→∀ (i:Nat) (u:World),Vi u v l→Calls maa 193 #[v,.int .i64 i,.int .i64 d] u (gn (ti l k i) u)
 |0,d,I,i,u,hv=>by
  obtain rfl:d=12:=by omega
  by_cases hi:i<l.length
  ·by_cases A:(Gt l i||Nx l i)=true
   ·have e:ti l 0 i = .inr (7,Ch l i):=by rw[ti,if_neg Tf,if_pos A]
    rw[e];exact PA l hl v i u hv hi A
   ·have e:ti l 0 i=Fk l i:=by rw[ti,if_neg Tf,if_neg A]
    rw[e];simp only[Gt,Nx,Bool.or_eq_true,not_or,Bool.not_eq_true]at A;exact Cu l hl G v _ i u hv hi A.1.1 A.1.2 A.2
  ·exact Le
 |k+1,d,I,i,u,hv=>by
  by_cases hi:i<l.length
  ·have H:=QA l hl G v k (d+1) Tf;cases h33:Qh l i [33]
   ·cases h45:Qh l i [45]
    ·cases E:Qh l i [40]
     ·have e:ti l (k+1) i=Fk l i:=by rw[ti,if_neg Tf,if_neg fh,if_neg (by unfold Nx;rw[E];decide)]
      rw[e];exact Cu l hl G v _ i u hv hi h33 h45 E
     ·exact OA l hl v d k Tf i u hv hi h33 h45 E (fun u A=>uw l hl v k (d+1) Tf H 5 0 rfl (i+1) u A)
    ·exact oy l hl v d k Tf i u hv hi false h33 h45 (fun u A=>H (i+1) u A)
   ·exact oy l hl v d k Tf i u hv hi true h33 (Zw h33).1 (fun u A=>H (i+1) u A)
  ·exact Le
theorem YI(l:List xh)(E:l.length≤100000)(A:∀ t∈l,t.text.length≤1000000)(v:Value)(i:Nat)(u:World)(G:Vi u v l) :
 Calls maa 152 #[v,.int .i64 i,.int .i64 0,.int .i64 0] u (gn (Dj (ti l 12) l 5 i) u) :=
 uw l E v 12 0 rfl (QA l E A v 12 0 rfl) 5 0 rfl i u G
theorem XN{P:Program}{w:World}{o:Oper}{a:Act}{K:Act→World→Prop}{Q:Exit→Act→World→Prop}(s x:Operand)(t:TypeId)(ho:o.op = .call { callee:=.builtin .append,args:=#[s,x],argTypes:=#[t,t] })(E:Nat)(e:TypeId)(i:TypeInfo)(z:Value)(size bytes:Nat)(ht:P.underlying t=some (.slice e))(hi:P.info? e=some i)(hz:i.zero=some z)(J:i.size=size)(Z:i.bytes=bytes)(CT:z.cells.size=size)(B9:0<size)(v:Value)(n:Nat)(O:List Value)(hs:a.eval s=v)(hown:w.ownsRow E e size v n O)(u:Value)(m:Nat)(G:List Value)(hx:a.eval x=u)(hu:bi w u size m G)(h1:∀ u∈G,u.oneCell'=true)(Y:n+m≤maxLen)(H:(n+m)*bytes≤140737488355328)(hbase:E≤w.heap.size)(h:∀ v' w',w'.ownsRow E e size v' (n+m) (O++G)→Below E w w'→K (a.put o.dst v') w'):o.wp P a w K Q:=by
 obtain⟨hl,A,c,rfl,hc,hf⟩:=hu;have hgo:∀ (L:Addr),A=some L→(∀ j x,G[j]? = some x→w.cell? (L.add j)=some x)→o.wp P a w K Q:=fun L hA I=>by subst hA;refine wp_append_own w s x t ho E e i z size bytes ht hi hz J Z CT B9 v n O hs hown L m c G hx hl I h1 Y H hbase ?_;exact rd
 by_cases hm:0<m;·exact zb
 ·obtain rfl:m=0:=by omega
  obtain rfl:G=[]:=List.eq_nil_of_length_eq_zero (by rw[hl];omega);cases A with
  |some L=>exact hgo L rfl Yf
  |none =>have M:=qn (P:=P) w E t o.type e i size ht hi v n c O hown;unfold Oper.wp;simp[execOp,ho,resolve,invoke,builtin,hs,hx,M,Result.andThen];refine h v w ?_ (Gaa _ _);simpa using hown
theorem js{P:Program}{w:World}{M:Array Oper}{o:Oper}{a:Act}{K:Act→World→Prop}{Q:Exit→Act→World→Prop}{E:Prop}(Z:o.guard=none)(s x:Operand)(t:TypeId)(ho:o.op = .call { callee:=.builtin .append,args:=#[s,x],argTypes:=#[t,t] })(A:Nat)(e:TypeId)(i:TypeInfo)(z:Value)(size bytes:Nat)(ht:P.underlying t=some (.slice e))(hi:P.info? e=some i)(hz:i.zero=some z)(J:i.size=size)(Y:i.bytes=bytes)(CV:z.cells.size=size)(CU:0<size)(v:Value)(n:Nat)(xs:List Value)(hs:a.eval s=v)(L:w.ownsRow A e size v n xs)(u:Value)(m:Nat)(G:List Value)(hx:a.eval x=u)(hu:bi w u size m G)(h1:∀ u∈G,u.oneCell'=true)(O:n+m≤maxLen)(H:(n+m)*bytes≤140737488355328)(I:A≤w.heap.size)(h:∀ v' w',w'.ownsRow A e size v' (n+m) (xs++G)→Below A w w'→K (a.put o.dst v') w'):if xba o (yielded M a.tmps)=true then Oper.wp P o a w K Q else E:=by
 have hw:xba o (yielded M a.tmps)=true:=by simp[xba,Z]
 rw[if_pos hw];exact XN s x t ho A e i z size bytes ht hi hz J Y CV CU v n xs hs L u m G hx hu h1 O H I h
theorem dk{B:Nat}{a b:World}(h:Below B a b)(n:Nat):Below B a (b.drewN n):=⟨h.os,h.tape,h.output,h.size,h.block⟩
theorem bld{B:Nat}{a b:World}(h:Below B a b:=by repeat (first|exact Gaa _ _|assumption|refine dk ?_ _|refine mo ?_)):Below B a b:=h
theorem ii{a b:World}(h:Below a.heap.size a b)(o:Obj):Below a.heap.size a (b.alloc o):=h.alloc h.size o
theorem cr{B:Nat}{a b:World}(h:Below B a b:=by repeat (first|exact Gaa _ _|refine dk ?_ _|refine mo ?_|refine ii ?_ _)):Below B a b:=h
theorem uh.thenB{g:Nat}{a b c:World}(h:uh g a b)(k:Below a.heap.size b c):uh g a c :=
 ⟨k.os.trans h.os,k.tape.trans h.tape,k.output.trans h.output,yba h.size k.size,fun i hi A=>(k.block i hi).trans (h.block i hi A)⟩
theorem uh.cell{g:Nat}{a b:World}(h:uh g a b){p:Addr}(E:p.block<a.heap.size)(A:p.block≠g):b.cell? p=a.cell? p:=World.cell?_of_block (h.block _ E A)
theorem xB{g:Nat}{w w':World}{A:Nat}{e:TypeId}{size:Nat}{v:Value}{n:Nat}{H:List Value}(h:w.ownsRow A e size v n H)(O:g<A)(L:uh g w w'):w'.ownsRow A e size v n H:=by
 obtain⟨I,G⟩:=h;refine⟨I,?_⟩;rcases G with G|⟨b,E,cur,M,J,hh,r⟩;·exact .inl G
 ·have hlt:b<w.heap.size:=by exact Yc
  exact .inr ⟨b,E,cur,M,J,(L.block b hlt Tf).trans hh,r⟩
theorem wM(l:List xh)(Y:l.length≤100000)(g:Nat)(v:Value)(i:Nat)(d:Int)(w:World)(E:Cj w g v i d 0 0)(G:Jm g v l w)(hi:l.length≤i)(k:Nat):Calls maa 218 #[.pointer (some ⟨g,0,none⟩)] w (fk l g v i d k (.inr (6,Ch l i)) w):=by
 obtain⟨A,c,J,O⟩:=(G.now E.lt).shape;subst J;have M:Hid (∀ u,Below w.heap.size w u→Calls maa 244 #[.pointer (some ⟨g,0,none⟩),.int .i64 6] u fun e w'=>e = .returned (.slice none 0 0)∧uh g u w'∧Cj w' g (.slice A l.length c) i d 6 (Ch l i)):=fun u L=>by have:=Vu l Y g (.slice A l.length c) i d 6 u (E.below L) (G.belowB (L.mono (nba E.lt)));exact If
 have hd:decide ((l.length:Int)≤(i:Int))=true:=by simp;omega
 have Q:decide (l.length≤i)=true:=by simp;omega
 obtain⟨pl,p0,p1,p2,p3,p4,Z,CW,CX,CY⟩:=E;clear G;go_enter Tryz.func218,Tryz.ntmps218;go_wp2_with fail;go_quiet (fail);go_wp2_with (go_at_call 244;refine(M.out _ (dk (ii (Gaa _ _) _) _)).mono ?_;rintro e w1 ⟨rfl,H,I⟩);go_ret;exact⟨(zba (dk (ii (Gaa _ _) _) _)).trans H,none,0,0,i,6,Ch l i,rfl,I,ai _ _ _,rfl,rfl,by omega,by omega,[],Sl.nil _ _ _,by simp⟩
theorem jF(W:World)(x:Kh)(b:Nat)(A:b=W.heap.size):nk (W.alloc (.cells #[.int .i64 x.op,.int .i64 x.n,.string (vh x.name),.int .i64 x.pos] 46)) (.slice (some ⟨b,0,none⟩) 1 1) [x]:=by subst A;exact⟨Ti (Ps W W.heap.size (aaa _) x),Bp.own (Ps W W.heap.size (aaa _) x)⟩
theorem Qv(w:World)(n:Nat):(w.drewN n).heap.size=w.heap.size:=rfl
structure Bx (w:World) (g:Nat) (v:Value) (i d:Int) (t:xh) (wd:World):Prop where
 keep:uh g w wd
 box:wd.cell? ⟨w.heap.size,0,none⟩=some (.pointer (some ⟨g,0,none⟩))
 tok:Hj wd (w.heap.size+1) (.int .i64 t.kind) (.string (vh t.text)) (.int .i64 t.n) (.int .i64 t.pos)
 par:Cj wd g v i d 0 0
theorem vn{w:World}{g:Nat}{v:Value}{i d:Int}(G:Cj w g v i d 0 0)(t:xh)(m n:Nat):Bx w g v i d t ((((w.alloc (.cells #[.pointer (some ⟨g,0,none⟩)] 196)).drewN m).alloc (.cells #[.int .i64 t.kind,.string (vh t.text),.int .i64 t.n,.int .i64 t.pos] 66)).drewN n):=by
 refine⟨(((Aba g w).alloc _).drewN _ |>.alloc _).drewN _,?_,?_,?_⟩
 ·have E:=Uh w #[.pointer (some ⟨g,0,none⟩)] 196 0 (.pointer (some ⟨g,0,none⟩)) rfl;have A:w.heap.size<(w.alloc (.cells #[.pointer (some ⟨g,0,none⟩)] 196)).heap.size:=by rw[gba];omega
  exact((dk (ii (dk (Gaa _ _) m) _) n).cell (p:=⟨w.heap.size,0,none⟩) A).trans E
 ·have h:=qba ((w.alloc (.cells #[.pointer (some ⟨g,0,none⟩)] 196)).drewN m) (.int .i64 t.kind) (.string (vh t.text)) (.int .i64 t.n) (.int .i64 t.pos) 66;rw[Qv,gba]at h;exact h.below (dk (Gaa _ _) n)
 ·exact G.below (dk (ii (dk (ii (Gaa _ _) _) m) _) n)
theorem Bx.below{w:World}{g:Nat}{v:Value}{i d:Int}{t:xh}{wd w':World}(h:Bx w g v i d t wd)(A:Below wd.heap.size wd w'):Bx w g v i d t w':=by have E:=h.tok.lt;exact⟨h.keep.trans (zba A),(A.cell (p:=⟨w.heap.size,0,none⟩) Yg).trans h.box,h.tok.below A,h.par.below A⟩
theorem LJ(l:List xh)(hl:l.length≤100000)(D6:∀ t∈l,t.text.length≤1000000)(g:Nat)(v:Value)(i:Nat)(d:Int)(w:World)(hp:Cj w g v i d 0 0)(hc:Jm g v l w)(hi:i<l.length)(k:Nat)(DZ:Qh l i [33]=false)(D3:Qh l i [45]=false)(D0:Qh l i [40]=false):Calls maa 218 #[.pointer (some ⟨g,0,none⟩)] w (fk l g v i d k (Fk l i) w):=by
 have DX:Hid ((tk l i).text.length≤1000000):=by rw[rj hi];exact D6 _ (dba hi)
 have D4:=hc.now hp.lt;obtain⟨C0,A,ct,rfl,D7,ET,DT⟩:=D4.at_ Tf;have C5:=DT i hi;rw[← rj hi]at C5;have hk:=C5.kind;have hx:=C5.text;have hn:=C5.n;have D9:=C5.pos;clear C5 DT D7 D4;have HT:Hid (∀ u,uh g w u→Vi u (.slice (some ⟨C0,A,none⟩) l.length ct) l):=fun u hu=>(hc.keep hu hp.lt).now (mba hp.lt hu.size);have HI:∀ (c:UInt8) (b:Bool),Qh l i [c]=b→Hid (∀ u,uh g w u→Calls maa 23 #[.slice (some ⟨C0,A,none⟩) l.length ct,.int .i64 i,.string ⟨#[c]⟩] u fun e w'=>e = .returned (.bool b)∧w'=u):=fun c b hb u hu=>by have:=Tu l Tf i [c] _ u (HT.out u hu);unfold Vk at this;rw[hb]at this;exact this.mono fun _ _ ⟨h1,h2⟩=>⟨h1,h2.symm⟩
 have EU:decide ((l.length:Int)≤(i:Int))=false:=by simp;omega
 have EV:decide (l.length≤i)=false:=by simp;omega
 have C4:=kaa hp;have DW:=kaa hc;have EW:¬ (g=w.heap.size+1):=by have:=hp.lt;omega
 have EX:¬ (w.heap.size+1=g):=by have:=hp.lt;omega
 have EY:¬ (g=w.heap.size):=by have:=hp.lt;omega
 have EZ:¬ (w.heap.size=g):=by have:=hp.lt;omega
 obtain⟨pl,p0,p1,p2,p3,p4,E,G,H,I⟩:=hp;have C8:=HI 33 _ DZ;have DS:=HI 45 _ D3;have C9:=HI 40 _ D0;have HR:Hid (Fk l i=if (tk l i).kind=2 then .inl (.leaf ⟨1,(tk l i).n,[],(tk l i).pos⟩,i+1)else if (tk l i).kind=1∧Hh (tk l i).text=true then .inl (.leaf ⟨2,0,(tk l i).text,(tk l i).pos⟩,i+1)else .inr (5,Ch l i)):=rfl;have DY:Hid (∀ u,uh g w u→Cj u g (.slice (some ⟨C0,A,none⟩) l.length ct) i d 0 0→Calls maa 244 #[.pointer (some ⟨g,0,none⟩),.int .i64 5] u fun e w'=>e = .returned (.slice none 0 0)∧uh g u w'∧Cj w' g (.slice (some ⟨C0,A,none⟩) l.length ct) i d 5 (Ch l i)):=fun u hu ES=>by have:=Vu l hl g _ i d 5 u ES (DW.out.keep hu C4.out.lt);exact If
 clear HI DZ D0 D3 hc D6;generalize Fk l i=R at HR;generalize tk l i=t at DX hk hx hn D9 HR;by_cases CZ:t.kind=2
 ·have D8:(t.kind==2)=true:=by rw[beq_iff_eq];exact CZ
  have HZ:Hid (R = .inl (.leaf ⟨1,t.n,[],t.pos⟩,i+1)):=by show _=_;rw[HR.out,if_pos CZ]
  clear HR CZ;go_enter Tryz.func218,Tryz.ntmps218;go_wp2_with fail;go_quiet (fail);go_wp2_with fail;go_region;go_wp2_with fail;go_quiet (first|(go_at_call_of 23 (Value.string ⟨#[33]⟩);refine(C8.out _ ?_).mono ?_;(repeat (first|exact Aba _ _|refine Bba ?_ _|refine Cba ?_|refine Dba ?_ _));rintro e w' ⟨O,Y⟩;exact⟨O,_,Y⟩));go_wp2_with fail;generalize Z:Eba (Fba (Eba (Fba w _) _) _) _=wd;have M:Bx w g (.slice (some ⟨C0,A,none⟩) l.length ct) i d t wd:=by subst Z;exact vn C4.out t _ _
  clear Z pl p0 p1 p2 p3 p4 E G H I;have C2:=kaa M;obtain⟨Q,L,⟨tl,t0,t1,t2,t3,_,_,_,_⟩,⟨pl,p0,p1,p2,p3,p4,E,G,H,I⟩⟩:=M;have HKP:=kaa Q;clear Q;go_quiet (first|(go_at_call_of 23 (Value.string ⟨#[45]⟩);refine(DS.out _ ?_).mono ?_;(repeat (first|exact HKP.out|refine Bba ?_ _|refine Cba ?_));rintro e w' ⟨O,Y⟩;exact⟨O,_,Y⟩));go_wp2_with fail;go_quiet (first|(go_at_call_of 23 (Value.string ⟨#[40]⟩);refine(C9.out _ ?_).mono ?_;(repeat (first|exact HKP.out|refine Bba ?_ _|refine Cba ?_));rintro e w' ⟨O,Y⟩;exact⟨O,_,Y⟩));go_wp2_with fail;go_ret;refine⟨Dba (Gba ?_ _ _) _,_,1,1,(i:Int)+1,0,0,rfl,Hba (Iba (i:=i) ?_ _) (al _ _),Mk _ _ _ _ _ Tf,?_⟩;·exact Yd
  ·(repeat (first|exact C2.out.par|refine Jba ?_ _|refine Kba ?_))
  ·rw[HZ.out];exact⟨rfl,rfl,rfl,jF _ ⟨1,t.n,[],t.pos⟩ _ (by simp only[wba,Qv])⟩
 ·have D8:(t.kind==2)=false:=by rw[beq_eq_false_iff_ne];exact CZ
  by_cases C3:t.kind=1
  ·have D5:(t.kind==1)=true:=by rw[beq_iff_eq];exact C3
   have HN:Hid (∀ u,uh g w u→Calls maa 44 #[.string (vh t.text)] u (Gj t.text u)):=fun u hu=>dq t.text DX.out u (DW.out.keep hu C4.out.lt).env;unfold Gj at HN;cases C6:Hh t.text
   ·have HZ:Hid (R = .inr (5,Ch l i)):=by show _=_;rw[HR.out,if_neg CZ,if_neg (by rw[C6];simp)]
    rw[C6]at HN;clear HR C6 CZ C3;go_enter Tryz.func218,Tryz.ntmps218;go_wp2_with fail;go_quiet (fail);go_wp2_with fail;go_region;go_wp2_with fail;go_quiet (first|(go_at_call_of 23 (Value.string ⟨#[33]⟩);refine(C8.out _ ?_).mono ?_;(repeat (first|exact Aba _ _|refine Bba ?_ _|refine Cba ?_|refine Dba ?_ _));rintro e w' ⟨O,Y⟩;exact⟨O,_,Y⟩));go_wp2_with fail;generalize Z:Eba (Fba (Eba (Fba w _) _) _) _=wd;have M:Bx w g (.slice (some ⟨C0,A,none⟩) l.length ct) i d t wd:=by subst Z;exact vn C4.out t _ _
    clear Z pl p0 p1 p2 p3 p4 E G H I;have C2:=kaa M;obtain⟨Q,L,⟨tl,t0,t1,t2,t3,_,_,_,_⟩,⟨pl,p0,p1,p2,p3,p4,E,G,H,I⟩⟩:=M;have HKP:=kaa Q;clear Q;go_quiet (first|(go_at_call_of 23 (Value.string ⟨#[45]⟩);refine(DS.out _ ?_).mono ?_;(repeat (first|exact HKP.out|refine Bba ?_ _|refine Cba ?_));rintro e w' ⟨O,Y⟩;exact⟨O,_,Y⟩));go_wp2_with fail;go_quiet (first|(go_at_call_of 23 (Value.string ⟨#[40]⟩);refine(C9.out _ ?_).mono ?_;(repeat (first|exact HKP.out|refine Bba ?_ _|refine Cba ?_));rintro e w' ⟨O,Y⟩;exact⟨O,_,Y⟩));go_wp2_with (first
     |(go_at_call 44;refine(HN.out _ ?_).mono ?_;(repeat (first|exact HKP.out|refine Bba ?_ _|refine Cba ?_));rintro e w1 ⟨rfl,DU⟩;have C1:=C2.out.below (Lba (dk (Gaa wd.heap.size wd) _) DU);have J:=kaa C1;clear L tl t0 t1 t2 t3 pl p0 p1 p2 p3 p4 E G H I;obtain⟨_,L,⟨tl,t0,t1,t2,t3,_,_,_,_⟩,⟨pl,p0,p1,p2,p3,p4,E,G,H,I⟩⟩:=C1)
     |(go_at_call 244;refine(DY.out _ J.out.keep J.out.par).mono ?_;rintro e w2 ⟨rfl,C7,DV⟩))
    go_ret;refine⟨J.out.keep.trans C7,none,0,0,i,5,Ch l i,rfl,DV,ai _ _ _,?_⟩;exact Zd
   ·have HZ:Hid (R = .inl (.leaf ⟨2,0,t.text,t.pos⟩,i+1)):=by show _=_;rw[HR.out,if_neg CZ,if_pos ⟨C3,C6⟩]
    rw[C6]at HN;clear HR C6 CZ C3;go_enter Tryz.func218,Tryz.ntmps218;go_wp2_with fail;go_quiet (fail);go_wp2_with fail;go_region;go_wp2_with fail;go_quiet (first|(go_at_call_of 23 (Value.string ⟨#[33]⟩);refine(C8.out _ ?_).mono ?_;(repeat (first|exact Aba _ _|refine Bba ?_ _|refine Cba ?_|refine Dba ?_ _));rintro e w' ⟨O,Y⟩;exact⟨O,_,Y⟩));go_wp2_with fail;generalize Z:Eba (Fba (Eba (Fba w _) _) _) _=wd;have M:Bx w g (.slice (some ⟨C0,A,none⟩) l.length ct) i d t wd:=by subst Z;exact vn C4.out t _ _
    clear Z pl p0 p1 p2 p3 p4 E G H I;have C2:=kaa M;obtain⟨Q,L,⟨tl,t0,t1,t2,t3,_,_,_,_⟩,⟨pl,p0,p1,p2,p3,p4,E,G,H,I⟩⟩:=M;have HKP:=kaa Q;clear Q;go_quiet (first|(go_at_call_of 23 (Value.string ⟨#[45]⟩);refine(DS.out _ ?_).mono ?_;(repeat (first|exact HKP.out|refine Bba ?_ _|refine Cba ?_));rintro e w' ⟨O,Y⟩;exact⟨O,_,Y⟩));go_wp2_with fail;go_quiet (first|(go_at_call_of 23 (Value.string ⟨#[40]⟩);refine(C9.out _ ?_).mono ?_;(repeat (first|exact HKP.out|refine Bba ?_ _|refine Cba ?_));rintro e w' ⟨O,Y⟩;exact⟨O,_,Y⟩));go_wp2_with (first
     |(go_at_call 44;refine(HN.out _ ?_).mono ?_;(repeat (first|exact HKP.out|refine Bba ?_ _|refine Cba ?_));rintro e w1 ⟨rfl,DU⟩;have C1:=C2.out.below (Lba (dk (Gaa wd.heap.size wd) _) DU);have J:=kaa C1;clear L tl t0 t1 t2 t3 pl p0 p1 p2 p3 p4 E G H I;obtain⟨_,L,⟨tl,t0,t1,t2,t3,_,_,_,_⟩,⟨pl,p0,p1,p2,p3,p4,E,G,H,I⟩⟩:=C1))
    go_ret;refine⟨Dba (Gba J.out.keep _ _) _,_,1,1,(i:Int)+1,0,0,rfl,Hba (Iba J.out.par _) (al _ _),Mk _ _ _ _ _ (nba (Nat.lt_of_succ_lt J.out.tok.lt)),?_⟩;rw[HZ.out];exact⟨rfl,rfl,rfl,jF _ ⟨2,0,t.text,t.pos⟩ _ (by simp only[wba])⟩
  ·have D5:(t.kind==1)=false:=by rw[beq_eq_false_iff_ne];exact C3
   have HZ:Hid (R = .inr (5,Ch l i)):=by show _=_;rw[HR.out,if_neg CZ,if_neg (fun h=>C3 h.1)]
   clear HR CZ C3;go_enter Tryz.func218,Tryz.ntmps218;go_wp2_with fail;go_quiet (fail);go_wp2_with fail;go_region;go_wp2_with fail;go_quiet (first|(go_at_call_of 23 (Value.string ⟨#[33]⟩);refine(C8.out _ ?_).mono ?_;(repeat (first|exact Aba _ _|refine Bba ?_ _|refine Cba ?_|refine Dba ?_ _));rintro e w' ⟨O,Y⟩;exact⟨O,_,Y⟩));go_wp2_with fail;generalize Z:Eba (Fba (Eba (Fba w _) _) _) _=wd;have M:Bx w g (.slice (some ⟨C0,A,none⟩) l.length ct) i d t wd:=by subst Z;exact vn C4.out t _ _
   clear Z pl p0 p1 p2 p3 p4 E G H I;have C2:=kaa M;obtain⟨Q,L,⟨tl,t0,t1,t2,t3,_,_,_,_⟩,⟨pl,p0,p1,p2,p3,p4,E,G,H,I⟩⟩:=M;have HKP:=kaa Q;clear Q;go_quiet (first|(go_at_call_of 23 (Value.string ⟨#[45]⟩);refine(DS.out _ ?_).mono ?_;(repeat (first|exact HKP.out|refine Bba ?_ _|refine Cba ?_));rintro e w' ⟨O,Y⟩;exact⟨O,_,Y⟩));go_wp2_with fail;go_quiet (first|(go_at_call_of 23 (Value.string ⟨#[40]⟩);refine(C9.out _ ?_).mono ?_;(repeat (first|exact HKP.out|refine Bba ?_ _|refine Cba ?_));rintro e w' ⟨O,Y⟩;exact⟨O,_,Y⟩));go_wp2_with (go_at_call 244;refine(DY.out _ ?_ ?_).mono ?_;(repeat (first|exact HKP.out|refine Bba ?_ _|refine Cba ?_));(repeat (first|exact C2.out.par|refine Jba ?_ _|refine Kba ?_));rintro e w2 ⟨rfl,C7,DV⟩);go_ret;refine⟨Mba ?_ C7,none,0,0,i,5,Ch l i,rfl,DV,ai _ _ _,?_⟩;·exact Yd
   ·exact Zd
structure Bt (w:World) (g:Nat) (t:xh) (wd:World):Prop where
 box:wd.cell? ⟨w.heap.size,0,none⟩=some (.pointer (some ⟨g,0,none⟩))
 tok:Hj wd (w.heap.size+1) (.int .i64 t.kind) (.string (vh t.text)) (.int .i64 t.n) (.int .i64 t.pos)
theorem Bt.below{w:World}{g:Nat}{t:xh}{wd w':World}(h:Bt w g t wd)(A:Below wd.heap.size wd w'):Bt w g t w':=by have E:=h.tok.lt;exact⟨(A.cell (p:=⟨w.heap.size,0,none⟩) Yg).trans h.box,h.tok.below A⟩
theorem Hj.keep{w w':World}{g b:Nat}{x y z q:Value}(h:Hj w b x y z q)(G:uh g w w')(E:b≠g):Hj w' b x y z q:=by
 have A:=h.lt;have I:=G.size;have H:∀ o,w'.frozen? ⟨b,o,none⟩=w.frozen? ⟨b,o,none⟩:=fun o=>World.frozen?_of_block (G.block b A E);exact⟨by omega,(G.cell (p:=⟨b,0,none⟩) A E).trans h.c0,(G.cell (p:=⟨b,1,none⟩) A E).trans h.c1,(G.cell (p:=⟨b,2,none⟩) A E).trans h.c2,(G.cell (p:=⟨b,3,none⟩) A E).trans h.c3,
  (H 0).trans h.f0,(H 1).trans h.f1,(H 2).trans h.f2,(H 3).trans h.f3⟩
theorem Bt.keep{w:World}{g:Nat}{t:xh}{wd w':World}(h:Bt w g t wd)(A:uh g wd w')(G:g<w.heap.size):Bt w g t w':=by have E:=h.tok.lt;exact⟨(A.cell (p:=⟨w.heap.size,0,none⟩) Yg (by show w.heap.size≠g;omega)).trans h.box,h.tok.keep A Tf⟩
theorem Bt.belowB{w:World}{g:Nat}{t:xh}{wd w':World}(h:Bt w g t wd)(A:Below (w.heap.size+2) wd w'):Bt w g t w' :=
 ⟨(A.cell (p:=⟨w.heap.size,0,none⟩) Yg).trans h.box,h.tok.belowB A Tf⟩
theorem Hw(W:World)(x:Kh)(b A:Nat)(G:b=W.heap.size)(E:A≤W.heap.size):(W.alloc (.cells #[.int .i64 x.op,.int .i64 x.n,.string (vh x.name),.int .i64 x.pos] 46)).ownsRow A 46 4 (.slice (some ⟨b,0,none⟩) 1 1) 1 (lba x):=by subst G;have:=Ps W A E x;simpa using this
theorem yB{w:World}{A:Nat}{v:Value}{nd:Kh}{E:List Kh}(h:w.ownsRow A 46 4 v (1+E.length) (lba nd++E.flatMap lba)):nk w v (nd::E)∧dj A v:=by
 refine⟨⟨?_,Bp.own h⟩,dj.own h⟩;have h2:=Ti h;have e1:(nd::E).length=1+E.length:=by simp only[jaa];omega
 have e2:(nd::E).flatMap lba=lba nd++E.flatMap lba:=by simp
 exact Jf
theorem ru.nods{l:List xh}{i k:Nat}{r:Dm}{w:World}{V:Value}{a e p:Int}(h:ru l i k r w V a e p)(G:∀ x t,r = .inl (x,t)→x.flat.length≤l.length - i):∃ A:List Kh,Wh w V A∧A.length≤l.length - i∧∀ x t,r = .inl (x,t)→A=x.flat:=by
 unfold ru at h;split at h;·rename_i x t;exact⟨_,h.2.2.2.nods,G _ _ rfl,fun I H e=>by cases e;rfl⟩
 ·obtain⟨_,_,_,_,E,h5,h6⟩:=h;exact⟨E,h5,h6,fun I H e=>by cases e⟩
def YN(nd:Kh):Dm→Dm
 | .inl (x,t)=>.inl (.one nd x,t)
 | .inr e=>.inr e
theorem sL{l:List xh}{i k0 k:Nat}{nd:Kh}{r:Dm}{w5 w6:World}{V E:Value}{a e p:Int}(hi:i<l.length)(Q:k0≤k)(h:ru l (i+1) k0 r w5 V a e p){A:List Kh}(L:A.length≤l.length - (i+1))(J:∀ x t,r = .inl (x,t)→A=x.flat)(h6:nk w6 E (nd::A)):ru l i k (YN nd r) w6 E a e p:=by
 cases r with
 |inl q =>
  obtain⟨x,t⟩:=q
  have M:=J x t rfl
  subst M
  exact⟨h.1,h.2.1,h.2.2.1,h6⟩
 |inr q =>
  obtain⟨G,H,I,O,_⟩:=h
  exact⟨G,H,I,by omega,_,h6.nods,by simp only[jaa];omega⟩
theorem Gz(l:List xh)(hl:l.length≤100000)(g:Nat)(v:Value)(i:Nat)(d:Int)(w:World)(hp:Cj w g v i d 0 0)(hc:Jm g v l w)(hi:i<l.length)(k k0:Nat)(hk0:k0≤k)(b33:Bool)(h33:Qh l i [33]=b33)(h45:Qh l i [45]=!b33)(r:Dm)(F9:∀ x t,r = .inl (x,t)→x.flat.length≤l.length - (i+1))(HW:∀ W,uh g w W→Cj W g v i d 0 0→Calls maa 245 #[.pointer (some ⟨g,0,none⟩),.func (.func 218) #[.pointer (some ⟨g,0,none⟩)] #[]] W (fk l g v (i+1) d k0 r W)):Calls maa 218 #[.pointer (some ⟨g,0,none⟩)] w (fk l g v i d k (YN ⟨if b33 then 4 else 3,0,[],(tk l i).pos⟩ r) w):=by
 obtain⟨i0,E9,FS,FT,FU⟩:=info_parts dt;have F8:=hc.now hp.lt;obtain⟨E8,E0,ct,rfl,GV,G0,FZ⟩:=F8.at_ Tf;have E2:=FZ i hi;rw[← rj hi]at E2;have hk:=E2.kind;have hx:=E2.text;have hn:=E2.n;have GX:=E2.pos;clear E2 FZ GV F8;have HT:Hid (∀ u,uh g w u→Vi u (.slice (some ⟨E8,E0,none⟩) l.length ct) l):=fun u hu=>(hc.keep hu hp.lt).now (mba hp.lt hu.size);have HI:∀ (c:UInt8) (b:Bool),Qh l i [c]=b→Hid (∀ u,uh g w u→Calls maa 23 #[.slice (some ⟨E8,E0,none⟩) l.length ct,.int .i64 i,.string ⟨#[c]⟩] u fun e w'=>e = .returned (.bool b)∧w'=u):=fun c b hb u hu=>by exact fc
 have G1:decide ((l.length:Int)≤(i:Int))=false:=by simp;omega
 have G2:decide (l.length≤i)=false:=by simp;omega
 have I:=kaa hp;have GZ:=kaa hc;have G3:¬ (g=w.heap.size+1):=by have:=hp.lt;omega
 have G4:¬ (w.heap.size+1=g):=by have:=hp.lt;omega
 have G5:¬ (g=w.heap.size):=by have:=hp.lt;omega
 have G6:¬ (w.heap.size=g):=by have:=hp.lt;omega
 obtain⟨pl,p0,p1,p2,p3,p4,FV,FW,FX,FY⟩:=hp;have F3:=HI 33 _ h33;have GU:=HI 45 _ h45;have F6:=kaa HW;have F4:=kaa F9;have GS:(tk l i).text=if b33 then [33]else [45]:=by exact ef
 have GY:((vh (tk l i).text).toList==[45])=!b33:=by rw[GS,Ah];cases b33<;>rfl
 clear HI h33 h45 hc HW F9 GS;generalize tk l i=t at hk hx hn GX GY;have L:Hid (∀ n,n≤l.length - (i+1)→1+n≤maxLen∧(1+n)*40≤140737488355328):=fun n h=>by unfold maxLen;constructor<;>omega
 cases b33
 ·show Calls _ _ _ _ (fk l g _ i d k (YN ⟨3,0,[],t.pos⟩ r) w);go_enter Tryz.func218,Tryz.ntmps218;go_wp2_with fail;go_quiet (fail);go_wp2_with fail;go_region;go_wp2_with fail;go_quiet (first|(go_at_call_of 23 (Value.string ⟨#[33]⟩);refine(F3.out _ ?_).mono ?_;(repeat (first|exact Aba _ _|refine Bba ?_ _|refine Cba ?_|refine Dba ?_ _));rintro e w' ⟨he,hw⟩;exact⟨he,_,hw⟩));go_wp2_with fail;go_quiet (first|(go_at_call_of 23 (Value.string ⟨#[45]⟩);refine(GU.out _ ?_).mono ?_;(repeat (first|exact Aba _ _|refine Bba ?_ _|refine Cba ?_|refine Dba ?_ _));rintro e w' ⟨he,hw⟩;exact⟨he,_,hw⟩));go_wp2_with fail;generalize E7:Eba (Fba (Eba (Fba w _) _) _) _=wd;have J:Bx w g (.slice (some ⟨E8,E0,none⟩) l.length ct) i d t wd:=by subst E7;exact vn I.out t _ _
  clear E7 pl p0 p1 p2 p3 p4 FV FW FX FY;have F0:=kaa J;have E3:Hid (Bt w g t wd):=⟨J.box,J.tok⟩;obtain⟨E4,F7,⟨tl,t0,t1,t2,t3,_,_,_,_⟩,⟨pl,p0,p1,p2,p3,p4,FV,FW,FX,FY⟩⟩:=J;have HKP:=kaa E4;clear E4;go_wp2_with fail;go_region_held3 (fun w'=>w'.cell? ⟨w.heap.size,0,none⟩=some (.pointer (some ⟨g,0,none⟩))∧w'.cell? ⟨w.heap.size+1,3,none⟩=some (.int .i64 t.pos)) (first|exact⟨by assumption,by assumption⟩|go_keep)
   (first
    |(go_at_call 245;refine(F6.out _ ?_ ?_).mono ?_;(repeat (first|exact HKP.out|refine Bba ?_ _|refine Cba ?_|refine Dba ?_ _));(repeat (first|exact F0.out.par|refine Jba ?_ _|refine Kba ?_|refine Hba ?_ (al _ _)));rintro e w5 ⟨Y,A5,n5,c5,a5,e5,p5,rfl,E6,GW,hv5⟩;have M:=Bt.keep (Bt.below E3.out (cr)) Y I.out.lt;have E:=kaa M;obtain⟨F1,⟨_,_,_,_,F2,_,_,_,_⟩⟩:=M;obtain⟨nl,E5,hnlen,hnle⟩:=hv5.nods F4.out;have O:uh g w w5:=Mba lg Y;have H:w.heap.size+2≤w5.heap.size:=E.out.tok.lt)
    |(refine js jg _ _ 42 jg (w.heap.size+2) 46 i0 _ 4 40 Tryz.underlying42 E9 FS FT FU rfl Uf (.slice (some ⟨wd.heap.size,0,none⟩) 1 1) 1 (lba ⟨3,0,[],t.pos⟩) jg ?_ (.slice A5 n5 c5) nl.length (nl.flatMap lba) jg ?_ (ol nl) ?_ ?_ ?_ ?_;exact(Ih (xB (Ih (Hw wd ⟨3,0,[],t.pos⟩ _ (w.heap.size+2) rfl E3.out.tok.lt) (cr)) (uba (uba I.out.lt)) Y) (cr));exact E5.below (cr);exact(L.out _ hnlen).1;exact(L.out _ hnlen).2;exact yba H (Nba (w:=w5) (B:=w5.heap.size) (cr));intro v6 w6 hown6 A;obtain⟨A6,c6,rfl⟩:=yh hown6;have hkw6:=uh.thenB (Mba O (zba (cr))) (Oba A (vba (sba _)));have hp6:=Pba (Hba E6 (cr)) A (uba (uba I.out.lt));have G:=Bt.belowB (Bt.below E.out (cr)) A;obtain⟨Q,⟨_,_,_,_,Z,_,_,_,_⟩⟩:=G)
    |(refine js jg _ _ 42 jg (w.heap.size+2) 46 i0 _ 4 40 Tryz.underlying42 E9 FS FT FU rfl Uf (.slice (some ⟨w5.heap.size,0,none⟩) 1 1) 1 (lba ⟨3,0,[],t.pos⟩) jg ?_ (.slice A5 n5 c5) nl.length (nl.flatMap lba) jg ?_ (ol nl) ?_ ?_ ?_ ?_;exact(Ih (Hw w5 ⟨3,0,[],t.pos⟩ _ (w.heap.size+2) rfl H) (cr));exact E5.below (cr);exact(L.out _ hnlen).1;exact(L.out _ hnlen).2;exact yba H (Nba (w:=w5) (B:=w5.heap.size) (cr));intro v6 w6 hown6 A;obtain⟨A6,c6,rfl⟩:=yh hown6;have hkw6:=uh.thenB (Mba O (zba (cr))) (Oba A (vba (sba _)));have hp6:=Pba (Hba E6 (cr)) A (uba (uba I.out.lt));have G:=Bt.belowB (Bt.below E.out (cr)) A;obtain⟨Q,⟨_,_,_,_,Z,_,_,_,_⟩⟩:=G))
  all_goals exact Lb
 ·show Calls _ _ _ _ (fk l g _ i d k (YN ⟨4,0,[],t.pos⟩ r) w);go_enter Tryz.func218,Tryz.ntmps218;go_wp2_with fail;go_quiet (fail);go_wp2_with fail;go_region;go_wp2_with fail;go_quiet (first|(go_at_call_of 23 (Value.string ⟨#[33]⟩);refine(F3.out _ ?_).mono ?_;(repeat (first|exact Aba _ _|refine Bba ?_ _|refine Cba ?_|refine Dba ?_ _));rintro e w' ⟨he,hw⟩;exact⟨he,_,hw⟩));go_wp2_with fail;generalize E7:Eba (Fba (Eba (Fba w _) _) _) _=wd;have J:Bx w g (.slice (some ⟨E8,E0,none⟩) l.length ct) i d t wd:=by subst E7;exact vn I.out t _ _
  clear E7 pl p0 p1 p2 p3 p4 FV FW FX FY;have F0:=kaa J;have E3:Hid (Bt w g t wd):=⟨J.box,J.tok⟩;obtain⟨E4,F7,⟨tl,t0,t1,t2,t3,_,_,_,_⟩,⟨pl,p0,p1,p2,p3,p4,FV,FW,FX,FY⟩⟩:=J;have HKP:=kaa E4;clear E4;go_wp2_with fail;go_region_held3 (fun w'=>w'.cell? ⟨w.heap.size,0,none⟩=some (.pointer (some ⟨g,0,none⟩))∧w'.cell? ⟨w.heap.size+1,3,none⟩=some (.int .i64 t.pos)) (first|exact⟨by assumption,by assumption⟩|go_keep)
   (first
    |(go_at_call 245;refine(F6.out _ ?_ ?_).mono ?_;(repeat (first|exact HKP.out|refine Bba ?_ _|refine Cba ?_|refine Dba ?_ _));(repeat (first|exact F0.out.par|refine Jba ?_ _|refine Kba ?_|refine Hba ?_ (al _ _)));rintro e w5 ⟨Y,A5,n5,c5,a5,e5,p5,rfl,E6,GW,hv5⟩;have M:=Bt.keep (Bt.below E3.out (cr)) Y I.out.lt;have E:=kaa M;obtain⟨F1,⟨_,_,_,_,F2,_,_,_,_⟩⟩:=M;obtain⟨nl,E5,hnlen,hnle⟩:=hv5.nods F4.out;have O:uh g w w5:=Mba lg Y;have H:w.heap.size+2≤w5.heap.size:=E.out.tok.lt)
    |(refine js jg _ _ 42 jg (w.heap.size+2) 46 i0 _ 4 40 Tryz.underlying42 E9 FS FT FU rfl Uf (.slice (some ⟨wd.heap.size,0,none⟩) 1 1) 1 (lba ⟨4,0,[],t.pos⟩) jg ?_ (.slice A5 n5 c5) nl.length (nl.flatMap lba) jg ?_ (ol nl) ?_ ?_ ?_ ?_;exact(Ih (xB (Ih (Hw wd ⟨4,0,[],t.pos⟩ _ (w.heap.size+2) rfl E3.out.tok.lt) (cr)) (uba (uba I.out.lt)) Y) (cr));exact E5.below (cr);exact(L.out _ hnlen).1;exact(L.out _ hnlen).2;exact yba H (Nba (w:=w5) (B:=w5.heap.size) (cr));intro v6 w6 hown6 A;obtain⟨A6,c6,rfl⟩:=yh hown6;have hkw6:=uh.thenB (Mba O (zba (cr))) (Oba A (vba (sba _)));have hp6:=Pba (Hba E6 (cr)) A (uba (uba I.out.lt));have G:=Bt.belowB (Bt.below E.out (cr)) A;obtain⟨Q,⟨_,_,_,_,Z,_,_,_,_⟩⟩:=G)
    |(refine js jg _ _ 42 jg (w.heap.size+2) 46 i0 _ 4 40 Tryz.underlying42 E9 FS FT FU rfl Uf (.slice (some ⟨w5.heap.size,0,none⟩) 1 1) 1 (lba ⟨4,0,[],t.pos⟩) jg ?_ (.slice A5 n5 c5) nl.length (nl.flatMap lba) jg ?_ (ol nl) ?_ ?_ ?_ ?_;exact(Ih (Hw w5 ⟨4,0,[],t.pos⟩ _ (w.heap.size+2) rfl H) (cr));exact E5.below (cr);exact(L.out _ hnlen).1;exact(L.out _ hnlen).2;exact yba H (Nba (w:=w5) (B:=w5.heap.size) (cr));intro v6 w6 hown6 A;obtain⟨A6,c6,rfl⟩:=yh hown6;have hkw6:=uh.thenB (Mba O (zba (cr))) (Oba A (vba (sba _)));have hp6:=Pba (Hba E6 (cr)) A (uba (uba I.out.lt));have G:=Bt.belowB (Bt.below E.out (cr)) A;obtain⟨Q,⟨_,_,_,_,Z,_,_,_,_⟩⟩:=G))
  all_goals exact Lb
def Jw(l:List xh):Dm→Dm
 | .inl (x,t)=>if Qh l t [41]=true then .inl (x,t+1)else .inr (if l.length≤t then 6 else 5,Ch l t)
 | .inr e=>.inr e
theorem AB(l:List xh)(hl:l.length≤100000)(g:Nat)(v:Value)(i:Nat)(d:Int)(w:World)(hp:Cj w g v i d 0 0)(hc:Jm g v l w)(hi:i<l.length)(k k0:Nat)(KX:k0+1≤k)(KY:k≤1000)(I8:Qh l i [33]=false)(JS:Qh l i [45]=false)(I9:Qh l i [40]=true)(r:Dm)(I0:∀ x t,r = .inl (x,t)→t≤l.length)(IZ:∀ e p,r = .inr (e,p)→1≤e)(HW:∀ W,uh g w W→Cj W g v i d 0 0→W.cell? ⟨w.heap.size,0,none⟩=some (.pointer (some ⟨g,0,none⟩))→Calls maa 245 #[.pointer (some ⟨g,0,none⟩),.func (.func 246) #[] #[.pointer (some ⟨w.heap.size,0,none⟩)]] W (fk l g v (i+1) d k0 r W)):Calls maa 218 #[.pointer (some ⟨g,0,none⟩)] w (fk l g v i d k (Jw l r) w):=by
 have JT:=hc.now hp.lt
 obtain⟨G7,G,ct,rfl,JX,J5,I1⟩:=JT.at_ Tf
 have IV:=I1 i hi
 rw[← rj hi]at IV
 have hk:=IV.kind
 have hx:=IV.text
 have hn:=IV.n
 have J1:=IV.pos
 clear IV I1 JX JT
 have HT:Hid (∀ u,uh g w u→Vi u (.slice (some ⟨G7,G,none⟩) l.length ct) l):=fun u hu=>(hc.keep hu hp.lt).now (mba hp.lt hu.size)
 have HI:∀ (c:UInt8) (b:Bool),Qh l i [c]=b→Hid (∀ u,uh g w u→Calls maa 23 #[.slice (some ⟨G7,G,none⟩) l.length ct,.int .i64 i,.string ⟨#[c]⟩] u fun e w'=>e = .returned (.bool b)∧w'=u):=fun c b hb u hu=>by exact fc
 have J6:decide ((l.length:Int)≤(i:Int))=false:=by simp;omega
 have J7:decide (l.length≤i)=false:=by simp;omega
 have Y:=kaa hp
 have JV:=kaa hc
 have KS:¬ (g=w.heap.size+1):=by have:=hp.lt;omega
 have KT:¬ (w.heap.size+1=g):=by have:=hp.lt;omega
 have KU:¬ (g=w.heap.size):=by have:=hp.lt;omega
 have KV:¬ (w.heap.size=g):=by have:=hp.lt;omega
 obtain⟨pl,p0,p1,p2,p3,p4,H,I,J,L⟩:=hp
 have I2:=HI 33 _ I8
 have I4:=HI 45 _ JS
 have I3:=HI 40 _ I9
 have I5:=kaa HW
 clear HI I8 JS I9 hc HW
 generalize tk l i=t at hk hx hn J1
 cases r with
 |inr ep =>
  obtain⟨ey,py⟩:=ep
  have J8:=IZ _ _ rfl
  have J9:(ey==0)=false:=by rw[beq_eq_false_iff_ne];omega
  clear I0 IZ
  go_enter Tryz.func218,Tryz.ntmps218
  go_wp2_with fail
  go_quiet (fail)
  go_wp2_with fail
  go_region
  go_wp2_with fail
  go_quiet (first|(go_at_call_of 23 (Value.string ⟨#[33]⟩);refine(I2.out _ ?_).mono ?_;(repeat (first|exact Aba _ _|refine Bba ?_ _|refine Cba ?_|refine Dba ?_ _));rintro e w' ⟨O,Q⟩;exact⟨O,_,Q⟩))
  go_wp2_with fail
  generalize IS:Eba (Fba (Eba (Fba w _) _) _) _=wd
  have A:Bx w g (.slice (some ⟨G7,G,none⟩) l.length ct) i d t wd:=by subst IS;exact vn Y.out t _ _
  clear IS pl p0 p1 p2 p3 p4 H I J L
  have IX:=kaa A
  have Z:Hid (Bt w g t wd):=⟨A.box,A.tok⟩
  obtain⟨H7,E,⟨tl,t0,t1,t2,t3,_,_,_,_⟩,⟨pl,p0,p1,p2,p3,p4,H,I,J,L⟩⟩:=A
  have HKP:=kaa H7
  clear H7
  go_quiet (first|(go_at_call_of 23 (Value.string ⟨#[45]⟩);refine(I4.out _ ?_).mono ?_;(repeat (first|exact HKP.out|refine Bba ?_ _|refine Cba ?_));rintro e w' ⟨O,Q⟩;exact⟨O,_,Q⟩))
  go_wp2_with fail
  go_quiet (first|(go_at_call_of 23 (Value.string ⟨#[40]⟩);refine(I3.out _ ?_).mono ?_;(repeat (first|exact HKP.out|refine Bba ?_ _|refine Cba ?_));rintro e w' ⟨O,Q⟩;exact⟨O,_,Q⟩))
  go_wp2_with (go_at_call 245;refine(I5.out _ ?_ ?_ ?_).mono ?_;(repeat (first|exact HKP.out|refine Bba ?_ _|refine Cba ?_|refine Dba ?_ _));(repeat (first|exact IX.out.par|refine Jba ?_ _|refine Kba ?_|refine Hba ?_ (al _ _)));exact(Bt.below Z.out (cr)).box;rintro e w5 ⟨G9,A5,n5,c5,a5,e5,p5,rfl,H8,IW,IY⟩;have G8:=Bt.keep (Bt.below Z.out (cr)) G9 Y.out.lt;have hkw5:uh g w w5:=Mba lg G9;clear E tl t0 t1 t2 t3 pl p0 p1 p2 p3 p4 H I J L;have E:=G8.box;have HP5:=kaa H8;obtain⟨rfl,rfl,JW,J4,gl,JY,J3⟩:=IY;obtain⟨m5,rfl⟩:=Int.eq_ofNat_of_zero_le JW;have KZ:(m5:Int)≤200000:=Tf;obtain⟨pl,p0,p1,p2,p3,p4,H,I,J,L⟩:=H8)
  go_quiet (fail)
  go_wp2_with fail
  go_ret
  have I7:=Y.out.lt
  refine⟨Gba ?_ _ _,A5,n5,c5,(m5:Int)+1,e5,p5,rfl,Iba (i:=m5) ?_ _,IW.mono ?_,rfl,rfl,by omega,by omega,gl,bi.keep (B:=w.heap.size) JY (IW.mono ?_) I7 (Gba ?_ _ _),by omega⟩
  ·exact qd
  ·exact ce
  ·exact vc
  ·exact vc
  ·exact Nd
 |inl q =>
  obtain⟨x,M⟩:=q
  have KW:=I0 _ _ rfl
  have K0:(M:Int)≤200000:=by omega
  have IT:Hid (∀ u,uh g w u→Calls maa 23 #[.slice (some ⟨G7,G,none⟩) l.length ct,.int .i64 M,.string ⟨#[41]⟩] u fun e w'=>e = .returned (.bool (Qh l M [41]))∧w'=u):=fun u hu=>by have:=Tu l Tf M [41] _ u (HT.out u hu);unfold Vk at this;exact this.mono fun _ _ ⟨h1,h2⟩=>⟨h1,h2.symm⟩
  have I6:Hid (∀ u,uh g w u→Cj u g (.slice (some ⟨G7,G,none⟩) l.length ct) M d 0 0→Calls maa 244 #[.pointer (some ⟨g,0,none⟩),.int .i64 5] u fun e w'=>e = .returned (.slice none 0 0)∧uh g u w'∧Cj w' g (.slice (some ⟨G7,G,none⟩) l.length ct) M d (if l.length≤M then 6 else 5) (Ch l M)):=fun u hu J2=>by have:=Vu l hl g _ M d 5 u J2 (JV.out.keep hu Y.out.lt);rw[show(if l.length≤M∧(5:Int)=5 then (6:Int)else 5)=(if l.length≤M then 6 else 5) by simp]at this;exact this
  cases IU:Qh l M [41]
  ·have hO:Jw l (.inl (x,M)) = .inr (if l.length≤M then 6 else 5,Ch l M):=by unfold Jw;simp only[IU];rfl
   rw[hO];rw[IU]at IT;clear I0 IZ IU hO;generalize (if l.length≤M then (6:Int)else 5)=q at I6;go_enter Tryz.func218,Tryz.ntmps218;go_wp2_with fail;go_quiet (fail);go_wp2_with fail;go_region;go_wp2_with fail;go_quiet (first|(go_at_call_of 23 (Value.string ⟨#[33]⟩);refine(I2.out _ ?_).mono ?_;(repeat (first|exact Aba _ _|refine Bba ?_ _|refine Cba ?_|refine Dba ?_ _));rintro e w' ⟨O,Q⟩;exact⟨O,_,Q⟩));go_wp2_with fail;generalize IS:Eba (Fba (Eba (Fba w _) _) _) _=wd;have A:Bx w g (.slice (some ⟨G7,G,none⟩) l.length ct) i d t wd:=by subst IS;exact vn Y.out t _ _
   clear IS pl p0 p1 p2 p3 p4 H I J L;have IX:=kaa A;have Z:Hid (Bt w g t wd):=⟨A.box,A.tok⟩;obtain⟨H7,E,⟨tl,t0,t1,t2,t3,_,_,_,_⟩,⟨pl,p0,p1,p2,p3,p4,H,I,J,L⟩⟩:=A;have HKP:=kaa H7;clear H7;go_quiet (first|(go_at_call_of 23 (Value.string ⟨#[45]⟩);refine(I4.out _ ?_).mono ?_;(repeat (first|exact HKP.out|refine Bba ?_ _|refine Cba ?_));rintro e w' ⟨O,Q⟩;exact⟨O,_,Q⟩));go_wp2_with fail;go_quiet (first|(go_at_call_of 23 (Value.string ⟨#[40]⟩);refine(I3.out _ ?_).mono ?_;(repeat (first|exact HKP.out|refine Bba ?_ _|refine Cba ?_));rintro e w' ⟨O,Q⟩;exact⟨O,_,Q⟩));go_wp2_with (go_at_call 245;refine(I5.out _ ?_ ?_ ?_).mono ?_;(repeat (first|exact HKP.out|refine Bba ?_ _|refine Cba ?_|refine Dba ?_ _));(repeat (first|exact IX.out.par|refine Jba ?_ _|refine Kba ?_|refine Hba ?_ (al _ _)));exact(Bt.below Z.out (cr)).box;rintro e w5 ⟨G9,A5,n5,c5,a5,e5,p5,rfl,H8,IW,IY⟩;have G8:=Bt.keep (Bt.below Z.out (cr)) G9 Y.out.lt;have hkw5:uh g w w5:=Mba lg G9;clear E tl t0 t1 t2 t3 pl p0 p1 p2 p3 p4 H I J L;have E:=G8.box;have HP5:=kaa H8;obtain⟨rfl,rfl,rfl,JU⟩:=IY;obtain⟨pl,p0,p1,p2,p3,p4,H,I,J,L⟩:=H8);go_quiet (first|(go_at_call 23;refine(IT.out _ ?_).mono ?_;(repeat (first|exact hkw5|refine Bba ?_ _|refine Cba ?_|refine Dba ?_ _));rintro e w' ⟨O,Q⟩;exact⟨O,_,Q⟩));go_wp2_with (go_at_call 244;refine(I6.out _ ?_ ?_).mono ?_;(repeat (first|exact hkw5|refine Bba ?_ _|refine Cba ?_|refine Dba ?_ _));(repeat (first|exact HP5.out|refine Jba ?_ _|refine Kba ?_));rintro e w6 ⟨rfl,JZ,J0⟩);go_ret;refine⟨Mba ?_ JZ,none,0,0,M,q,Ch l M,rfl,J0,ai _ _ _,rfl,rfl,by omega,by omega,[],Sl.nil _ _ _,by simp⟩;exact qd
  ·have hO:Jw l (.inl (x,M)) = .inl (x,M+1):=by unfold Jw;simp only[IU];rfl
   rw[hO];rw[IU]at IT;clear I0 IZ IU hO I6;go_enter Tryz.func218,Tryz.ntmps218;go_wp2_with fail;go_quiet (fail);go_wp2_with fail;go_region;go_wp2_with fail;go_quiet (first|(go_at_call_of 23 (Value.string ⟨#[33]⟩);refine(I2.out _ ?_).mono ?_;(repeat (first|exact Aba _ _|refine Bba ?_ _|refine Cba ?_|refine Dba ?_ _));rintro e w' ⟨O,Q⟩;exact⟨O,_,Q⟩));go_wp2_with fail;generalize IS:Eba (Fba (Eba (Fba w _) _) _) _=wd;have A:Bx w g (.slice (some ⟨G7,G,none⟩) l.length ct) i d t wd:=by subst IS;exact vn Y.out t _ _
   clear IS pl p0 p1 p2 p3 p4 H I J L;have IX:=kaa A;have Z:Hid (Bt w g t wd):=⟨A.box,A.tok⟩;obtain⟨H7,E,⟨tl,t0,t1,t2,t3,_,_,_,_⟩,⟨pl,p0,p1,p2,p3,p4,H,I,J,L⟩⟩:=A;have HKP:=kaa H7;clear H7;go_quiet (first|(go_at_call_of 23 (Value.string ⟨#[45]⟩);refine(I4.out _ ?_).mono ?_;(repeat (first|exact HKP.out|refine Bba ?_ _|refine Cba ?_));rintro e w' ⟨O,Q⟩;exact⟨O,_,Q⟩));go_wp2_with fail;go_quiet (first|(go_at_call_of 23 (Value.string ⟨#[40]⟩);refine(I3.out _ ?_).mono ?_;(repeat (first|exact HKP.out|refine Bba ?_ _|refine Cba ?_));rintro e w' ⟨O,Q⟩;exact⟨O,_,Q⟩));go_wp2_with (go_at_call 245;refine(I5.out _ ?_ ?_ ?_).mono ?_;(repeat (first|exact HKP.out|refine Bba ?_ _|refine Cba ?_|refine Dba ?_ _));(repeat (first|exact IX.out.par|refine Jba ?_ _|refine Kba ?_|refine Hba ?_ (al _ _)));exact(Bt.below Z.out (cr)).box;rintro e w5 ⟨G9,A5,n5,c5,a5,e5,p5,rfl,H8,IW,IY⟩;have G8:=Bt.keep (Bt.below Z.out (cr)) G9 Y.out.lt;have hkw5:uh g w w5:=Mba lg G9;clear E tl t0 t1 t2 t3 pl p0 p1 p2 p3 p4 H I J L;have E:=G8.box;have HP5:=kaa H8;obtain⟨rfl,rfl,rfl,JU⟩:=IY;obtain⟨pl,p0,p1,p2,p3,p4,H,I,J,L⟩:=H8);go_quiet (first|(go_at_call 23;refine(IT.out _ ?_).mono ?_;(repeat (first|exact hkw5|refine Bba ?_ _|refine Cba ?_|refine Dba ?_ _));rintro e w' ⟨O,Q⟩;exact⟨O,_,Q⟩));go_wp2_with fail;go_ret;have I7:=Y.out.lt;refine⟨Gba ?_ _ _,A5,n5,c5,(M:Int)+1,0,0,rfl,Iba (i:=M) ?_ _,IW.mono ?_,rfl,rfl,rfl,nk.keep (B:=w.heap.size) JU (IW.mono ?_) I7 (Gba ?_ _ _)⟩;·exact qd
   ·exact ce
   ·exact vc
   ·exact vc
   ·exact Nd
theorem aE(l:List xh)(g:Nat)(v:Value)(i:Nat)(d:Int)(kk k:Nat)(w:World)(L:Cj w g v i d 0 0)(Z:Jm g v l w)(Q:∀ u,Cj u g v i d 0 0→Jm g v l u→Calls maa 218 #[.pointer (some ⟨g,0,none⟩)] u (fk l g v i d k (ti l kk i) u)):Calls maa 188 #[.pointer (some ⟨g,0,none⟩),.int .i64 5] w (fk l g v i d k (Dj (ti l kk) l 0 i) w):=by
 have H:Hid (∀ u,Below w.heap.size w u→Calls maa 218 #[.pointer (some ⟨g,0,none⟩)] u (fk l g v i d k (ti l kk i) u)):=fun u hu=>Q u (L.below hu) (Z.belowB (hu.mono (nba L.lt)));have HR:Hid (Dj (ti l kk) l 0 i=ti l kk i):=rfl;have G:Hid (∀ u:World,Calls maa 217 #[] u fun e w'=>∃ b,e = .returned (.slice (some ⟨b,0,none⟩) 5 5)∧Below u.heap.size u w'):=fun u=>(yK 0 Uf u).mono fun e w' ⟨b,A,c,h1,h2,h3,h4,h5⟩=>⟨b,h1,h5⟩;clear Q L Z;go_enter Tryz.func188,Tryz.ntmps188;go_wp2_with (first
  |(go_at_call 217;refine(G.out _).mono ?_;rintro e w1 ⟨b,rfl,E⟩;have hB:=bt (al _ _) E;have Y:w1.cell? ⟨w.heap.size,0,none⟩=some (.pointer (some ⟨g,0,none⟩)):=(E.cell (p:=⟨w.heap.size,0,none⟩) (by show w.heap.size<_;rw[gba];omega)).trans (Uh w _ _ 0 _ rfl))
  |(go_at_call 218;refine(H.out _ hB).mono ?_;rintro e w2 ⟨J,A,n,c,a,e1,p1,rfl,M,I,O⟩))
 go_ret;rw[HR.out];exact⟨(zba hB).trans J,A,n,c,a,e1,p1,rfl,M,I.mono hB.size,O⟩
end Go.Proofs.YtjcihcncljihoaaGreatDoor

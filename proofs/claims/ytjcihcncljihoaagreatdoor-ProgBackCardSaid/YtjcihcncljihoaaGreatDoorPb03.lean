/- Chapter 05 (programs), joined: NodA. -/
import Derived.Test.YtjcihcncljihoaaGreatDoorPb01
set_option maxRecDepth 100000
set_option maxHeartbeats 1000000
namespace Go.Proofs.YtjcihcncljihoaaGreatDoor
open Go Go.RowKit
set_option linter.unusedVariables false
open Go.Lib renaming hid→kaa
open Int renaming eq_ofNat_of_zero_le→Faa,toNat_natCast→saa
open Go.Proofs.Tryz renaming prog→maa
theorem Zb{P:Prop}(h:P:=by go_enter Tryz.func162,Tryz.ntmps162;go_wp2;go_ret;exact⟨ci HK.out.symm,rfl⟩):P:=h
theorem dc{P:Prop}(h:P:=by go_enter Tryz.func121,Tryz.ntmps121;go_wp2;go_ret;exact⟨ci HO.out.symm,rfl⟩):P:=h
theorem Jc{P:Prop}(h:P:=by go_enter Tryz.func160,Tryz.ntmps160;go_wp2;go_ret;exact⟨ci HK.out.symm,rfl⟩):P:=h
theorem je{P:Prop}(h:P:=by go_wp2_with fail;go_ret;exact⟨ci (HO.out.symm.trans HE.out),rfl⟩):P:=h
theorem df{P:Prop}(h:P:=by go_wp2_with fail;go_ret;exact⟨ci HO.out.symm,rfl⟩):P:=h
theorem Rw(op:Int)(w:World):Calls maa 160 #[.int .i64 op] w fun e w'=>e = .returned (.int .i64 (Lh op))∧w=w':=by
 rcases Nu op with rfl|rfl|rfl|rfl|⟨h1,h2⟩|h;iterate 4
  ·go_enter Tryz.func160,Tryz.ntmps160;go_wp2;go_ret;exact⟨rfl,rfl⟩
 ·have HK:=kaa (Qo h1 h2);have e1:(op==1)=false:=by simp;omega
  have A:(op==2)=false:=by simp;omega
  have E:(op==3)=false:=by simp;omega
  have G:(op==4)=false:=by simp;omega
  exact Jc
 ·have HK:=kaa (PB h);have e1:(op==1)=false:=by simp;omega
  have A:(op==2)=false:=by simp;omega
  have E:(op==3)=false:=by simp;omega
  have G:(op==4)=false:=by simp;omega
  rcases h with h|h
  ·have h5:¬ (5:Int)≤op:=by omega
   exact Jc
  ·have h5:(5:Int)≤op:=by omega
   have h6:¬ op≤(15:Int):=by omega
   exact Jc
theorem Ww(op:Int)(w:World):Calls maa 162 #[.int .i64 op] w fun e w'=>e = .returned (.int .i64 (Lh op))∧w=w':=by
 rcases Nu op with rfl|rfl|rfl|rfl|⟨h1,h2⟩|h;iterate 4
  ·go_enter Tryz.func162,Tryz.ntmps162;go_wp2;go_ret;exact⟨rfl,rfl⟩
 ·have HK:=kaa (Qo h1 h2);have e1:(op==1)=false:=by simp;omega
  have A:(op==2)=false:=by simp;omega
  have E:(op==3)=false:=by simp;omega
  have G:(op==4)=false:=by simp;omega
  exact Zb
 ·have HK:=kaa (PB h);have e1:(op==1)=false:=by simp;omega
  have A:(op==2)=false:=by simp;omega
  have E:(op==3)=false:=by simp;omega
  have G:(op==4)=false:=by simp;omega
  rcases h with h|h
  ·have h5:¬ (5:Int)≤op:=by omega
   exact Zb
  ·have h5:(5:Int)≤op:=by omega
   have h6:¬ op≤(15:Int):=by omega
   exact Zb
theorem QN(l:List Kh)(v:Value)(w:World)(h:Wh w v l)(hl:l.length≤100000)(G:Int):Calls maa 116 #[v,.int .i64 G] w fun e w'=>e = .returned (.int .i64 (Uk l G))∧w=w':=by
 by_cases h0:0<l.length
 ·obtain⟨b,off,c,rfl,hc,bW,J⟩:=h.at_ h0;have M:=kaa J;clear J h;go_enter Tryz.func116,Tryz.ntmps116;go_wp2;go_loop [1,5] (fun i g=>∃ (j:Int) (k:Nat),i = .int .i64 j∧g = .int .i64 k∧k≤300000∧(k≤1∨(0≤j∧j≤l.length∧(k:Int)≤2*j+1))∧Xl l j k=Uk l G) (fun i _=>l.length - (intOf i).toNat);case atStart=>exact⟨G,1,rfl,rfl,by omega,.inl (Nat.le_refl _),rfl⟩
  case round =>
   obtain⟨j,k,rfl,rfl,hk,Y,hE⟩:=hrel;have HE:=kaa hE;clear hE;by_cases bT:k=0;·subst bT;go_wp2_with fail;go_ret;exact⟨ci HE.out,rfl⟩
   ·have b9:(0:Int)<(k:Int):=by omega
    by_cases E:j<0;·have HO:=kaa (oq (l:=l) (by omega:0<k) (.inl E));exact je
    ·obtain⟨m,rfl⟩:=Faa (show 0≤j by omega);by_cases I:m<l.length
     ·have ht:=(M.out m I).op;by_cases H:Lh (l[m]).op<0
      ·have HO:=kaa (EF (by omega:0<k) I H);have Z:Lh (l[m]).op = -1:=by have:=Ro (l[m]).op;omega
       have O:Hid (∀ u,Calls maa 160 #[.int .i64 (l[m]).op] u fun e w'=>e = .returned (.int .i64 (-1))∧u=w'):=fun u=>by rw[← Z];exact Rw _ u
       go_wp2_with (go_at_call 160;refine(O.out _).mono ?_;rintro e w' ⟨rfl,rfl⟩);go_ret;exact⟨ci (HO.out.symm.trans HE.out),rfl⟩
      ·have HO:=kaa (Vy (by omega:0<k) I H);have bV:=(Ro (l[m]).op).2;obtain⟨g,Q⟩:=Faa (show 0≤Lh (l[m]).op by omega);have O:Hid (∀ u,Calls maa 160 #[.int .i64 (l[m]).op] u fun e w'=>e = .returned (.int .i64 (g:Int))∧u=w'):=fun u=>by rw[← Q];exact Rw _ u
       have HG:Hid (k - 1+(Lh (l[m]).op).toNat=k - 1+g):=by show _=_;rw[Q,saa]
       have bY:g≤2:=by omega
       have bZ:((g:Int) == -1)=false:=by rw[beq_eq_false_iff_ne];omega
       clear Q H bV;go_wp2_with (go_at_call 160;refine(O.out _).mono ?_;rintro e w' ⟨rfl,rfl⟩);go_round;case rel =>
        refine⟨((m+1:Nat):Int),k - 1+g,by go_num,?_,by omega,?_,?_⟩
        ·have e:((k - 1+g:Nat):Int)=(k:Int)+(g:Int) - 1:=by omega
         rw[e]
        ·rcases Y with h1|h1;·exact .inr ⟨by omega,by omega,by omega⟩
         ·exact .inr ⟨by omega,by omega,by omega⟩
        ·rw[← HG.out];exact HO.out.symm.trans HE.out
       case measure=>simp[intOf];omega
     ·have HO:=kaa (oq (l:=l) (i:=(m:Int)) (by omega:0<k) (.inr Tf));exact je
 ·obtain⟨A,c,rfl,hc⟩:=h.shape;have L:l.length=0:=by omega
  have HO:=kaa (qx (l:=l) (i:=G) Tf);rw[L];rw[L]at hc;go_enter Tryz.func116,Tryz.ntmps116;go_wp2;go_loop [1,5] (fun i g=>i = .int .i64 G∧g = .int .i64 1) (fun _ _=>0);case atStart=>exact⟨rfl,rfl⟩
  case round =>
   obtain⟨rfl,rfl⟩:=hrel;by_cases E:G<0;·exact df
   ·have hp:(0:Int)≤G:=by omega
    exact df
theorem vw(l:List Kh)(v:Value)(w:World)(h:Wh w v l)(J:l.length≤100000)(E:Int)(H:E<0∨(l.length:Int)≤E):Calls maa 121 #[v,.int .i64 E] w fun e w'=>e = .returned (.int .i64 (Uk l E))∧w=w':=by
 obtain⟨A,c,rfl,I⟩:=h.shape;have HO:=kaa (qx (l:=l) (i:=E) H);by_cases G:E<0;·exact dc
 ·have L:(l.length:Int)≤E:=by omega
  exact dc
theorem cJ(l:List Kh)(v:Value)(w:World)(h:Wh w v l)(Z:l.length≤100000):∀ n m:Nat,l.length≤m+n →
  Calls maa 121 #[v,.int .i64 m] w fun e w'=>e = .returned (.int .i64 (Uk l m))∧w=w'
 |0,m,hn=>vw l v w h Z m (.inr Tf)
 |n+1,m,hn=>by
  by_cases E:m<l.length
  ·have IH:Hid (∀ I:Nat,m<I→Calls maa 121 #[v,.int .i64 I] w fun e w'=>e = .returned (.int .i64 (Uk l I))∧w=w'):=fun I cX=>cJ l v w h Z n I Tf;obtain⟨b,off,c,rfl,hc,cT,H⟩:=h.at_ Tf;have ht:=(H m E).op;clear H h;by_cases A:Lh (l[m]).op<0
   ·have J:=kaa (kN E A);have Q:Lh (l[m]).op = -1:=by have:=Ro (l[m]).op;omega
    have G:Hid (∀ u,Calls maa 162 #[.int .i64 (l[m]).op] u fun e w'=>e = .returned (.int .i64 (-1))∧u=w'):=fun u=>by rw[← Q];exact Ww _ u
    go_enter Tryz.func121,Tryz.ntmps121;go_wp2_with (go_at_call 162;refine(G.out _).mono ?_;rintro e w' ⟨rfl,rfl⟩);go_ret;exact⟨ci J.out.symm,rfl⟩
   ·have J:=kaa (lN E A);have Y:=(Ro (l[m]).op).2;obtain⟨g,O⟩:=Faa (show 0≤Lh (l[m]).op by omega);have G:Hid (∀ u,Calls maa 162 #[.int .i64 (l[m]).op] u fun e w'=>e = .returned (.int .i64 (g:Int))∧u=w'):=fun u=>by rw[← O];exact Ww _ u
    have HG:Hid (Uk l m=Xl l ((m+1:Nat):Int) g):=by show _=_;rw[J.out,O,saa]
    have cU:g≤2:=by omega
    clear O A Y;have e1:decide (l.length≤m)=false:=by simp;omega
    have e2:decide ((m:Int)<0)=false:=by simp
    have e3:decide ((g:Int)<0)=false:=by simp
    go_enter Tryz.func121,Tryz.ntmps121;go_wp2_with (go_at_call 162;refine(G.out _).mono ?_;rintro e w' ⟨rfl,rfl⟩);go_loopw [5,6] (fun i k w'=>w=w'∧∃ j:Nat,j≤g∧i = .int .i64 (Xl l ((m+1:Nat):Int) j)∧k = .int .i64 j) (fun _ k _=>2 - (intOf k).toNat);case atStart=>exact⟨rfl,0,Nat.zero_le _,by rw[mu];go_num,rfl⟩
    case round =>
     obtain⟨rfl,j,hj,rfl,rfl⟩:=hrel;have M:=eE l (m+1) j Tf;have HS:=kaa (Uy l (m+1) j);have HP:Hid (Xl l ((m+1:Nat):Int) j<0→Xl l ((m+1:Nat):Int) g = -1):=by
      show _→_;intro cW;have:∀ d,Xl l ((m+1:Nat):Int) (j+d) = -1:=fun d=>by
       induction d with
       |zero =>
        rcases M with h|h;·exact h
        ·omega
       |succ d ih=>rw[show j+(d+1)=j+d+1 by omega,Uy,ih];rfl
      have:=this (g - j);rw[show j+(g - j)=g by omega]at this;exact this
     have HJ:Hid (∀ x,x=g→j=x→Xl l ((m+1:Nat):Int) j=Xl l ((m+1:Nat):Int) g):=fun x e e2=>by rw[e2,e]
     generalize Xl l ((m+1:Nat):Int) j=z at M HS HP HJ;by_cases cV:j<g
     ·rcases M with rfl|⟨hb1,hb2⟩;·go_wp2_with (go_at_call 162;refine(G.out _).mono ?_;rintro e w' ⟨rfl,rfl⟩);go_ret;exact⟨ci ((HP.out Tf).symm.trans HG.out.symm),rfl⟩
      ·obtain⟨z,rfl⟩:=Faa (show 0≤z by omega);have HC:=kaa (IH.out z Tf);go_wp2_with (first|(go_at_call 162;refine(G.out _).mono ?_;rintro e w' ⟨rfl,rfl⟩)|(go_at_call 121;refine(HC.out).mono ?_;rintro e w' ⟨rfl,rfl⟩));go_roundw;case rel =>
        have L:Xl l ((m+1:Nat):Int) (j+1)=Uk l z:=by rw[HS.out,if_neg Tf]
        rw[← L];exact⟨by trivial,j+1,by omega,rfl,by go_num⟩
       case measure=>simp[intOf];omega
     ·obtain rfl:j=g:=by omega
      go_wp2_with (go_at_call 162;refine(G.out _).mono ?_;rintro e w' ⟨rfl,rfl⟩);go_ret;exact⟨ci ((HJ.out _ rfl rfl).trans HG.out.symm),rfl⟩
  ·exact vw l v w h Z m (.inr Tf)
theorem pD(l:List Kh)(v:Value)(w:World)(h:Wh w v l)(E:l.length≤100000)(A:Int):Calls maa 121 #[v,.int .i64 A] w fun e w'=>e = .returned (.int .i64 (Uk l A))∧w=w':=by
 by_cases G:A<0;·exact vw l v w h E A (.inl G)
 ·obtain⟨m,rfl⟩:=Faa (show 0≤A by omega);exact cJ l v w h E l.length m Tf
end Go.Proofs.YtjcihcncljihoaaGreatDoor

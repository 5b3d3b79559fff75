/- Chapter 05 (programs), joined: RgA, SamA, StrA. -/
import Derived.Test.YtjcihcncljihoaaGreatDoorPb08
import Derived.Lib.AtoiErrMem
set_option maxRecDepth 100000
set_option maxHeartbeats 16000000
namespace Go.Proofs.YtjcihcncljihoaaGreatDoor
open Go Go.RowKit
set_option linter.unusedVariables false
open Bool renaming eq_false_iff→Bca,eq_iff_iff→eaa
open Go.Lib renaming decDigits→Taa,hid→kaa,itoa→Paa
open Go.Lib.decDigits renaming eq_def→Dca
open Go.RowKit.Below renaming refl→Gaa
open Go.Sort renaming grow→Cca
open Go.World renaming drewN→Eba
open List renaming getD_eq_getElem?_getD→faa,getElem?_eq_getElem→Eaa,getElem_mem→dba,map_cons→tca
open Nat renaming le_refl→aaa,lt_of_lt_of_le→mba,zero_le→laa
open bi renaming below→aca
open Go.Proofs.Tryz renaming prog→maa
theorem Za{P:Prop}(h:P:=by cases n3:((vh x.name).toList==[]);all_goals have hR2:=hR;rw[n3]at hR2;have HR:=Lib.hid hR2;clear hR hR2 hnm hM;unfold Hp;go_enter Tryz.func114,Tryz.ntmps114;go_wp2_with fail;go_ret;exact⟨Bh HR.out.symm,al _ _⟩):P:=h
theorem kb{P:Prop}(h:P:=by
 have hR:Ci x=false:=by rw[hM,n1];rfl
 have HR:=Lib.hid (show Ci x=false from hR);clear hR hnm hM;unfold Hp;go_enter Tryz.func114,Tryz.ntmps114;go_wp2_with fail;go_ret;exact⟨Bh HR.out.symm,al _ _⟩):P:=h
theorem Ab{P:Prop}(h:P:=by
 go_roundw;case rel =>
  refine⟨bt HBW.out (bt (ii (al _ _) _) hb3),j+1,by omega,by go_num,fun j' hlt=>?_⟩;by_cases hjj:j'<j;·exact HALL.out j' hjj
  ·exact HT2.out j' (by omega)
 case measure=>simp[intOf];omega):P:=h
theorem Bb{P:Prop}(h:P:=by
 skip;have e12:((vh x.name).toList != [])=true:=by unfold bne;rw[e1];rfl
 have HM:Hid (Fh l=false):=HBAD.out (by rw[HE.out];simp[*]);go_wp2_with fail;go_ret;exact⟨Bh HM.out.symm,bt HB.out (al _ _)⟩):P:=h
theorem Db{P:Prop}(h:P:=by clear hN hnm;go_enter Tryz.func136,Tryz.ntmps136;go_wp2_with fail;go_ret;exact⟨Bh HR.out.symm,by repeat (first|exact Below.refl _ _|refine ii ?_ _)⟩):P:=h
theorem Kb{P:Prop}(h:P:=by
 have HM:=Lib.hid (HF.out (by rw[HE.out];simp[*]));go_wp2_with fail;go_roundw;case rel=>exact⟨j+1,by omega,by go_num,bt HB.out (al _ _),HM.out⟩
 case measure=>simp[intOf];omega):P:=h
theorem Ob{P:Prop}(h:P:=by clear hE hv hn;go_enter Tryz.func49,Tryz.ntmps49;go_wp2_with fail;go_ret;exact⟨Bh HR.out.symm,Below.refl _ _⟩):P:=h
theorem Qb{P:Prop}(h:P:=by clear hR hnm;unfold Hp;go_enter Tryz.func114,Tryz.ntmps114;go_wp2_with fail;go_ret;exact⟨Bh HR.out.symm,al _ _⟩):P:=h
theorem Xb{P:Prop}(h:P:=by skip;have HM:Hid (Fh l=false):=HBAD.out (by rw[HE.out];simp[*]);go_wp2_with fail;go_ret;exact⟨Bh HM.out.symm,bt HB.out (al _ _)⟩):P:=h
theorem Hc{P:Prop}(h:P:=by show _=_;rw[List.all_eq_true];intro x hx;obtain⟨j',hj',rfl⟩:=List.mem_iff_getElem.1 hx;exact HNO.out j' hj' (by omega)):P:=h
theorem Sc{P:Prop}(h:P:=by show _=_;rw[Bool.eq_false_iff];intro h;rw[List.all_eq_true]at h;rw[h _ (List.getElem_mem hjl)]at his;cases his):P:=h
theorem Wc{P:Prop}(h:P:=by
 by_cases h3:x.n=0;·rw[h3];simp
 ·have g3:(x.n==0)=false:=by rw[beq_eq_false_iff_ne];exact h3
  rw[g3];simp):P:=h
theorem Wd{P:Prop}(h:P:=by go_ret;exact⟨Bh HF2.out.symm,bt HBW.out (bt (ii (al _ _) _) hb3)⟩):P:=h
theorem ve{P:Prop}(h:P:=by go_wp2_with fail;go_ret;exact⟨Bh HR.out.symm,Below.refl _ _⟩):P:=h
theorem Je{P:Prop}(h:P:=by go_wp2_with fail;go_ret;exact⟨HB.out,-1,rfl,by rw[HY.out];rfl⟩):P:=h
theorem Se{P:Prop}(h:P:=by go_ret;first|exact⟨Bh hz,hb1⟩|exact⟨rfl,hb1⟩):P:=h
theorem lf{P:Prop}(h:P:=by go_ret;exact⟨bt HB.out hb2,j,rfl,by rw[HR.out];simp⟩):P:=h
theorem ig{P:Prop}(h:P:=by have:=HL.out;omega):P:=h
def Hp(x:Kh):Value:=.agg #[.int .i64 x.op,.int .i64 x.n,.string (vh x.name),.int .i64 x.pos]
theorem vP(x:Kh)(hx:x.name.length≤1000000)(w:World)(Q:Xj w):Calls maa 114 #[Hp x] w fun e w'=>e = .returned (.bool (Ci x))∧Below w.heap.size w w':=by
 have hnm:(x.name==[])=((vh x.name).toList==[]):=by rw[Ah]
 have O:Hid (∀ u,Below w.heap.size w u→Calls maa 44 #[.string (vh x.name)] u (Gj x.name u)):=fun u hu=>dq x.name hx u (Q.below hu);unfold Gj at O;clear Q;by_cases A:x.pos<0
 ·have hR:Ci x=false:=by unfold Ci;rw[if_pos (by simp[A])]
  have HR:=kaa hR;have Z:decide (x.pos<0)=true:=by simp[A]
  exact Qb
 ·have Z:decide (x.pos<0)=false:=by simp[A]
  by_cases E:4000<x.pos
  ·have J:decide ((4000:Int)<x.pos)=true:=by simp[E]
   have hR:Ci x=false:=by unfold Ci;rw[if_pos (by simp[E])]
   have HR:=kaa (show Ci x=false from hR);exact Qb
  ·have J:decide ((4000:Int)<x.pos)=false:=by simp[E]
   by_cases G:x.op=1
   ·have L:(x.op==1)=true:=by simp[G]
    have hM:Ci x=(decide (0≤x.n)&&decide (x.n≤4294967296)&&(x.name==[])):=by unfold Ci;rw[if_neg (by simp[A,E]),if_pos G]
    rw[hnm]at hM;cases n1:decide (0≤x.n);·exact kb
    ·cases Y:decide (x.n≤4294967296)
     ·have hR:Ci x=false:=by rw[hM,n1,Y];rfl
      have HR:=kaa (show Ci x=false from hR);clear hR hnm hM;unfold Hp;go_enter Tryz.func114,Tryz.ntmps114;go_wp2_with fail;go_ret;exact⟨Bh HR.out.symm,al _ _⟩
     ·have hR:Ci x=((vh x.name).toList==[]):=by rw[hM,n1,Y];rfl
      exact Za
   ·have L:(x.op==1)=false:=by simp[G]
    by_cases H:x.op=2
    ·have M:(x.op==2)=true:=by simp[H]
     have hM:Ci x=((x.n==0)&&Hh x.name):=by unfold Ci;rw[if_neg (by simp[A,E]),if_neg G,if_pos H]
     cases n1:(x.n==0);·exact kb
     ·have hR:Ci x=Hh x.name:=by rw[hM,n1];rfl
      have HR:=kaa (show Ci x=Hh x.name from hR);clear hR hnm hM;unfold Hp;go_enter Tryz.func114,Tryz.ntmps114;go_wp2_with (go_at_call 44;refine(O.out _ (al _ _)).mono ?_;rintro e w1 ⟨rfl,I⟩);go_ret;exact⟨Bh HR.out.symm,bt (al _ _) I⟩
    ·have M:(x.op==2)=false:=by simp[H]
     have hM:Ci x=((x.n==0)&&(x.name==[])):=by unfold Ci;rw[if_neg (by simp[A,E]),if_neg G,if_neg H]
     rw[hnm]at hM;cases n1:(x.n==0);·exact kb
     ·have hR:Ci x=((vh x.name).toList==[]):=by rw[hM,n1];rfl
      exact Za
theorem rP(x:Kh)(I:x.name.length≤1000000)(w:World)(G:Xj w):Calls maa 113 #[Hp x] w fun e w'=>e = .returned (.bool (!Ci x))∧Below w.heap.size w w':=by have A:Hid (∀ u,Below w.heap.size w u→Calls maa 114 #[Hp x] u fun e w'=>e = .returned (.bool (Ci x))∧Below u.heap.size u w'):=fun u H=>vP x I u (G.below H);generalize Ci x=m at A;clear G;unfold Hp at A ⊢;go_enter Tryz.func113,Tryz.ntmps113;go_wp2_with (go_at_call 114;refine(A.out _ (al _ _)).mono ?_;rintro e w1 ⟨rfl,E⟩);go_ret;exact⟨rfl,bt (al _ _) E⟩
theorem lK(l:List Kh)(hl:l.length≤100000)(hn:∀ x∈l,x.name.length≤1000000)(v:Value)(w:World)(Z:Wh w v l)(hE:Xj w):Calls maa 159 #[v,.func (.func 113) #[] #[]] w fun e w'=>Below w.heap.size w w'∧∃ z:Int,e = .returned (.int .i64 z)∧(decide (0≤z)=!l.all Ci):=by
 obtain⟨A0,c0,rfl,af⟩:=Z.shape;have HC:Hid (∀ x∈l,∀ u,Below w.heap.size w u→Calls maa 113 #[Hp x] u fun e w'=>e = .returned (.bool (!Ci x))∧Below u.heap.size u w'):=fun x hx u E=>rP x (hn x hx) u (hE.below E);have HV:=kaa Z;clear hE Z hn;go_enter Tryz.func159,Tryz.ntmps159;go_wp2_with fail;go_loopw [8] (fun k wr=>∃ j:Nat,j≤l.length∧k = .int .i64 j∧Below w.heap.size w wr∧∀ j' (h:j'<l.length),j'<j→Ci (l[j'])=true) (fun k _=>l.length - (intOf k).toNat);case atStart=>exact⟨0,laa _,rfl,Gaa _ _,fun j' _ h=>absurd h Tf⟩
 case round =>
  obtain⟨j,hj,rfl,E,I⟩:=hrel;have HNO:=kaa I;have HB:=kaa E;clear I;by_cases hjl:j<l.length
  ·obtain⟨b,off,c,Y,al,G,H⟩:=HV.out.at_ Tf;cases Y;have Q:=H j hjl;have J:=(E.cell (p:=⟨_,_,none⟩) G).trans Q.op;have L:=(E.cell (p:=⟨_,_,none⟩) G).trans Q.n;have M:=(E.cell (p:=⟨_,_,none⟩) G).trans Q.name;have O:=(E.cell (p:=⟨_,_,none⟩) G).trans Q.pos;have A:=kaa (HC.out (l[j]) (dba hjl) wr E);clear E H Q;have ad:(j:Int)<(l.length:Int):=by omega
   cases his:Ci (l[j])
   ·have HR:Hid (l.all Ci=false):=by exact Sc
    rw[his]at A;clear his;generalize l[j]=x at J L M O A;unfold Hp at A;go_wp2_with (go_at_call 113;refine(A.out).mono ?_;rintro e w2 ⟨rfl,hb2⟩);exact lf
   ·have HF:Hid (∀ j' (h:j'<l.length),j'<j+1→Ci (l[j'])=true):=fun j' h av=>by exact Md
    rw[his]at A;clear his;generalize l[j]=x at J L M O A;unfold Hp at A;go_wp2_with (go_at_call 113;refine(A.out).mono ?_;rintro e w2 ⟨rfl,hb2⟩);exact ed
  ·have ao:j=l.length:=by omega
   have HY:Hid (l.all Ci=true):=by exact Hc
   exact Je
theorem lC(l:List Kh)(J:l.length≤100000)(G:∀ x∈l,x.name.length≤1000000)(v:Value)(w:World)(A:Wh w v l)(E:Xj w):Calls maa 115 #[v,.func (.func 113) #[] #[]] w fun e w'=>e = .returned (.bool (!l.all Ci))∧Below w.heap.size w w':=by obtain⟨L,c0,rfl,I⟩:=A.shape;have H:=kaa (lK l J G _ w A E);clear E A G;go_enter Tryz.func115,Tryz.ntmps115;go_wp2_with (go_at_call 159;refine(H.out).mono ?_;rintro e w1 ⟨hb1,z,rfl,hz⟩);exact Se
theorem bA(l:List Kh)(hl:l.length≤100000)(hn:∀ x∈l,x.name.length≤1000000)(v:Value)(w:World)(hv:Wh w v l)(hE:Xj w):Calls maa 49 #[v] w fun e w'=>e = .returned (.bool (Fh l))∧Below w.heap.size w w':=by
 obtain⟨A0,c0,rfl,ao⟩:=hv.shape;by_cases Z:l.length=0
 ·have HR:Hid (Fh l=false):=Hr (by rw[qx (.inr Tf)];omega);have hz:((l.length:Int)==0)=true:=by simp[Z]
  exact Ob
 ·have hz:((l.length:Int)==0)=false:=by rw[beq_eq_false_iff_ne];omega
  by_cases ad:40<l.length
  ·have HR:Hid (Fh l=false):=sw ad;have J:decide ((40:Int)<(l.length:Int))=true:=by simp;omega
   exact Ob
  ·have J:decide ((40:Int)<(l.length:Int))=false:=by simp;omega
   have I:=kaa (lC l hl hn _ w hv hE);have E:Hid (∀ u,Below w.heap.size w u→Calls maa 116 #[.slice A0 l.length c0,.int .i64 0] u fun e w'=>e = .returned (.int .i64 (Uk l 0))∧u=w'):=fun u hu=>QN l _ u (hv.below hu) hl 0;have G:Hid (∀ e:Ex,e.ok→l=e.flat→∀ u,Below w.heap.size w u→Calls maa 117 #[.slice A0 l.length c0,.int .i64 0] u fun r w'=>r = .returned (.int .i64 e.deep)∧Below u.heap.size u w'):=fun e H af u hu=>by subst af;exact Wz e H _ u (hv.below hu) hl
   have al:=Z;clear hE hv hn Z;cases hm:l.all Ci;·have HR:=kaa (qw hm);rw[hm]at I;clear hm;go_enter Tryz.func49,Tryz.ntmps49;go_wp2_with (go_at_call 115;refine(I.out).mono ?_;rintro e w1 ⟨rfl,A⟩);go_ret;exact⟨Bh HR.out.symm,A⟩
   ·by_cases H:Uk l 0=(l.length:Int)
    ·obtain⟨t,ht,Q,Y⟩:=fs H;have HR:Hid (Fh l=decide (t.deep≤12)):=by show _=_;unfold Fh;rw[Y];simp only;rw[hm,decide_eq_true (show l.length≤40 by omega)];rfl
     have HD:=kaa (G.out t ht Q);rw[hm]at I;rw[H]at E;have M:((l.length:Int) != (l.length:Int))=false:=by simp
     have O:decide ((t.deep:Int)≤12)=decide (t.deep≤12):=by rw[decide_eq_decide];omega
     clear hm H Q Y ht G;generalize t.deep=d at HR HD O;go_enter Tryz.func49,Tryz.ntmps49;go_wp2_with (first
      |(go_at_call 115;refine(I.out).mono ?_;rintro e w1 ⟨rfl,A⟩)
      |(go_at_call 116;refine(E.out _ A).mono ?_;rintro e w2 ⟨rfl,rfl⟩)
      |(go_at_call 117;refine(HD.out _ A).mono ?_;rintro e w2 ⟨rfl,L⟩))
     go_ret;first|exact⟨Bh (O.trans HR.out.symm),bt A L⟩|exact⟨Bh HR.out.symm,bt A L⟩
    ·have HR:=kaa (Hr H);have M:(Uk l 0 != (l.length:Int))=true:=by rw[bne_iff_ne];exact H
     rw[hm]at I;clear hm H G;generalize Uk l 0=z at E M;go_enter Tryz.func49,Tryz.ntmps49;go_wp2_with (first
      |(go_at_call 115;refine(I.out).mono ?_;rintro e w1 ⟨rfl,A⟩)
      |(go_at_call 116;refine(E.out _ A).mono ?_;rintro e w2 ⟨rfl,rfl⟩))
     go_ret;exact⟨Bh HR.out.symm,A⟩
theorem CM(x:Kh):Ci x=!(decide (x.pos<0)||decide (4000<x.pos)||(!(x.op==1)&&!(x.n==0))||(!(x.op==2)&&!((vh x.name).toList==[]))||decide (x.n<0)||decide (4294967296<x.n)||((x.op==2)&&!Hh x.name)):=by
 rw[Ah];unfold Ci;by_cases h:(decide (x.pos<0)||decide (4000<x.pos))=true;·rw[if_pos h,h];rfl
 ·rw[if_neg h,Bca.2 h];by_cases E:x.op=1
  ·rw[if_pos E,E];by_cases A:x.name=[];·rw[A,eaa];simp
   ·rw[eaa];simp[A]
  ·have G:(x.op==1)=false:=by rw[beq_eq_false_iff_ne];exact E
   rw[if_neg E,G];by_cases A:x.op=2;·rw[if_pos A,A];exact Wc
   ·have H:(x.op==2)=false:=by rw[beq_eq_false_iff_ne];exact A
    rw[if_neg A,H];exact Wc
theorem jJ(l:List Kh)(hl:l.length≤100000)(hn:∀ x∈l,x.name.length≤1000000)(v:Value)(w:World)(O:Wh w v l):Calls maa 55 #[v] w fun e w'=>e = .returned (.bool (Fh l))∧Below w.heap.size w w':=by
 obtain⟨A0,c0,rfl,a6⟩:=O.shape;by_cases aW:40<l.length
 ·have HR:Hid (Fh l=false):=sw aW;have ad:decide ((40:Int)<(l.length:Int))=true:=by simp;omega
  clear O hn;go_enter Tryz.func55,Tryz.ntmps55;exact ve
 ·have ad:decide ((40:Int)<(l.length:Int))=false:=by simp;omega
  have A:Hid (∀ u,Below w.heap.size w u→Calls maa 121 #[.slice A0 l.length c0,.int .i64 0] u fun e w'=>e = .returned (.int .i64 (Uk l 0))∧u=w'):=fun u hu=>pD l _ u (O.below hu) hl 0;have G:Hid (∀ e:Ex,e.ok→l=e.flat→∀ u,Below w.heap.size w u→Calls maa 122 #[.slice A0 l.length c0,.int .i64 0] u fun r w'=>r = .returned (.int .i64 e.deep)∧u=w'):=fun e I aY u hu=>by subst aY;exact yz e I _ u (O.below hu) hl
  by_cases I:Uk l 0=(l.length:Int)
  ·obtain⟨t,ht,M,aU⟩:=fs I;have Z:Hid (l.all Ci=true→Fh l=decide (t.deep≤12)):=by show _→_;intro hm;unfold Fh;rw[aU];simp only;rw[hm,decide_eq_true (show l.length≤40 by omega)];rfl
   have HD:=kaa (G.out t ht M);rw[I]at A;have ao:((l.length:Int) != (l.length:Int))=false:=by simp
   have av:decide ((t.deep:Int)≤12)=decide (t.deep≤12):=by rw[decide_eq_decide];omega
   have HV:=kaa O;have HN:=kaa hn;clear I M aU ht G O hn;generalize t.deep=d at Z HD av;go_enter Tryz.func55,Tryz.ntmps55;go_wp2_with (go_at_call 121;refine(A.out _ (Gaa _ _)).mono ?_;rintro e w2 ⟨rfl,rfl⟩);go_loopw [3] (fun k wr=>∃ j:Nat,j≤l.length∧k = .int .i64 j∧Below w.heap.size w wr∧∀ j' (h:j'<l.length),j'<j→Ci (l[j'])=true) (fun k _=>l.length - (intOf k).toNat);case atStart=>exact⟨0,laa _,rfl,Gaa _ _,fun j' _ h=>absurd h Tf⟩
   case round =>
    obtain⟨j,hj,rfl,Y,aT⟩:=hrel;have HNO:=kaa aT;have HB:=kaa Y;clear aT;by_cases L:j<l.length
    ·obtain⟨b,off,c,aX,a7,H,af⟩:=HV.out.at_ Tf;cases aX;have x1:=af j L;have aZ:=(Y.cell (p:=⟨_,_,none⟩) H).trans x1.op;have a0:=(Y.cell (p:=⟨_,_,none⟩) H).trans x1.n;have a1:=(Y.cell (p:=⟨_,_,none⟩) H).trans x1.name;have a2:=(Y.cell (p:=⟨_,_,none⟩) H).trans x1.pos;have E:Hid (∀ u,Calls maa 94 #[.string (vh (l[j]).name)] u (Gj (l[j]).name u)):=fun u=>QE _ (HN.out _ (dba L)) u;unfold Gj at E;have a5:(j:Int)<(l.length:Int):=by omega
     have HBAD:Hid (Ci (l[j])=false→Fh l=false):=fun h=>qw (by rw[Bca];intro g;rw[List.all_eq_true]at g;rw[g _ (dba L)]at h;cases h);have HF:Hid (Ci (l[j])=true→∀ j' (h:j'<l.length),j'<j+1→Ci (l[j'])=true):=fun his j' h M=>by exact Md
     clear Y af x1;generalize l[j]=x at aZ a0 a1 a2 E HBAD HF;have HE:=kaa (CM x);cases p1:(decide (x.pos<0))
     ·skip;cases p2:(decide (4000<x.pos))
      ·skip;cases o1:(x.op==1)
       ·skip;have a3:(x.op != 1)=true:=by unfold bne;rw[o1];rfl
        cases z1:(x.n==0)
        ·skip;have a4:(x.n != 0)=true:=by unfold bne;rw[z1];rfl
         have HM:Hid (Fh l=false):=HBAD.out (by rw[HE.out];simp[*]);go_wp2_with fail;go_ret;exact⟨Bh HM.out.symm,bt HB.out (al _ _)⟩
        ·skip;have a4:(x.n != 0)=false:=by unfold bne;rw[z1];rfl
         cases o2:(x.op==2)
         ·skip;have aV:(x.op != 2)=true:=by unfold bne;rw[o2];rfl
          have Q:x.n=0:=by simpa using z1
          have n1:decide (x.n<0)=false:=by simp[Q]
          have n2:decide (4294967296<x.n)=false:=by simp[Q]
          clear Q;cases e1:((vh x.name).toList==[]);·exact Bb
          ·skip;have e12:((vh x.name).toList != [])=false:=by unfold bne;rw[e1];rfl
           exact Kb
         ·skip;have aV:(x.op != 2)=false:=by unfold bne;rw[o2];rfl
          have Q:x.n=0:=by simpa using z1
          have n1:decide (x.n<0)=false:=by simp[Q]
          have n2:decide (4294967296<x.n)=false:=by simp[Q]
          clear Q;cases nm:(Hh x.name);·skip;rw[nm]at E;have HM:Hid (Fh l=false):=HBAD.out (by rw[HE.out];simp[*]);go_wp2_with (go_at_call 94;refine(E.out _).mono ?_;rintro e w1 ⟨rfl,J⟩);go_ret;exact⟨Bh HM.out.symm,bt (bt HB.out (al _ _)) J⟩
          ·skip;rw[nm]at E;have HM:=kaa (HF.out (by rw[HE.out];simp[*]));go_wp2_with (go_at_call 94;refine(E.out _).mono ?_;rintro e w1 ⟨rfl,J⟩);go_roundw;case rel=>exact⟨j+1,by omega,by go_num,bt (bt HB.out (al _ _)) J,HM.out⟩
           case measure=>simp[intOf];omega
       ·skip;have a3:(x.op != 1)=false:=by unfold bne;rw[o1];rfl
        have ho:x.op=1:=by simpa using o1
        have o2:(x.op==2)=false:=by rw[ho];rfl
        have aV:(x.op != 2)=true:=by rw[ho];rfl
        clear ho;cases e1:((vh x.name).toList==[]);·exact Bb
        ·skip;have e12:((vh x.name).toList != [])=false:=by unfold bne;rw[e1];rfl
         cases n1:(decide (x.n<0))
         ·skip;cases n2:(decide (4294967296<x.n));·skip;exact Kb
          ·exact Xb
         ·exact Xb
      ·exact Xb
     ·exact Xb
    ·have a8:j=l.length:=by omega
     have HY:Hid (l.all Ci=true):=by exact Hc
     have HR:=kaa (Z.out HY.out);go_wp2_with (go_at_call 122;refine(HD.out _ HB.out).mono ?_;rintro e w2 ⟨rfl,rfl⟩);go_ret;first|exact⟨Bh (av.trans HR.out.symm),HB.out⟩|exact⟨Bh HR.out.symm,HB.out⟩
  ·have HR:=kaa (Hr I);have ao:(Uk l 0 != (l.length:Int))=true:=by rw[bne_iff_ne];exact I
   clear I G O hn;generalize Uk l 0=z at A ao;go_enter Tryz.func55,Tryz.ntmps55;go_wp2_with (go_at_call 121;refine(A.out _ (Gaa _ _)).mono ?_;rintro e w2 ⟨rfl,rfl⟩);go_ret;exact⟨Bh HR.out.symm,Gaa _ _⟩
theorem eI(w:World)(k:Nat)(os:Array Obj):Below w.heap.size w (Cca (w.drewN k) os):=by
 refine⟨rfl,rfl,rfl,?_,fun i hi=>?_⟩;·simp[Cca,Eba]
 ·simp only[Cca,Eba];exact Array.getElem?_append_left hi
theorem Sh(a b:List UInt8):vh (a++b)=vh a++vh b:=(ByteArray.mk_append_mk a b).symm
theorem VC(n:Int)(H:0≤n)(I:n≤4294967296)(w:World)(E:Xj w):Calls maa 125 #[.int .i64 n] w fun e w'=>e = .returned (.string (vh (Paa n)))∧Below w.heap.size w w':=by
 have G:=kaa E;have A:Hid (-9223372036854775808≤n∧n≤9223372036854775807):=by show _∧_;omega
 clear E H I;go_enter Tryz.func125,Tryz.ntmps125;go_wp2_with (go_at_call 166;refine(Tryz.strconv_Itoa n A.out.1 A.out.2 w G.out.tab).mono ?_;rintro e w' ⟨rfl,k,os,rfl⟩);go_ret;exact⟨rfl,eI _ _ _⟩
theorem Au(n:Int)(E:0≤n)(G:n<10)(w:World):Calls maa 130 #[.int .i64 n] w fun e w'=>e = .returned (.string (vh (Paa n)))∧Below w.heap.size w w':=by
 have L:decide (0≤n)=true:=by simpa using E
 have H:decide (n<10)=true:=by simpa using G
 have A:∀ u:World,(convert 51 9 (.slice (some ⟨w.heap.size,0,none⟩) 1 1)).run maa (w.alloc (.cells #[.int .u8 (48+n)] 5)) = .ok (.string (vh (Paa n))) (w.alloc (.cells #[.int .u8 (48+n)] 5)):=by
  intro u;have h:=run_convert_bytes_back (P:=maa) (w.alloc (.cells #[.int .u8 (48+n)] 5)) 51 9 5 ⟨w.heap.size,0,none⟩ 1 (Paa n) Tryz.underlying51 Tryz.underlying5 Tryz.underlying9;have J:Paa n=[UInt8.ofNat (48+n.toNat)]:=by rw[Paa,if_neg Tf,Taa,dif_pos Tf]
  rw[J]at h ⊢;refine h ?_;intro j I;obtain rfl:j=0:=by simpa using I
  have:(48+n.toNat) % 256=48+n.toNat:=Nat.mod_eq_of_lt Tf;simp[go_sem,this];omega
 have A:=A w;go_enter Tryz.func130,Tryz.ntmps130;go_wp2_with fail;go_ret;exact⟨rfl,(Gaa _ _).alloc (aaa _) _⟩
theorem xH(n:Int)(h:10≤n):Paa n=Paa (n / 10)++Paa (n % 10):=by
 unfold Paa;rw[if_neg Tf,if_neg Tf,if_neg Tf,Taa,dif_neg Tf,Dca ((n % 10).toNat),dif_pos Tf];congr 2;·congr 1;omega
 ·congr 2;omega
theorem Rp(n:Int)(A:0≤n)(E:n≤4294967296):(vh (Paa n)).size≤20:=by rw[Dh];obtain⟨c,r,G,H,I⟩:=Nm A E;omega
theorem YL(k:Nat):∀ (n:Int) (w:World),n.natAbs≤k→0≤n→n≤4294967296→Calls maa 130 #[.int .i64 n] w fun e w'=>e = .returned (.string (vh (Paa n)))∧Below w.heap.size w w':=by
 induction k with
 |zero=>intro n w O E Q;exact Au n Tf Tf w
 |succ k ih =>
  intro n w O E Q
  by_cases L:n<10
  ·exact Au n E L w
  ·have Y:decide (0≤n)=true:=by simpa using E
   have M:decide (n<10)=false:=by simpa using L
   have H:=kaa (xH n Tf);have z1:=Rp (n / 10) Tf Tf;have z2:=Rp (n % 10) Tf Tf;have I:=kaa (ih (n / 10) w Tf Tf Tf);have J:=kaa (fun w'=>ih (n % 10) w' Tf Tf Tf);clear ih;go_enter Tryz.func130,Tryz.ntmps130;go_wp2_with fail;refine I.out.mono ?_;rintro e w1 ⟨rfl,A⟩;go_wp2_with fail;refine(J.out _).mono ?_;rintro e Z ⟨rfl,G⟩;go_wp2_with fail;go_ret;exact⟨Rl (by rw[H.out,Sh]),A.trans (G.mono A.size)⟩
theorem ZL(n:Int)(A:0≤n)(E:n≤4294967296)(w:World) :
 Calls maa 130 #[.int .i64 n] w fun e w'=>e = .returned (.string (vh (Paa n)))∧Below w.heap.size w w' :=
 YL n.natAbs n w (aaa _) A E
theorem VL(x y:Kh)(w:World):Calls maa 136 #[Hp x,Hp y] w fun e w'=>e = .returned (.bool (Om false x y))∧Below w.heap.size w w':=by
 have hnm:(x.name==y.name)=((vh x.name).toList==(vh y.name).toList):=by rw[Ah,Ah]
 have hN:Om false x y=((x.op==y.op)&&(x.n==y.n)&&((vh x.name).toList==(vh y.name).toList)):=by rw[← hnm];unfold Om bne;cases(x.op==y.op)<;>cases(x.n==y.n)<;>cases(x.name==y.name)<;>rfl
 unfold Hp;cases A:(x.op==y.op)
 ·have HR:Hid (Om false x y=false):=by show _=_;rw[hN,A];rfl
  exact Db
 ·cases E:(x.n==y.n)
  ·have HR:Hid (Om false x y=false):=by show _=_;rw[hN,A,E];rfl
   exact Db
  ·have HR:Hid (Om false x y=((vh x.name).toList==(vh y.name).toList)):=by show _=_;rw[hN,A,E];rfl
   cases G:((vh x.name).toList==(vh y.name).toList);all_goals rw[G]at HR;exact Db
def nd(l:List Kh)(i:Nat):Kh:=l.getD i ⟨0,0,[],0⟩
theorem Dy{l:List Kh}{i:Nat}(h:i<l.length):nd l i=l[i]:=by unfold nd;rw[faa,Eaa h];rfl
theorem gN(a b:List Kh)(ha:a.length≤100000)(hb:b.length≤100000)(va vb:Value)(w:World)(hA:Wh w va a)(hB:Wh w vb b):Calls maa 135 #[va,vb,.func (.func 136) #[] #[]] w fun e w'=>e = .returned (.bool (tj false a b))∧Below w.heap.size w w':=by
 obtain⟨A1,c1,rfl,a2⟩:=hA.shape;obtain⟨A2,c2,rfl,a3⟩:=hB.shape;by_cases Z:a.length=b.length
 ·have ao:((a.length:Int) != (b.length:Int))=false:=by simp[Z]
  have HA:=kaa hA;have HB:=kaa hB;have HS:Hid (∀ x y u,Calls maa 136 #[Hp x,Hp y] u fun e w'=>e = .returned (.bool (Om false x y))∧Below u.heap.size u w'):=fun x y u=>VL x y u;have HL:=kaa Z;clear hA hB Z;go_enter Tryz.func135,Tryz.ntmps135;go_wp2_with fail;go_loopw [17] (fun k wr=>Below w.heap.size w wr∧∃ j:Nat,j≤a.length∧k = .int .i64 j∧∀ j',j'<j→Om false (nd a j') (nd b j')=true) (fun k _=>a.length - (intOf k).toNat);case atStart=>exact⟨Gaa _ _,0,laa _,rfl,fun j' h=>absurd h Tf⟩
  case round =>
   obtain⟨A,j,hj,rfl,J⟩:=hrel;have HBW:=kaa A;have HALL:=kaa J;clear J;by_cases I:j<a.length
   ·obtain⟨b1,o1,k1,ad,a7,G,L⟩:=Wh.at_ (l:=a) HA.out Tf;obtain⟨b2,o2,k2,af,a8,H,M⟩:=Wh.at_ (l:=b) HB.out ig;cases ad;cases af;have Q:=L j I;have Y:=M j ig;rw[← Dy I]at Q;rw[← Dy ig]at Y;have av:=(A.cell (p:=⟨_,_,none⟩) G).trans Q.op;have aT:=(A.cell (p:=⟨_,_,none⟩) G).trans Q.n;have aU:=(A.cell (p:=⟨_,_,none⟩) G).trans Q.name;have aV:=(A.cell (p:=⟨_,_,none⟩) G).trans Q.pos;have aW:=(A.cell (p:=⟨_,_,none⟩) H).trans Y.op;have aX:=(A.cell (p:=⟨_,_,none⟩) H).trans Y.n;have aY:=(A.cell (p:=⟨_,_,none⟩) H).trans Y.name;have aZ:=(A.cell (p:=⟨_,_,none⟩) H).trans Y.pos;have HF:Hid (Om false (nd a j) (nd b j)=false→tj false a b=false):=fun h=>iw HL.out j I (by rw[Dy I,Dy ig]at h;exact h);have HT:Hid (Om false (nd a j) (nd b j)=true→∀ j',j'=j→Om false (nd a j') (nd b j')=true):=fun h j' e=>by subst e;exact h
    have a4:(0:Int)≤(j:Int):=Int.natCast_nonneg _;have a5:(j:Int)<(a.length:Int):=by omega
    have a6:(j:Int)<(b.length:Int):=by have:=HL.out;omega
    have a0:=mba G A.size;have a1:=mba H A.size;clear L M Q Y A;generalize nd a j=x at av aT aU aV HF HT;generalize nd b j=y at aW aX aY aZ HF HT;have E:=kaa (HS.out x y);unfold Hp at E;cases O:Om false x y;·rw[O]at E;have HF2:=kaa (HF.out O);clear O;go_wp2_with (go_at_call 136;refine(E.out _).mono ?_;rintro e w3 ⟨rfl,hb3⟩);exact Wd
    ·rw[O]at E;have HT2:=kaa (HT.out O);clear O;go_wp2_with (go_at_call 136;refine(E.out _).mono ?_;rintro e w3 ⟨rfl,hb3⟩);exact Ab
   ·have HY:=kaa (Rt (pl:=false) HL.out (fun i hi=>by have:=HALL.out i Tf;rw[Dy hi,Dy ig]at this;exact this));exact Re
 ·have ao:((a.length:Int) != (b.length:Int))=true:=by rw[bne_iff_ne];omega
  have HN:=kaa (Tt (pl:=false) Z);go_enter Tryz.func135,Tryz.ntmps135;exact te
theorem xE(a b:List Kh)(ha:a.length≤100000)(J:b.length≤100000)(G H:Value)(w:World)(A:Wh w G a)(hB:Wh w H b):Calls maa 72 #[G,H] w fun e w'=>e = .returned (.bool (tj false a b))∧Below w.heap.size w w':=by have I:=kaa (gN a b ha J G H w A hB);obtain⟨O,c1,rfl,L⟩:=A.shape;obtain⟨Q,c2,rfl,M⟩:=hB.shape;clear A hB;go_enter Tryz.func72,Tryz.ntmps72;go_wp2_with (go_at_call 135;refine(I.out).mono ?_;rintro e Y ⟨rfl,E⟩);go_ret;exact⟨rfl,E⟩
def Kp(w:World)(v:Value)(pl:List Sv):Prop:=bi w v 9 pl.length (pl.flatMap Sv.cells)∧∀ x∈pl,Wh w x.ev x.s.e∧Wh w x.fv x.s.f
theorem Kp.below{w w':World}{v:Value}{pl:List Sv}(h:Kp w v pl)(A:Below w.heap.size w w'):Kp w' v pl :=
 ⟨aca h.1 A,fun x E=>⟨aca (h.2 x E).1 A,aca (h.2 x E).2 A⟩⟩
theorem Kp.shape{w:World}{v:Value}{pl:List Sv}(h:Kp w v pl):∃ A c,v = .slice A pl.length c∧pl.length≤c:=by obtain⟨⟨_,A,c,G,E,_⟩,_⟩:=h;exact⟨A,c,G,E⟩
structure CN (w:World) (b o:Nat) (x:Sv):Prop where
 c0:w.cell? ⟨b,o,none⟩=some (.int .i64 x.s.kind)
 c1:w.cell? ⟨b,o+1,none⟩=some (.string (vh x.s.reg))
 c2:w.cell? ⟨b,o+2,none⟩=some (.string (vh x.s.name))
 c3:w.cell? ⟨b,o+3,none⟩=some (x.ev)
 c4:w.cell? ⟨b,o+4,none⟩=some (x.fv)
 c5:w.cell? ⟨b,o+5,none⟩=some (.int .i64 x.s.n)
 c6:w.cell? ⟨b,o+6,none⟩=some (.int .i64 x.s.body)
 c7:w.cell? ⟨b,o+7,none⟩=some (.int .i64 x.s.els)
 c8:w.cell? ⟨b,o+8,none⟩=some (.int .i64 x.s.pos)
theorem Kp.at_{w:World}{v:Value}{pl:List Sv}(h:Kp w v pl)(I:0<pl.length):∃ b off c,v = .slice (some ⟨b,off,none⟩) pl.length c∧pl.length≤c∧b<w.heap.size∧∀ i (hi:i<pl.length),CN w b (off+i*9) pl[i]:=by obtain⟨⟨_,A,c,Q,L,M⟩,_⟩:=h;obtain⟨b,off,J,H,E⟩:=M I;subst J;refine⟨b,off,c,Q,L,H,fun i hi=>?_⟩;have G:=fun k O=>ei Sv.cells 9 Sv.cells_len pl i k hi O;exact⟨E _ _ (G 0 Tf),E _ _ (G 1 Tf),E _ _ (G 2 Tf),E _ _ (G 3 Tf),E _ _ (G 4 Tf),E _ _ (G 5 Tf),E _ _ (G 6 Tf),E _ _ (G 7 Tf),E _ _ (G 8 Tf)⟩
theorem CN.below{w w':World}{b o:Nat}{x:Sv}(h:CN w b o x)(E:Below w.heap.size w w')(A:b<w.heap.size):CN w' b o x :=
 ⟨(E.cell (p:=⟨b,_,none⟩) A).trans h.c0,(E.cell (p:=⟨b,_,none⟩) A).trans h.c1,(E.cell (p:=⟨b,_,none⟩) A).trans h.c2,(E.cell (p:=⟨b,_,none⟩) A).trans h.c3,(E.cell (p:=⟨b,_,none⟩) A).trans h.c4,(E.cell (p:=⟨b,_,none⟩) A).trans h.c5,(E.cell (p:=⟨b,_,none⟩) A).trans h.c6,(E.cell (p:=⟨b,_,none⟩) A).trans h.c7,(E.cell (p:=⟨b,_,none⟩) A).trans h.c8⟩
def xR:Sv:=⟨Vh,.slice none 0 0,.slice none 0 0⟩
def sv(l:List Sv)(i:Nat):Sv:=l.getD i xR
theorem uA{l:List Sv}{i:Nat}(h:i<l.length):sv l i=l[i]:=by unfold sv;rw[faa,Eaa h];rfl
theorem nz{l:List Sv}{i:Nat}(h:i<l.length):sv l i∈l:=by rw[uA h];exact dba h
def GQ(x:Sv):Value:=YC x.s x.ev x.fv
theorem Qt{b:Bool}:∀ {l m:List St},l.length≠m.length→Qk b l m=false
 | [],[],h=>absurd rfl h
 | [],_::_,_=>rfl
 |_::_,[],_=>rfl
 |x::a,y::c,h=>by unfold Qk;rw[Qt (l:=a) (m:=c) xg];simp
theorem Pt{b:Bool}:∀ {l m:List Sv} (h:l.length=m.length),(∀ i,i<l.length→ji b (sv l i).s (sv m i).s=true)→Qk b (l.map (·.s)) (m.map (·.s))=true
 | [],[],_,_=>rfl
 |x::a,y::c,h,A=>by rw[tca,tca];unfold Qk;have G:=A 0 Yf;have H:=Pt (b:=b) (l:=a) (m:=c) xg (fun i hi=>by have:=A (i+1) Ng;simpa[sv]using this);have E:ji b x.s y.s=true:=G;rw[E,H];rfl
theorem cw{b:Bool}:∀ {l m:List Sv} (h:l.length=m.length) (i:Nat),i<l.length→ji b (sv l i).s (sv m i).s=false→Qk b (l.map (·.s)) (m.map (·.s))=false
 |x::a,y::c,h,0,_,A=>by rw[tca,tca];unfold Qk;have E:ji b x.s y.s=false:=A;rw[E];rfl
 |x::a,y::c,h,i+1,hi,A=>by rw[tca,tca];unfold Qk;rw[cw (l:=a) (m:=c) xg i (by simpa using hi) (by simpa[sv]using A)];simp
end Go.Proofs.YtjcihcncljihoaaGreatDoor

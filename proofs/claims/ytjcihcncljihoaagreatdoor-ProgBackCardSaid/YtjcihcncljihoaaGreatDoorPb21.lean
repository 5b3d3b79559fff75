/- Chapter 05 (programs), joined: StrL. -/
import Derived.Test.YtjcihcncljihoaaGreatDoorPb19
set_option maxRecDepth 100000
set_option maxHeartbeats 16000000
namespace Go.Proofs.YtjcihcncljihoaaGreatDoor
open Go Go.RowKit
set_option linter.unusedVariables false
open Go.Lib renaming hid→kaa
open Go.RowKit.Below renaming refl→Gaa
open Int renaming eq_ofNat_of_zero_le→Faa
open List renaming length_map→Oca,length_take→nca
open Nat renaming le_refl→aaa
open Wh renaming shape→Nca
open Go.Proofs.Tryz renaming prog→maa
theorem ga{P:Prop}(h:P:=by
 obtain⟨pb,HPB⟩:∃ pb,Hid (wr.heap.size=pb):=⟨_,rfl⟩;rw[HPB.out]at HSB ⊢;generalize World.alloc wr _=Y at HSB HBY ⊢;clear hx0 hx1 hx2 hx3 hx4 hx5 hx6 hx7 hx8;obtain⟨sl,s0,s1,s2,s3,s4,s5,s6,s7,s8,sfr⟩:=HSB.out;dsimp only at s0 s6 s7;clear s1 s2 s3 s4 s5 s8 sfr;go_upto_region 15 with(go_at_call 201;(with_reducible refine(HBL.out _).mono ?_);rintro e wb ⟨rfl,rfl⟩);all_goals (try (exfalso;have hne0:=HNE.out;omega))
 have It:=HS1.out;have hs2:=HS2.out;have HX:Hid (∀ u,Below Y.heap.size Y u→u.cell? ⟨pb,6,none⟩=some (.int .i64 (nb:Int))):=fun u hu=>(HSB.out.below hu).c6;clear sl HSB;go_region_held3 (fun u=>u.cell? ⟨pb,6,none⟩=some (.int .i64 (nb:Int)))
  (exact HX.out _ (bld))
  (first
   |(go_at_call_of 158 (Value.slice P1 nb d1);(with_reducible refine(HI1.out _ (bt HBY.out (bld))).mono ?_);rintro e w4 ⟨rfl,hb4⟩;have h4:Below Y.heap.size Y w4:=bt (bld) hb4;clear hb4)
   |(go_at_call_of 158 (Value.slice P2 ne d2);(with_reducible refine(HI2.out _ (bt HBY.out (bld))).mono ?_);rintro e w5 ⟨rfl,hb5⟩;have h5:Below Y.heap.size Y w5:=bt (bld) hb5;clear hb5))
 all_goals
  clear It hs2;have HB2:Hid (Below wr.heap.size wr w5):=bt HBY.out h5;clear h4 h5;cases hpm:(p == -1)
  ·cases hqm:(q == -1)
   ·have hL:Hid (T=Mm (decide (0<lo)) (pl.map (·.s)) (j+1+nb+ne) (max m (max (p+1) (q+1)))):=by show _=_;rw[beq_eq_false_iff_ne]at hpm hqm;rw[HL.out,if_neg (by omega)]
    go_wp2_with fail;go_roundw;case rel=>exact⟨j+1+nb+ne,max m (max (p+1) (q+1)),by omega,by rw[xP],by go_num,by omega,by omega,hL.out.symm,bt HB.out (bt HB2.out (by repeat (first|exact Below.refl _ _|refine dk ?_ _|refine mo ?_)))⟩
    case measure=>simp[intOf];omega
   ·have hL:Hid (T = -1):=by show _=_;rw[beq_iff_eq]at hqm;rw[HL.out,if_pos (by omega)]
    go_wp2_with fail;go_ret;exact⟨ci hL.out.symm,bt HB.out (bt HB2.out (by repeat (first|exact Below.refl _ _|refine dk ?_ _|refine mo ?_)))⟩
  ·have hL:Hid (T = -1):=by show _=_;rw[beq_iff_eq]at hpm;rw[HL.out,if_pos (by omega)]
   go_wp2_with fail;go_ret;exact⟨ci hL.out.symm,bt HB.out (bt HB2.out (by repeat (first|exact Below.refl _ _|refine dk ?_ _|refine mo ?_)))⟩):P:=h
theorem Ja{P:Prop}(h:P:=by
 go_upto_region 13 with fail;all_goals first
  |(go_ret;exact⟨ci HR.out.symm,bt HB.out (al _ _)⟩)
  |(exfalso
    clear w1 w2 w3
    have h1:=HBAD.out
    unfold Cx at h1
    dsimp only at h1
    first
     |(have hq:(lo==0)=false:=by assumption
       rw[beq_eq_false_iff_ne]at hq
       rcases h1 with h1|h1|h1|h1
       ·omega
       ·omega
       ·omega
       ·have:=of_decide_eq_false h1.2;omega)
     |(rcases h1 with h1|h1|h1|h1<;>omega))):P:=h
theorem ub{P:Prop}(h:P:=by
 go_wp2_with fail;go_roundw;case rel=>exact⟨j+1,m,by omega,rfl,by go_num,hm0,hm1,HL.out,bt HB.out (by repeat (first|exact al _ _|exact Below.refl _ _|refine dk ?_ _|refine mo ?_))⟩
 case measure=>simp[intOf];omega):P:=h
theorem Kg{P:Prop}(h:P:=by rw[hsv];dsimp only;rw[hdc,Int.toNat_natCast,Int.toNat_natCast];exact hq):P:=h
theorem ah{P:Prop}(h:P:=by rw[hsv];dsimp only;rw[hdc,Int.toNat_natCast];exact hp):P:=h
theorem xP(m p q:Int):(if (if m<p+1 then p+1 else m)<q+1 then q+1 else if m<p+1 then p+1 else m)=max m (max (p+1) (q+1)):=by
 repeat' split
 all_goals omega
theorem xD(N:Nat)(IH:∀ M,M<N→kL 158 M):kL 158 N:=by
 intro pl v w lo hN bE bS bs hv;have ao:Hid (∀ (q:List Sv) (u:Value) (x:World) (z:Int),q.length<pl.length→q.length≤40→0≤z→z+q.length≤1000→Kp x u q→Calls maa 158 #[u,.int .i64 z] x fun e w'=>e = .returned (.int .i64 (Ip (decide (0<z)) (q.map (·.s))))∧Below x.heap.size x w'):=fun q u x z h1 h2 h3 h4 h5=>IH q.length Tf q u x z (aaa _) h2 h3 h4 h5;clear IH;obtain⟨A0,c0,rfl,bI⟩:=hv.shape;have HV:=kaa hv;obtain⟨T,HT⟩:∃ T,Hid (Ip (decide (0<lo)) (pl.map (·.s))=T):=⟨_,rfl⟩;rw[HT.out];clear hv;go_enter Tryz.func158,Tryz.ntmps158;go_wp2_with fail;go_loopw [5,6] (fun n i wr=>∃ (j:Nat) (m:Int),j≤pl.length∧n = .int .i64 m∧i = .int .i64 j∧0≤m∧m≤41∧Hid (Mm (decide (0<lo)) (pl.map (·.s)) j m=T)∧Below w.heap.size w wr) (fun _ i _=>pl.length - (intOf i).toNat);case atStart=>exact⟨0,0,Nat.zero_le _,rfl,rfl,by omega,by omega,by show _=_;rw[YA];exact HT.out,Below.refl _ _⟩
 case round =>
  obtain⟨j,m,hj,rfl,rfl,hm0,hm1,G,hb⟩:=hrel;have HB:=kaa hb;by_cases aT:j<pl.length
  ·obtain⟨b,off,c,a5,bL,a6,a3⟩:=HV.out.at_ Tf;cases a5;have hx:=(a3 j aT).below hb a6;have H:j<(pl.map (·.s)).length:=by simpa using aT
   have L:=kaa (HV.out.2 _ (List.getElem_mem aT));have hsv:=GI aT;have bk:(j:Int)<(pl.length:Int):=by omega
   have E:(pl.map (·.s)).length=pl.length:=by simp
   clear hb a3;by_cases J:Cx (pl[j]).s (pl.length - (j+1)) (decide (0<lo))
   ·have HR:Hid (T = -1):=by show _=_;rw[← G.out];exact GG H (by rw[hsv,E];exact J)
    have HBAD:=kaa J;clear J G hsv H E;generalize pl[j]=x at hx L HBAD;obtain⟨⟨kind,reg,name,xe,xf,n,body,els,pos⟩,ev,fv⟩:=x;obtain⟨hx0,hx1,hx2,hx3,hx4,hx5,hx6,hx7,hx8⟩:=hx;have I:=L.out;dsimp only at I hx0 hx1 hx2 hx3 hx4 hx5 hx6 hx7 hx8 HBAD;obtain⟨A5,c5,rfl,_⟩:=Nca I.1;obtain⟨A6,c6,rfl,_⟩:=Nca I.2;clear I L;by_cases Z:body<0∨els<0∨(pl.length:Int)<body∨(pl.length:Int)<els
    ·have a1:=kaa Z;clear Z;go_upto_region 13 with fail;all_goals first
      |(go_ret;exact⟨ci HR.out.symm,bt HB.out (al _ _)⟩)
      |(exfalso
        have h1:=a1.out
        omega)
    ·have q0:0≤body:=by omega
     have q1:0≤els:=by omega
     have q2:body≤(pl.length:Int):=by omega
     have q3:els≤(pl.length:Int):=by omega
     clear Z;have w1:=ik ((j:Int)+1) Tf Tf;have w2:=ik ((j:Int)+1+body) Tf Tf;have w3:=ik ((j:Int)+1+body+els) Tf Tf;by_cases aV:kind=11;·subst aV;exact Ja
     ·by_cases a2:kind=12;·subst a2;exact Ja
      ·have a0:(kind==11)=false:=by rw[beq_eq_false_iff_ne];exact aV
       have bf:(kind==12)=false:=by rw[beq_eq_false_iff_ne];exact a2
       have bg:(kind != 11)=true:=by rw[bne_iff_ne];exact aV
       exact Ja
   ·have av:=kaa J;generalize aZ:pl[j]=x at hx L av hsv;obtain⟨⟨kind,reg,name,xe,xf,n,body,els,pos⟩,ev,fv⟩:=x;obtain⟨hx0,hx1,hx2,hx3,hx4,hx5,hx6,hx7,hx8⟩:=hx;have I:=L.out;dsimp only at I hx0 hx1 hx2 hx3 hx4 hx5 hx6 hx7 hx8 hsv;have O:=av.out;unfold Cx at O;dsimp only at O;have aW:0≤body:=by omega
    have aX:0≤els:=by omega
    obtain⟨nb,rfl⟩:=Faa aW;obtain⟨ne,rfl⟩:=Faa aX;have bF:j+1+nb+ne≤pl.length:=by omega
    have Q:kind=13→0<lo:=fun e=>by
     rcases Int.lt_or_le 0 lo with h|h;·exact h
     ·exact absurd (.inr (.inr (.inr ⟨e,decide_eq_false Tf⟩))) O
    have A:Hid (¬ Cx ((pl.map (·.s))[j]'H) ((pl.map (·.s)).length - (j+1)) (decide (0<lo))):=by rw[hsv,E];exact av.out
    obtain⟨A5,c5,rfl,_⟩:=Nca I.1;obtain⟨A6,c6,rfl,_⟩:=Nca I.2;clear I L av J;by_cases aY:kind=11∨kind=12
    ·rcases aY with rfl|rfl
     ·have hdc:(decide (0<lo)||decide ((11:Int)=12))=decide (0<lo):=by simp
      have HBL:Hid (∀ u,Calls maa 201 #[.bool false] u fun e w'=>e = .returned (.int .i64 0)∧u=w'):=fun u=>vv false u;obtain⟨P1,d1,It,ad⟩:=(HV.out.below HB.out).cut (j+1) nb Tf ((j:Int)+1) ((j:Int)+1+(nb:Int)) Tf Tf;obtain⟨P2,d2,hs2,af⟩:=(HV.out.below HB.out).cut (j+1+nb) ne Tf ((j:Int)+1+(nb:Int)) ((j:Int)+1+(nb:Int)+(ne:Int)) Tf Tf;have l1:((pl.drop (j+1)).take nb).length≤nb:=by rw[nca];omega
      have l2:((pl.drop (j+1+nb)).take ne).length≤ne:=by rw[nca];omega
      have m1:=Jn pl (j+1) nb;have m2:=Jn pl (j+1+nb) ne;obtain⟨p,hp⟩:∃ p,Ip (decide (0<lo)) (((pl.map (·.s)).drop (j+1)).take nb)=p:=⟨_,rfl⟩;obtain⟨q,hq⟩:∃ q,Ip (decide (0<lo)) (((pl.map (·.s)).drop (j+1+nb)).take ne)=q:=⟨_,rfl⟩;have a7:-1≤p:=by rw[← hp];exact nu _ _
      have a9:-1≤q:=by rw[← hq];exact nu _ _
      have a8:p≤40:=by have:=Tz (decide (0<lo)) (((pl.map (·.s)).drop (j+1)).take nb);rw[hp,← m1,Oca]at this;omega
      have bb:q≤40:=by have:=Tz (decide (0<lo)) (((pl.map (·.s)).drop (j+1+nb)).take ne);rw[hq,← m2,Oca]at this;omega
      have HI1:Hid (∀ u,Below wr.heap.size wr u→Calls maa 158 #[.slice P1 nb d1,.int .i64 lo] u fun e w'=>e = .returned (.int .i64 p)∧Below u.heap.size u w'):=fun u hu=>by have:=ao.out ((pl.drop (j+1)).take nb) (.slice P1 nb d1) u lo Tf Tf Tf Tf (ad.below hu);rw[m1,hp]at this;exact this
      have HI2:Hid (∀ u,Below wr.heap.size wr u→Calls maa 158 #[.slice P2 ne d2,.int .i64 lo] u fun e w'=>e = .returned (.int .i64 q)∧Below u.heap.size u w'):=fun u hu=>by have:=ao.out ((pl.drop (j+1+nb)).take ne) (.slice P2 ne d2) u lo Tf Tf Tf Tf (af.below hu);rw[m2,hq]at this;exact this
      have HL:Hid (T=if p<0∨q<0 then -1 else Mm (decide (0<lo)) (pl.map (·.s)) (j+1+nb+ne) (max m (max (p+1) (q+1)))):=by show _=_;rw[← G.out];have:=Eu (n:=m) H A.out (by rw[hsv];exact(.inl rfl)) (p:=p) (q:=q) ah Kg;rw[this,hsv];rfl
      have w1:=ik ((j:Int)+1) Tf Tf;have w2:=ik ((j:Int)+1+(nb:Int)) Tf Tf;have w3:=ik ((j:Int)+1+(nb:Int)+(ne:Int)) Tf Tf;have j0:(0:Int)≤(j:Int)+1:=by omega
      have bh:(nb:Int)≤(pl.length:Int):=by omega
      have eh:(ne:Int)≤(pl.length:Int):=by omega
      have gh:(j:Int)+1+(nb:Int)+(ne:Int)≤(pl.length:Int):=by omega
      have HS1:=kaa It;have HS2:=kaa hs2;clear It hs2 ad af l1 l2 m1 m2 hp hq hdc O hsv A G aZ H E Q aW aX;go_upto_region 5 with fail;have HSB:Hid (SB (wr.alloc (.cells #[.int .i64 11,.string (vh reg),.string (vh name),.slice A5 xe.length c5,.slice A6 xf.length c6,.int .i64 n,.int .i64 (nb:Int),.int .i64 (ne:Int),.int .i64 pos] 44)) wr.heap.size ⟨11,reg,name,xe,xf,n,nb,(ne:Int),pos⟩ (.slice A5 xe.length c5) (.slice A6 xf.length c6)):=vl wr ⟨11,reg,name,xe,xf,n,nb,(ne:Int),pos⟩ _ _;have HBY:Hid (Below wr.heap.size wr (wr.alloc (.cells #[.int .i64 11,.string (vh reg),.string (vh name),.slice A5 xe.length c5,.slice A6 xf.length c6,.int .i64 n,.int .i64 (nb:Int),.int .i64 (ne:Int),.int .i64 pos] 44))):=al wr _;exact ga
     ·have HNE:Hid (ne=0):=by show _=_;omega
      have hdc:(decide (0<lo)||decide ((12:Int)=12))=decide (0<(lo+1)):=by (rw[decide_eq_true (by omega:0<lo+1)];simp)
      have HBL:Hid (∀ u,Calls maa 201 #[.bool true] u fun e w'=>e = .returned (.int .i64 1)∧u=w'):=fun u=>vv true u;obtain⟨P1,d1,It,ad⟩:=(HV.out.below HB.out).cut (j+1) nb Tf ((j:Int)+1) ((j:Int)+1+(nb:Int)) Tf Tf;obtain⟨P2,d2,hs2,af⟩:=(HV.out.below HB.out).cut (j+1+nb) ne Tf ((j:Int)+1+(nb:Int)) ((j:Int)+1+(nb:Int)+(ne:Int)) Tf Tf;have l1:((pl.drop (j+1)).take nb).length≤nb:=by rw[nca];omega
      have l2:((pl.drop (j+1+nb)).take ne).length≤ne:=by rw[nca];omega
      have m1:=Jn pl (j+1) nb;have m2:=Jn pl (j+1+nb) ne;obtain⟨p,hp⟩:∃ p,Ip (decide (0<(lo+1))) (((pl.map (·.s)).drop (j+1)).take nb)=p:=⟨_,rfl⟩;obtain⟨q,hq⟩:∃ q,Ip (decide (0<(lo+1))) (((pl.map (·.s)).drop (j+1+nb)).take ne)=q:=⟨_,rfl⟩;have a7:-1≤p:=by rw[← hp];exact nu _ _
      have a9:-1≤q:=by rw[← hq];exact nu _ _
      have a8:p≤40:=by have:=Tz (decide (0<(lo+1))) (((pl.map (·.s)).drop (j+1)).take nb);rw[hp,← m1,Oca]at this;omega
      have bb:q≤40:=by have:=Tz (decide (0<(lo+1))) (((pl.map (·.s)).drop (j+1+nb)).take ne);rw[hq,← m2,Oca]at this;omega
      have HI1:Hid (∀ u,Below wr.heap.size wr u→Calls maa 158 #[.slice P1 nb d1,.int .i64 (lo+1)] u fun e w'=>e = .returned (.int .i64 p)∧Below u.heap.size u w'):=fun u hu=>by have:=ao.out ((pl.drop (j+1)).take nb) (.slice P1 nb d1) u (lo+1) Tf Tf Tf Tf (ad.below hu);rw[m1,hp]at this;exact this
      have HI2:Hid (∀ u,Below wr.heap.size wr u→Calls maa 158 #[.slice P2 ne d2,.int .i64 (lo+1)] u fun e w'=>e = .returned (.int .i64 q)∧Below u.heap.size u w'):=fun u hu=>by have:=ao.out ((pl.drop (j+1+nb)).take ne) (.slice P2 ne d2) u (lo+1) Tf Tf Tf Tf (af.below hu);rw[m2,hq]at this;exact this
      have HL:Hid (T=if p<0∨q<0 then -1 else Mm (decide (0<lo)) (pl.map (·.s)) (j+1+nb+ne) (max m (max (p+1) (q+1)))):=by show _=_;rw[← G.out];have:=Eu (n:=m) H A.out (by rw[hsv];exact(.inr rfl)) (p:=p) (q:=q) ah Kg;rw[this,hsv];rfl
      have w1:=ik ((j:Int)+1) Tf Tf;have w2:=ik ((j:Int)+1+(nb:Int)) Tf Tf;have w3:=ik ((j:Int)+1+(nb:Int)+(ne:Int)) Tf Tf;have j0:(0:Int)≤(j:Int)+1:=by omega
      have bh:(nb:Int)≤(pl.length:Int):=by omega
      have eh:(ne:Int)≤(pl.length:Int):=by omega
      have gh:(j:Int)+1+(nb:Int)+(ne:Int)≤(pl.length:Int):=by omega
      have HS1:=kaa It;have HS2:=kaa hs2;clear It hs2 ad af l1 l2 m1 m2 hp hq hdc O hsv A G aZ H E Q aW aX;go_upto_region 5 with fail;have HSB:Hid (SB (wr.alloc (.cells #[.int .i64 12,.string (vh reg),.string (vh name),.slice A5 xe.length c5,.slice A6 xf.length c6,.int .i64 n,.int .i64 (nb:Int),.int .i64 (ne:Int),.int .i64 pos] 44)) wr.heap.size ⟨12,reg,name,xe,xf,n,nb,(ne:Int),pos⟩ (.slice A5 xe.length c5) (.slice A6 xf.length c6)):=vl wr ⟨12,reg,name,xe,xf,n,nb,(ne:Int),pos⟩ _ _;have HBY:Hid (Below wr.heap.size wr (wr.alloc (.cells #[.int .i64 12,.string (vh reg),.string (vh name),.slice A5 xe.length c5,.slice A6 xf.length c6,.int .i64 n,.int .i64 (nb:Int),.int .i64 (ne:Int),.int .i64 pos] 44))):=al wr _;exact ga
    ·have a4:nb=0:=by omega
     have hne0:ne=0:=by omega
     subst a4 hne0;have HL:Hid (Mm (decide (0<lo)) (pl.map (·.s)) (j+1) m=T):=by show _=_;rw[← G.out];exact(oD H A.out (by rw[hsv];exact aY)).1.symm
     have a0:(kind==11)=false:=by rw[beq_eq_false_iff_ne];omega
     have bf:(kind==12)=false:=by rw[beq_eq_false_iff_ne];omega
     have w1:=ik ((j:Int)+1) Tf Tf;clear O aY hsv A G aZ H E;by_cases aU:kind=13
     ·subst aU;have bR:(lo==0)=false:=by rw[beq_eq_false_iff_ne];have:=Q rfl;omega
      clear Q;exact ub
     ·have bT:(kind==13)=false:=by rw[beq_eq_false_iff_ne];omega
      have bg:(kind != 11)=true:=by rw[bne_iff_ne];intro e;rw[e]at a0;exact absurd a0 Uf
      clear Q aU;exact ub
  ·have bN:j=pl.length:=by omega
   have HR:Hid (T=m):=by show _=_;rw[← G.out];exact FG Ag hm0
   go_wp2_with fail;go_ret;exact⟨ci HR.out.symm,HB.out⟩
theorem uJ(pl:List Sv)(h:pl.length≤40)(v:Value)(w:World)(E:Kp w v pl) :
 Calls maa 158 #[v,.int .i64 0] w fun e w'=>e = .returned (.int .i64 (Ip false (pl.map (·.s))))∧Below w.heap.size w w' :=
 (Nat.strongRecOn (motive:=fun N=>kL 158 N) pl.length (fun N A=>xD N A)) pl v w 0 (aaa _) h Tf Tf E
end Go.Proofs.YtjcihcncljihoaaGreatDoor

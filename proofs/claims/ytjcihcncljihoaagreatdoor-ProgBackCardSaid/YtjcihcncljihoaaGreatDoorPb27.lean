/- Chapter 05 (programs), joined: StrC, RegO. -/
import Derived.Test.YtjcihcncljihoaaGreatDoorPb10
import Derived.BigRegion
import Derived.Deep.RegionHeld
import Derived.OrdersHeld
set_option maxRecDepth 100000
set_option maxHeartbeats 16000000
namespace Go.Proofs.YtjcihcncljihoaaGreatDoor
open Go Go.RowKit
set_option linter.unusedVariables false
open Go.Lib renaming hid→kaa
open Go.World renaming size_alloc→gba
open List renaming length_map→Oca
open Nat renaming lt_of_lt_of_le→mba
open Wh renaming shape→Nca
open bi renaming below→aca
theorem ka{P:Prop}(h:P:=by
 rw[hbe]at HSE;clear hN hbe;cases hbf:bF;·rw[hbf]at HSF HR;clear hbf;go_wp2_with (first|(go_at_call 33;(with_reducible refine(HSE.out _ (Below.refl _ _)).mono ?_);rintro e w3 ⟨rfl,hb3⟩;have hc4:=hb3.cell (p:=⟨p,4,none⟩) HX.out.lt;have hd4:=hb3.cell (p:=⟨q,4,none⟩) HY.out.lt)|(go_at_call 33;(with_reducible refine(HSF.out _ hb3).mono ?_);rintro e w4 ⟨rfl,hb4⟩));go_ret;exact⟨Bh (HF.out HR.out).symm,bt HBW.out (bt HBY.out (bt hb3 hb4))⟩
 ·rw[hbf]at HSF HR;clear hbf;go_wp2_with (first|(go_at_call 33;(with_reducible refine(HSE.out _ (Below.refl _ _)).mono ?_);rintro e w3 ⟨rfl,hb3⟩;have hc4:=hb3.cell (p:=⟨p,4,none⟩) HX.out.lt;have hd4:=hb3.cell (p:=⟨q,4,none⟩) HY.out.lt)|(go_at_call 33;(with_reducible refine(HSF.out _ hb3).mono ?_);rintro e w4 ⟨rfl,hb4⟩));go_roundw;case rel =>
   refine⟨bt HBW.out (bt HBY.out (bt hb3 hb4)),j+1,by omega,by go_num,fun j' hlt=>?_⟩;by_cases hjj:j'<j;·exact HALL.out j' hjj
   ·exact HT.out HR.out j' (by omega)
  case measure=>simp[intOf];omega):P:=h
theorem Ha{P:Prop}(h:P:=by rw[hbe]at HSE;clear hN hbe;go_wp2_with (first|(go_at_call 33;(with_reducible refine(HSE.out _ (Below.refl _ _)).mono ?_);rintro e w3 ⟨rfl,hb3⟩;have hc4:=hb3.cell (p:=⟨p,4,none⟩) HX.out.lt;have hd4:=hb3.cell (p:=⟨q,4,none⟩) HY.out.lt)|(go_at_call 33;(with_reducible refine(HSF.out _ hb3).mono ?_);rintro e w4 ⟨rfl,hb4⟩));go_ret;exact⟨Bh (HF.out HR.out).symm,bt HBW.out (bt HBY.out hb3)⟩):P:=h
theorem jd{P:Prop}(h:P:=by clear hN;go_wp2_with fail;all_goals go_ret;exact⟨Bh (HF.out HR.out).symm,bt HBW.out HBY.out⟩):P:=h
theorem de{P:Prop}(h:P:=by (try go_wp2_with fail);go_meet;exact⟨_,_,rfl,rfl,HX.out,HY.out,HBY.out⟩):P:=h
theorem gD(b:Bool)(x y:St):ji b x y=((x.kind==y.kind)&&((vh x.reg).toList==(vh y.reg).toList)&&((vh x.name).toList==(vh y.name).toList)&&(x.n==y.n)&&(x.body==y.body)&&(x.els==y.els)&&(!b||(x.pos==y.pos))&&tj b x.e y.e&&tj b x.f y.f):=by unfold ji;rw[Ah,Ah,Ah,Ah]
theorem WI(a b:List Sv)(ha:a.length≤100000)(hb:b.length≤100000)(bV:∀ x∈a,x.s.e.length≤100000∧x.s.f.length≤100000)(bY:∀ x∈b,x.s.e.length≤100000∧x.s.f.length≤100000)(va vb:Value)(pl:Bool)(w:World)(hA:Kp w va a)(hB:Kp w vb b):Calls Tryz.prog 98 #[va,vb,.bool pl] w fun e w'=>e = .returned (.bool (Qk pl (a.map (·.s)) (b.map (·.s))))∧Below w.heap.size w w':=by
 obtain⟨A1,c1,rfl,cT⟩:=hA.shape;obtain⟨A2,c2,rfl,cU⟩:=hB.shape;by_cases hl:a.length=b.length
 ·have bZ:((a.length:Int)==(b.length:Int))=true:=by rw[beq_iff_eq];omega
  have ct:((a.length:Int) != (b.length:Int))=false:=by unfold bne;rw[bZ];rfl
  have HA:=kaa hA;have HB:=kaa hB;have HL:=kaa hl;have b0:=kaa bV;have b3:=kaa bY;clear hA hB hl bV bY;go_enter Tryz.func98,Tryz.ntmps98;go_wp2_with fail;go_loopw [7] (fun k wr=>Below w.heap.size w wr∧∃ j:Nat,j≤a.length∧k = .int .i64 j∧∀ j',j'<j→ji pl (sv a j').s (sv b j').s=true) (fun k _=>a.length - (intOf k).toNat);case atStart=>exact⟨Below.refl _ _,0,Nat.zero_le _,rfl,fun j' h=>absurd h Tf⟩
  case round =>
   obtain⟨M,j,hj,rfl,aX⟩:=hrel;have HBW:=kaa M;have HALL:=kaa aX;clear aX;by_cases aU:j<a.length
   ·obtain⟨b1,o1,k1,cc,cY,a2,aY⟩:=Kp.at_ (pl:=a) HA.out Tf;obtain⟨b2,o2,k2,ch,cZ,a3,aZ⟩:=Kp.at_ (pl:=b) HB.out ig;cases cc;cases ch;have x1:=aY j aU;have y1:=aZ j ig;rw[← uA aU]at x1;rw[← uA ig]at y1;obtain⟨a4,a5,a6,a7,a8,a9,bb,bf,bg⟩:=x1.below M a2;obtain⟨bh,bk,bs,bI,bL,bN,bR,bS,bT⟩:=y1.below M a3;have av:=kaa (nz aU);have aT:=kaa (nz (l:=b) (i:=j) ig);have Z:=kaa (HA.out.2 _ av.out);have ad:=kaa (HB.out.2 _ aT.out);have HF:Hid (ji pl (sv a j).s (sv b j).s=false→Qk pl (a.map (·.s)) (b.map (·.s))=false):=fun h=>cw HL.out j aU h;have HT:Hid (ji pl (sv a j).s (sv b j).s=true→∀ j',j'=j→ji pl (sv a j').s (sv b j').s=true):=fun h j' e=>by subst e;exact h
    have cV:(0:Int)≤(j:Int):=Int.natCast_nonneg _;have cW:(j:Int)<(a.length:Int):=by omega
    have cX:(j:Int)<(b.length:Int):=by have:=HL.out;omega
    have af:=kaa (b0.out _ av.out);have ao:=kaa (b3.out _ aT.out);have bW:=mba a2 M.size;have bX:=mba a3 M.size;clear aY aZ x1 y1 M a2 a3;generalize sv a j=x at a4 a5 a6 a7 a8 a9 bb bf bg HF HT av Z af;generalize sv b j=y at bh bk bs bI bL bN bR bS bT HF HT aT ad ao;obtain⟨A,xe,xf⟩:=x;obtain⟨E,ye,yf⟩:=y;have aV:=Z.out;have aW:=ad.out;dsimp only at aV aW a4 a5 a6 a7 a8 a9 bb bf bg bh bk bs bI bL bN bR bS bT HF HT Z ad af ao;obtain⟨G,c5,rfl,_⟩:=Nca aV.1;obtain⟨H,c6,rfl,_⟩:=Nca aV.2;obtain⟨I,c7,rfl,_⟩:=Nca aW.1;obtain⟨J,c8,rfl,_⟩:=Nca aW.2;clear aV aW av aT;go_upto_region 6 with fail;go_cut [8,9] (fun s t wx=>∃ p q:Nat,s = .pointer (some ⟨p,0,none⟩)∧t = .pointer (some ⟨q,0,none⟩)∧SB wx p A (.slice G A.e.length c5) (.slice H A.f.length c6)∧SB wx q E (.slice I E.e.length c7) (.slice J E.f.length c8)∧Below wr.heap.size wr wx);case first =>
     go_region
     ·have HX:Hid (SB (((wr.alloc (.cells #[.int .i64 A.kind,.string (vh A.reg),.string (vh A.name),(.slice G A.e.length c5),(.slice H A.f.length c6),.int .i64 A.n,.int .i64 A.body,.int .i64 A.els,.int .i64 A.pos] 44)).alloc (.cells #[.int .i64 E.kind,.string (vh E.reg),.string (vh E.name),(.slice I E.e.length c7),(.slice J E.f.length c8),.int .i64 E.n,.int .i64 E.body,.int .i64 E.els,.int .i64 E.pos] 44)).drew) wr.heap.size A (.slice G A.e.length c5) (.slice H A.f.length c6)):=(((vl wr A (.slice G A.e.length c5) (.slice H A.f.length c6)).keep (g:=wr.heap.size+1) (uh.of (al _ _)) Tf)).drewN 1;have HY:Hid (SB (((wr.alloc (.cells #[.int .i64 A.kind,.string (vh A.reg),.string (vh A.name),(.slice G A.e.length c5),(.slice H A.f.length c6),.int .i64 A.n,.int .i64 A.body,.int .i64 A.els,.int .i64 A.pos] 44)).alloc (.cells #[.int .i64 E.kind,.string (vh E.reg),.string (vh E.name),(.slice I E.e.length c7),(.slice J E.f.length c8),.int .i64 E.n,.int .i64 E.body,.int .i64 E.els,.int .i64 E.pos] 44)).drew) (wr.heap.size+1) E (.slice I E.e.length c7) (.slice J E.f.length c8)):=by have h:=(vl (wr.alloc (.cells #[.int .i64 A.kind,.string (vh A.reg),.string (vh A.name),(.slice G A.e.length c5),(.slice H A.f.length c6),.int .i64 A.n,.int .i64 A.body,.int .i64 A.els,.int .i64 A.pos] 44)) E (.slice I E.e.length c7) (.slice J E.f.length c8)).drewN 1;rw[gba]at h;exact h
      have HBY:Hid (Below wr.heap.size wr (((wr.alloc (.cells #[.int .i64 A.kind,.string (vh A.reg),.string (vh A.name),(.slice G A.e.length c5),(.slice H A.f.length c6),.int .i64 A.n,.int .i64 A.body,.int .i64 A.els,.int .i64 A.pos] 44)).alloc (.cells #[.int .i64 E.kind,.string (vh E.reg),.string (vh E.name),(.slice I E.e.length c7),(.slice J E.f.length c8),.int .i64 E.n,.int .i64 E.body,.int .i64 E.els,.int .i64 E.pos] 44)).drew)):=mo (bt (al _ _) (al _ _));exact de
     ·have HY:Hid (SB (((wr.alloc (.cells #[.int .i64 E.kind,.string (vh E.reg),.string (vh E.name),(.slice I E.e.length c7),(.slice J E.f.length c8),.int .i64 E.n,.int .i64 E.body,.int .i64 E.els,.int .i64 E.pos] 44)).alloc (.cells #[.int .i64 A.kind,.string (vh A.reg),.string (vh A.name),(.slice G A.e.length c5),(.slice H A.f.length c6),.int .i64 A.n,.int .i64 A.body,.int .i64 A.els,.int .i64 A.pos] 44)).drew) wr.heap.size E (.slice I E.e.length c7) (.slice J E.f.length c8)):=(((vl wr E (.slice I E.e.length c7) (.slice J E.f.length c8)).keep (g:=wr.heap.size+1) (uh.of (al _ _)) Tf)).drewN 1;have HX:Hid (SB (((wr.alloc (.cells #[.int .i64 E.kind,.string (vh E.reg),.string (vh E.name),(.slice I E.e.length c7),(.slice J E.f.length c8),.int .i64 E.n,.int .i64 E.body,.int .i64 E.els,.int .i64 E.pos] 44)).alloc (.cells #[.int .i64 A.kind,.string (vh A.reg),.string (vh A.name),(.slice G A.e.length c5),(.slice H A.f.length c6),.int .i64 A.n,.int .i64 A.body,.int .i64 A.els,.int .i64 A.pos] 44)).drew) (wr.heap.size+1) A (.slice G A.e.length c5) (.slice H A.f.length c6)):=by have h:=(vl (wr.alloc (.cells #[.int .i64 E.kind,.string (vh E.reg),.string (vh E.name),(.slice I E.e.length c7),(.slice J E.f.length c8),.int .i64 E.n,.int .i64 E.body,.int .i64 E.els,.int .i64 E.pos] 44)) A (.slice G A.e.length c5) (.slice H A.f.length c6)).drewN 1;rw[gba]at h;exact h
      have HBY:Hid (Below wr.heap.size wr (((wr.alloc (.cells #[.int .i64 E.kind,.string (vh E.reg),.string (vh E.name),(.slice I E.e.length c7),(.slice J E.f.length c8),.int .i64 E.n,.int .i64 E.body,.int .i64 E.els,.int .i64 E.pos] 44)).alloc (.cells #[.int .i64 A.kind,.string (vh A.reg),.string (vh A.name),(.slice G A.e.length c5),(.slice H A.f.length c6),.int .i64 A.n,.int .i64 A.body,.int .i64 A.els,.int .i64 A.pos] 44)).drew)):=mo (bt (al _ _) (al _ _));exact de
    case rest =>
     obtain⟨p,q,rfl,rfl,O,Y,bU⟩:=hcut;have HX:=kaa O;have HY:=kaa Y;have HBY:=kaa bU;clear O Y bU a4 a5 a6 a7 a8 a9 bb bf bg bh bk bs bI bL bN bR bS bT bW bX;have HS:Hid (∀ u,Below wc.heap.size wc u→((fun u=>u.cell? ⟨p,0,none⟩=some (.int .i64 A.kind)∧u.cell? ⟨p,1,none⟩=some (.string (vh A.reg))∧u.cell? ⟨p,2,none⟩=some (.string (vh A.name))∧u.cell? ⟨p,3,none⟩=some (.slice G A.e.length c5)∧u.cell? ⟨p,4,none⟩=some (.slice H A.f.length c6)∧u.cell? ⟨p,5,none⟩=some (.int .i64 A.n)∧u.cell? ⟨p,6,none⟩=some (.int .i64 A.body)∧u.cell? ⟨p,7,none⟩=some (.int .i64 A.els)∧u.cell? ⟨p,8,none⟩=some (.int .i64 A.pos)∧u.cell? ⟨q,0,none⟩=some (.int .i64 E.kind)∧u.cell? ⟨q,1,none⟩=some (.string (vh E.reg))∧u.cell? ⟨q,2,none⟩=some (.string (vh E.name))∧u.cell? ⟨q,3,none⟩=some (.slice I E.e.length c7)∧u.cell? ⟨q,4,none⟩=some (.slice J E.f.length c8)∧u.cell? ⟨q,5,none⟩=some (.int .i64 E.n)∧u.cell? ⟨q,6,none⟩=some (.int .i64 E.body)∧u.cell? ⟨q,7,none⟩=some (.int .i64 E.els)∧u.cell? ⟨q,8,none⟩=some (.int .i64 E.pos)) u)):=fun u hu=>by have O:=HX.out.below hu;have Y:=HY.out.below hu;exact⟨O.c0,O.c1,O.c2,O.c3,O.c4,O.c5,O.c6,O.c7,O.c8,Y.c0,Y.c1,Y.c2,Y.c3,Y.c4,Y.c5,Y.c6,Y.c7,Y.c8⟩
     have hN:=gD pl A E;obtain⟨bE,a0⟩:∃ bE,tj pl A.e E.e=bE:=⟨_,rfl⟩;obtain⟨bF,a1⟩:∃ bF,tj pl A.f E.f=bF:=⟨_,rfl⟩;have HSE:Hid (∀ u,Below wc.heap.size wc u→Calls Tryz.prog 33 #[.slice G A.e.length c5,.slice I E.e.length c7,.bool pl] u fun e w'=>e = .returned (.bool bE)∧Below u.heap.size u w'):=fun u hu=>by rw[← a0];have hb:=bt HBY.out hu;exact xz A.e E.e af.out.1 ao.out.1 _ _ pl u (aca (aca Z.out.1 HBW.out) hb) (aca (aca ad.out.1 HBW.out) hb)
     have HSF:Hid (∀ u,Below wc.heap.size wc u→Calls Tryz.prog 33 #[.slice H A.f.length c6,.slice J E.f.length c8,.bool pl] u fun e w'=>e = .returned (.bool bF)∧Below u.heap.size u w'):=fun u hu=>by rw[← a1];have hb:=bt HBY.out hu;exact xz A.f E.f af.out.2 ao.out.2 _ _ pl u (aca (aca Z.out.2 HBW.out) hb) (aca (aca ad.out.2 HBW.out) hb)
     rw[a0,a1]at hN;clear a0 a1;obtain⟨ql,q0,q1,q2,q3,q4,q5,q6,q7,q8,cv⟩:=HX.out;obtain⟨rl,r0,r1,r2,r3,r4,r5,r6,r7,r8,cx⟩:=HY.out;clear ql cv rl cx;cases L:(A.kind==E.kind)
     ·have b4:(A.kind != E.kind)=true:=by unfold bne;rw[L];rfl
      have HR:Hid (ji pl A E=false):=by show _=_;rw[hN,L];rfl
      exact jd
     ·have b4:(A.kind != E.kind)=false:=by unfold bne;rw[L];rfl
      cases e1:((vh A.reg).toList==(vh E.reg).toList)
      ·have b5:((vh A.reg).toList != (vh E.reg).toList)=true:=by unfold bne;rw[e1];rfl
       have HR:Hid (ji pl A E=false):=by show _=_;rw[hN,L,e1];rfl
       exact jd
      ·have b5:((vh A.reg).toList != (vh E.reg).toList)=false:=by unfold bne;rw[e1];rfl
       cases e2:((vh A.name).toList==(vh E.name).toList)
       ·have b6:((vh A.name).toList != (vh E.name).toList)=true:=by unfold bne;rw[e2];rfl
        have HR:Hid (ji pl A E=false):=by show _=_;rw[hN,L,e1,e2];rfl
        exact jd
       ·have b6:((vh A.name).toList != (vh E.name).toList)=false:=by unfold bne;rw[e2];rfl
        cases e3:(A.n==E.n)
        ·have b7:(A.n != E.n)=true:=by unfold bne;rw[e3];rfl
         have HR:Hid (ji pl A E=false):=by show _=_;rw[hN,L,e1,e2,e3];rfl
         exact jd
        ·have b7:(A.n != E.n)=false:=by unfold bne;rw[e3];rfl
         cases e4:(A.body==E.body)
         ·have b8:(A.body != E.body)=true:=by unfold bne;rw[e4];rfl
          have HR:Hid (ji pl A E=false):=by show _=_;rw[hN,L,e1,e2,e3,e4];rfl
          exact jd
         ·have b8:(A.body != E.body)=false:=by unfold bne;rw[e4];rfl
          cases e5:(A.els==E.els)
          ·have b9:(A.els != E.els)=true:=by unfold bne;rw[e5];rfl
           have HR:Hid (ji pl A E=false):=by show _=_;rw[hN,L,e1,e2,e3,e4,e5];rfl
           exact jd
          ·have b9:(A.els != E.els)=false:=by unfold bne;rw[e5];rfl
           cases pl
           ·cases hbe:bE
            ·have HR:Hid (ji false A E=false):=by show _=_;rw[hN,L,e1,e2,e3,e4,e5,hbe];rfl
             exact Ha
            ·have HR:Hid (ji false A E=bF):=by show _=_;rw[hN,L,e1,e2,e3,e4,e5,hbe];rfl
             exact ka
           ·cases e6:(A.pos==E.pos)
            ·have cb:(A.pos != E.pos)=true:=by unfold bne;rw[e6];rfl
             have HR:Hid (ji true A E=false):=by show _=_;rw[hN,L,e1,e2,e3,e4,e5,e6];rfl
             exact jd
            ·have cb:(A.pos != E.pos)=false:=by unfold bne;rw[e6];rfl
             cases hbe:bE
             ·have HR:Hid (ji true A E=false):=by show _=_;rw[hN,L,e1,e2,e3,e4,e5,e6,hbe];rfl
              exact Ha
             ·have HR:Hid (ji true A E=bF):=by show _=_;rw[hN,L,e1,e2,e3,e4,e5,e6,hbe];rfl
              exact ka
   ·have HY:=kaa (Pt (b:=pl) HL.out (fun i hi=>HALL.out i Tf));exact Re
 ·have bZ:((a.length:Int)==(b.length:Int))=false:=by rw[beq_eq_false_iff_ne];omega
  have ct:((a.length:Int) != (b.length:Int))=true:=by rw[bne_iff_ne];omega
  have HN:=kaa (Qt (b:=pl) (show(a.map (·.s)).length≠(b.map (·.s)).length by rw[Oca,Oca];exact hl));go_enter Tryz.func98,Tryz.ntmps98;exact te
end Go.Proofs.YtjcihcncljihoaaGreatDoor
namespace Go.Proofs.YtjcihcncljihoaaGreatDoor
open Go
open Go.Region renaming ready→Pca
def WO(_:List Nat)(P:Program)(md:Region.Mode)(ops:Array Oper)(Q:Exit→Act→World→Prop)(S:World→Prop)(fuel:Nat)(listed:Array Bool)(a:Act)(w:World):Prop:=wpAnyH P md ops Q S fuel listed a w
section
variable {P : Program} {ops : Array Oper} {Q : Exit → Act → World → Prop} {md : Region.Mode} {S : World → Prop} {r : List Nat} {i fuel : Nat} {listed : Array Bool} {a : Act} {w : World}
theorem WO.start{id:Nat}(r:List Nat)(S:World→Prop)(hm:P.follows .mixedOrders=true)(A:S w.drew)(h:S w.drew→WO r P .any ops Q S ops.size (Array.replicate ops.size false) a w.drew):(Code.region id ops true).wp P Q a w :=
 wp_region_held_drew hm A h
theorem WO.take{A:Oper}{v:Value}(hi:ops[i]? = some A)(I:Region.noSelect ops=true)(H:Region.free md ops listed i=true)(hr:(Pca md ops listed).contains i=true)
 (E:∀ c a w,Q (.panic c) (a.put A.dst v) w→Q (.panic c) a w) (J:YieldsIf P ops S A v a) (G:S w) (h:WO r P md ops Q S fuel (listed.setIfInBounds i true) (a.put A.dst v) w):WO (i::r) P md ops Q S (fuel+1) listed a w :=
 wpAnyH_take hi I H hr E J G h
theorem WO.call{o:Oper}(hr:Pca md ops listed=[i])(E:ops[i]? = some o)
 (h:∀ A:Act→World→Prop,Shut (∀ a w,S w→(S w→WO r P md ops Q S fuel (listed.setIfInBounds i true) a w)→A a w)→if Region.wanted o (yielded ops a.tmps)=true then Oper.wp P o a w A Q else A (a.put o.dst undef) w):WO (i::r) P md ops Q S (fuel+1) listed a w :=
 wpAnyH_ready hr Yf (AllReadyH.cons E h AllReadyH.nil)
theorem WO.done(hr:Pca md ops listed=[])(h:Q .normal a w):WO [] P md ops Q S fuel listed a w:=wpAnyH_done hr h fuel
end
end Go.Proofs.YtjcihcncljihoaaGreatDoor

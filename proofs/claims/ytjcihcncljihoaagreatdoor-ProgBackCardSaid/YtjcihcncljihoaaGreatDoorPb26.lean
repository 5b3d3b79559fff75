/- Chapter 05 (programs), joined: PgrF, PgrJ, StrB, PgrG, PgrH, PgrI. -/
import Derived.Test.YtjcihcncljihoaaGreatDoorPb23
set_option maxRecDepth 100000
set_option maxHeartbeats 8000000
namespace Go.Proofs.YtjcihcncljihoaaGreatDoor
open Go Go.RowKit
set_option linter.unusedVariables false
open Bool renaming and_false→gea
open Go.Lib renaming hid→kaa
open Go.RowKit.Below renaming refl→Gaa
open Go.World renaming size_alloc→gba
open Int renaming natCast_nonneg→Sba
open Kv renaming cells→Cda
open List renaming eq_nil_of_length_eq_zero→pca,getElem_mem→dba,length_map→Oca,map_eq_flatMap→lea,take_of_length_le→kea
open Nat renaming add_zero→Ada,lt_of_lt_of_le→mba,lt_of_succ_lt_succ→hea,succ_lt_succ→jea,succ_pos→iea,zero_le→laa
open Tv renaming cells→Dda
open Wh renaming shape→Nca
open Xh renaming cells→Kca
open bi renaming below→aca
open Go.Proofs.Tryz renaming prog→maa
theorem Fb{P:Prop}(h:P:=by clear hN;go_enter Tryz.func134,Tryz.ntmps134;go_wp2_with fail;go_ret;exact⟨Bh HR.out.symm,(by repeat (first|exact Below.refl _ _|refine ii ?_ _))⟩):P:=h
theorem Ub{P:Prop}(h:P:=by
 go_roundw;case rel=>exact⟨bt HBW.out (bt (ii (al _ _) _) hb3),j+1,by omega,by go_num,HNX.out (by trivial)⟩
 case measure=>simp[intOf];omega):P:=h
theorem Vb{P:Prop}(h:P:=by have HY:=Lib.hid (Co a b HL.out (fun i h1 h2=>HALL.out i h1 h2 (by omega)));go_wp2_with fail;go_ret;exact⟨Bh HY.out.symm,HBW.out⟩):P:=h
theorem xd{P:Prop}(h:P:=by go_ret;exact⟨Bh (HNO.out (by trivial)).symm,bt HBW.out (bt (ii (al _ _) _) hb3)⟩):P:=h
theorem Gd{P:Prop}(h:P:=by
 by_cases hjj:j'<j;·exact HALL.out j' h1 h2 hjj
 ·obtain rfl:j'=j:=by omega
  exact h):P:=h
theorem Rg{P:Prop}(h:P:=by obtain⟨_,A,c,hv,_⟩:=hu.rows j hj;exact⟨A,c,hv⟩):P:=h
theorem Wg{P:Prop}(h:P:=by repeat (first|exact Below.refl _ _|refine ii ?_ _)):P:=h
theorem Ik{α:Type}{f:α→α→Bool}:∀ (a b:List α),¬ a.length=b.length→Yh f a b=false
 | [],[],h=>absurd rfl h
 | [],_::_,_=>rfl
 |_::_,[],_=>rfl
 |x::a,y::b,h=>by unfold Yh;rw[Ik a b (fun e=>h (by simp[e]))];exact gea _
theorem Ol{α:Type}{f:α→α→Bool}:∀ (a b:List α) (j:Nat) (A:j<a.length) (E:j<b.length),f a[j] b[j]=false→Yh f a b=false
 |x::a,y::b,0,_,_,h=>by unfold Yh;rw[show f x y=false from h];rfl
 |x::a,y::b,j+1,A,E,h=>by unfold Yh;rw[Ol a b j (hea A) (hea E) h];exact gea _
theorem Co{α:Type}{f:α→α→Bool}:∀ (a b:List α),a.length=b.length→(∀ j (A:j<a.length) (E:j<b.length),f a[j] b[j]=true)→Yh f a b=true
 | [],[],_,_=>rfl
 | [],_::_,h,_=>by cases h
 |_::_,[],h,_=>by cases h
 |x::a,y::b,G,h=>by unfold Yh;rw[show f x y=true from h 0 (iea _) (iea _),Co a b (Nat.succ.inj G) (fun j A E=>h (j+1) (jea A) (jea E))];rfl
theorem Rz(f:Xh→Xh→Bool)(a b:List (Xh))(ha:a.length≤100000)(hb:b.length≤100000)(va vb:Value)(w:World)(O:bi w va 3 a.length (a.flatMap Kca))(hB:bi w vb 3 b.length (b.flatMap Kca))(HC:Hid (∀ x∈a,∀ y∈b,∀ u,Below w.heap.size w u→Calls maa 65 #[.agg #[.string (vh x.name),.int .i64 x.n,.int .i64 x.pos],.agg #[.string (vh y.name),.int .i64 y.n,.int .i64 y.pos]] u fun e w'=>e = .returned (.bool (f x y))∧Below u.heap.size u w')):Calls maa 67 #[va,vb,.func (.func 65) #[] #[]] w fun e w'=>e = .returned (.bool (Yh f a b))∧Below w.heap.size w w':=by
 have HA:=kaa O;have HB:=kaa hB;obtain⟨_,A1,c1,rfl,aT,_⟩:=id O;obtain⟨_,A2,c2,rfl,aU,_⟩:=id hB;clear O hB;by_cases M:a.length=b.length
 ·have HL:=kaa M;have af:((a.length:Int) != (b.length:Int))=false:=by rw[M];simp
  clear M;go_enter Tryz.func67,Tryz.ntmps67;go_wp2_with fail;go_loopw [17] (fun k wr=>Below w.heap.size w wr∧∃ j:Nat,j≤a.length∧k = .int .i64 j∧∀ j' (h1:j'<a.length) (h2:j'<b.length),j'<j→f a[j'] b[j']=true) (fun k _=>a.length - (intOf k).toNat);case atStart=>exact⟨Gaa _ _,0,laa _,rfl,fun j' _ _ h=>absurd h Tf⟩
  case round =>
   obtain⟨A,j,hj,rfl,L⟩:=hrel;have HBW:=kaa A;have HALL:=kaa L;clear L;by_cases I:j<a.length
   ·have J:Hid (j<b.length):=by have:=HL.out;show _<_;omega
    obtain⟨b1,o1,k1,Q,Z,E⟩:=Ki (f:=Kca) (fun _=>rfl) HA.out Tf;obtain⟨b2,o2,k2,Y,ad,G⟩:=Ki (f:=Kca) (fun _=>rfl) HB.out ig;cases Q;cases Y;have x0:=E wr A j I 0 _ rfl;have y0:=G wr A j ig 0 _ rfl;have x1:=E wr A j I 1 _ rfl;have y1:=G wr A j ig 1 _ rfl;have x2:=E wr A j I 2 _ rfl;have y2:=G wr A j ig 2 _ rfl;simp only[Ada]at x0 y0;have H:=kaa (HC.out _ (dba I) _ (dba J.out));have HNO:=kaa (Ol (f:=f) a b j I J.out);have HNX:Hid (f a[j] (b[j]'J.out)=true→∀ j' (h1:j'<a.length) (h2:j'<b.length),j'<j+1→f a[j'] b[j']=true):=fun h j' h1 h2 aX=>by exact Gd
    have aV:(j:Int)<(a.length:Int):=by omega
    have aW:(j:Int)<(b.length:Int):=by have:=HL.out;omega
    have ao:=mba Z A.size;have av:=mba ad A.size;clear E G A;generalize b[j]'J.out=y at y0 y1 y2 H HNO HNX;generalize a[j]=x at x0 x1 x2 H HNO HNX;generalize hg:f _ _=bg at H HNO HNX;have HG:=kaa hg;clear hg;cases bg;·go_wp2_with (go_at_call 65;refine(H.out _ (bt HBW.out (ii (al _ _) _))).mono ?_;rintro e w3 ⟨rfl,hb3⟩);exact xd
    ·go_wp2_with (go_at_call 65;refine(H.out _ (bt HBW.out (ii (al _ _) _))).mono ?_;rintro e w3 ⟨rfl,hb3⟩);exact Ub
   ·exact Vb
 ·have af:((a.length:Int) != (b.length:Int))=true:=by rw[bne_iff_ne];omega
  have HN:=kaa (Ik (f:=f) a b M);go_enter Tryz.func67,Tryz.ntmps67;exact te
theorem iN(mb:Nat)(f:Value × List Xh→Value × List Xh→Bool)(a b:List (Value × List Xh))(ha:a.length≤100000)(hb:b.length≤100000)(va vb:Value)(w:World)(hA:bi w va 1 a.length (a.flatMap (fun x:Value × List Xh=>[x.1])))(hB:bi w vb 1 b.length (b.flatMap (fun x:Value × List Xh=>[x.1])))(HS:Hid ((∀ x∈a,∃ A n c,x.1 = .slice A n c)∧∀ x∈b,∃ A n c,x.1 = .slice A n c))(HC:Hid (∀ x∈a,∀ y∈b,∀ u,Below w.heap.size w u→Calls maa 66 #[x.1,y.1,.pointer (some ⟨mb,0,none⟩)] u fun e w'=>e = .returned (.bool (f x y))∧Below u.heap.size u w')):Calls maa 73 #[va,vb,.func (.func 66) #[] #[.pointer (some ⟨mb,0,none⟩)]] w fun e w'=>e = .returned (.bool (Yh f a b))∧Below w.heap.size w w':=by
 have HA:=kaa hA;have HB:=kaa hB;obtain⟨_,A1,c1,rfl,aW,_⟩:=id hA;obtain⟨_,A2,c2,rfl,aX,_⟩:=id hB;clear hA hB;by_cases hl:a.length=b.length
 ·have HL:=kaa hl;have aT:((a.length:Int) != (b.length:Int))=false:=by rw[hl];simp
  clear hl;go_enter Tryz.func73,Tryz.ntmps73;go_wp2_with fail;go_loopw [17] (fun k wr=>Below w.heap.size w wr∧∃ j:Nat,j≤a.length∧k = .int .i64 j∧∀ j' (h1:j'<a.length) (h2:j'<b.length),j'<j→f a[j'] b[j']=true) (fun k _=>a.length - (intOf k).toNat);case atStart=>exact⟨Gaa _ _,0,laa _,rfl,fun j' _ _ h=>absurd h Tf⟩
  case round =>
   obtain⟨G,j,hj,rfl,M⟩:=hrel;have HBW:=kaa G;have HALL:=kaa M;clear M;by_cases L:j<a.length
   ·have H:Hid (j<b.length):=by have:=HL.out;show _<_;omega
    obtain⟨b1,o1,k1,af,ao,O⟩:=Ki (f:=(fun x:Value × List Xh=>[x.1])) (fun _=>rfl) HA.out Tf;obtain⟨b2,o2,k2,al,av,Q⟩:=Ki (f:=(fun x:Value × List Xh=>[x.1])) (fun _=>rfl) HB.out ig;cases af;cases al;have x0:=O wr G j L 0 _ rfl;have y0:=Q wr G j ig 0 _ rfl;simp only[Nat.mul_one,Ada]at x0 y0;have Y:=kaa (HS.out.1 _ (dba L));have Z:=kaa (HS.out.2 _ (dba H.out));have E:=kaa (HC.out _ (dba L) _ (dba H.out));have I:=kaa (Ol (f:=f) a b j L H.out);have J:Hid (f a[j] (b[j]'H.out)=true→∀ j' (h1:j'<a.length) (h2:j'<b.length),j'<j+1→f a[j'] b[j']=true):=fun h j' h1 h2 a0=>by exact Gd
    have aY:(j:Int)<(a.length:Int):=by omega
    have aZ:(j:Int)<(b.length:Int):=by have:=HL.out;omega
    have aU:=mba ao G.size;have aV:=mba av G.size;clear O Q G;generalize b[j]'H.out=y at y0 E I J Z;generalize a[j]=x at x0 E I J Y;obtain⟨A5,n5,c5,h5⟩:=Y.out;obtain⟨A6,n6,c6,h6⟩:=Z.out;rw[h5]at x0;rw[h6]at y0;rw[h5,h6]at E;clear h5 h6 Y Z;generalize hg:f _ _=bg at E I J;have HG:=kaa hg;clear hg;cases bg;·go_wp2_with (go_at_call 66;refine(E.out _ HBW.out).mono ?_;rintro e w3 ⟨rfl,ad⟩);go_ret;exact⟨Bh (I.out Mg).symm,bt HBW.out ad⟩
    ·go_wp2_with (go_at_call 66;refine(E.out _ HBW.out).mono ?_;rintro e w3 ⟨rfl,ad⟩);go_roundw;case rel=>exact⟨bt HBW.out ad,j+1,by omega,by go_num,J.out Mg⟩
     case measure=>simp[intOf];omega
   ·exact Vb
 ·have aT:((a.length:Int) != (b.length:Int))=true:=by rw[bne_iff_ne];omega
  have HN:=kaa (Ik (f:=f) a b hl);go_enter Tryz.func73,Tryz.ntmps73;exact te
theorem jN(f:Kv→Kv→Bool)(a b:List (Kv))(ha:a.length≤100000)(hb:b.length≤100000)(va vb:Value)(w:World)(Z:bi w va 2 a.length (a.flatMap Cda))(hB:bi w vb 2 b.length (b.flatMap Cda))(HS:Hid ((∀ x∈a,∃ A n c,x.ev = .slice A n c)∧∀ x∈b,∃ A n c,x.ev = .slice A n c))(HC:Hid (∀ x∈a,∀ y∈b,∀ u,Below w.heap.size w u→Calls maa 71 #[.agg #[x.ev,.int .i64 x.c.pos],.agg #[y.ev,.int .i64 y.c.pos]] u fun e w'=>e = .returned (.bool (f x y))∧Below u.heap.size u w')):Calls maa 75 #[va,vb,.func (.func 71) #[] #[]] w fun e w'=>e = .returned (.bool (Yh f a b))∧Below w.heap.size w w':=by
 have HA:=kaa Z;have HB:=kaa hB;obtain⟨_,A1,c1,rfl,aW,_⟩:=id Z;obtain⟨_,A2,c2,rfl,aX,_⟩:=id hB;clear Z hB;by_cases Y:a.length=b.length
 ·have HL:=kaa Y;have aT:((a.length:Int) != (b.length:Int))=false:=by rw[Y];simp
  clear Y;go_enter Tryz.func75,Tryz.ntmps75;go_wp2_with fail;go_loopw [17] (fun k wr=>Below w.heap.size w wr∧∃ j:Nat,j≤a.length∧k = .int .i64 j∧∀ j' (h1:j'<a.length) (h2:j'<b.length),j'<j→f a[j'] b[j']=true) (fun k _=>a.length - (intOf k).toNat);case atStart=>exact⟨Gaa _ _,0,laa _,rfl,fun j' _ _ h=>absurd h Tf⟩
  case round =>
   obtain⟨E,j,hj,rfl,M⟩:=hrel;have HBW:=kaa E;have HALL:=kaa M;clear M;by_cases L:j<a.length
   ·have J:Hid (j<b.length):=by have:=HL.out;show _<_;omega
    obtain⟨b1,o1,k1,ad,ao,H⟩:=Ki (f:=Cda) (fun _=>rfl) HA.out Tf;obtain⟨b2,o2,k2,af,av,I⟩:=Ki (f:=Cda) (fun _=>rfl) HB.out ig;cases ad;cases af;have x0:=H wr E j L 0 _ rfl;have y0:=I wr E j ig 0 _ rfl;have x1:=H wr E j L 1 _ rfl;have y1:=I wr E j ig 1 _ rfl;simp only[Ada]at x0 y0;have O:=kaa (HS.out.1 _ (dba L));have Q:=kaa (HS.out.2 _ (dba J.out));have G:=kaa (HC.out _ (dba L) _ (dba J.out));have HNO:=kaa (Ol (f:=f) a b j L J.out);have HNX:Hid (f a[j] (b[j]'J.out)=true→∀ j' (h1:j'<a.length) (h2:j'<b.length),j'<j+1→f a[j'] b[j']=true):=fun h j' h1 h2 a0=>by exact Gd
    have aY:(j:Int)<(a.length:Int):=by omega
    have aZ:(j:Int)<(b.length:Int):=by have:=HL.out;omega
    have aU:=mba ao E.size;have aV:=mba av E.size;clear H I E;generalize b[j]'J.out=y at y0 y1 G HNO HNX Q;generalize a[j]=x at x0 x1 G HNO HNX O;obtain⟨A5,n5,c5,h5⟩:=O.out;obtain⟨A6,n6,c6,h6⟩:=Q.out;rw[h5]at x0;rw[h6]at y0;rw[h5,h6]at G;clear h5 h6 O Q;generalize hg:f _ _=bg at G HNO HNX;have HG:=kaa hg;clear hg;cases bg;·go_wp2_with (go_at_call 71;refine(G.out _ (bt HBW.out (ii (al _ _) _))).mono ?_;rintro e w3 ⟨rfl,hb3⟩);exact xd
    ·go_wp2_with (go_at_call 71;refine(G.out _ (bt HBW.out (ii (al _ _) _))).mono ?_;rintro e w3 ⟨rfl,hb3⟩);exact Ub
   ·exact Vb
 ·have aT:((a.length:Int) != (b.length:Int))=true:=by rw[bne_iff_ne];omega
  have HN:=kaa (Ik (f:=f) a b Y);go_enter Tryz.func75,Tryz.ntmps75;exact te
theorem DF(f:Tv→Tv→Bool)(a b:List (Tv))(ha:a.length≤100000)(hb:b.length≤100000)(va vb:Value)(w:World)(hA:bi w va 4 a.length (a.flatMap Dda))(hB:bi w vb 4 b.length (b.flatMap Dda))(HS:Hid ((∀ x∈a,(∃ A n c,x.rv = .slice A n c)∧∃ A n c,x.bv = .slice A n c)∧∀ x∈b,(∃ A n c,x.rv = .slice A n c)∧∃ A n c,x.bv = .slice A n c))(HC:Hid (∀ x∈a,∀ y∈b,∀ u,Below w.heap.size w u→Calls maa 68 #[.agg #[.string (vh x.name),x.rv,x.bv,.int .i64 x.pos],.agg #[.string (vh y.name),y.rv,y.bv,.int .i64 y.pos]] u fun e w'=>e = .returned (.bool (f x y))∧Below u.heap.size u w')):Calls maa 74 #[va,vb,.func (.func 68) #[] #[]] w fun e w'=>e = .returned (.bool (Yh f a b))∧Below w.heap.size w w':=by
 have HA:=kaa hA;have HB:=kaa hB;obtain⟨_,A1,c1,rfl,aW,_⟩:=id hA;obtain⟨_,A2,c2,rfl,aX,_⟩:=id hB;clear hA hB;by_cases Y:a.length=b.length
 ·have HL:=kaa Y;have aT:((a.length:Int) != (b.length:Int))=false:=by rw[Y];simp
  clear Y;go_enter Tryz.func74,Tryz.ntmps74;go_wp2_with fail;go_loopw [17] (fun k wr=>Below w.heap.size w wr∧∃ j:Nat,j≤a.length∧k = .int .i64 j∧∀ j' (h1:j'<a.length) (h2:j'<b.length),j'<j→f a[j'] b[j']=true) (fun k _=>a.length - (intOf k).toNat);case atStart=>exact⟨Gaa _ _,0,laa _,rfl,fun j' _ _ h=>absurd h Tf⟩
  case round =>
   obtain⟨E,j,hj,rfl,M⟩:=hrel;have HBW:=kaa E;have HALL:=kaa M;clear M;by_cases I:j<a.length
   ·have L:Hid (j<b.length):=by have:=HL.out;show _<_;omega
    obtain⟨b1,o1,k1,ad,ao,G⟩:=Ki (f:=Dda) (fun _=>rfl) HA.out Tf;obtain⟨b2,o2,k2,af,av,H⟩:=Ki (f:=Dda) (fun _=>rfl) HB.out ig;cases ad;cases af;have x0:=G wr E j I 0 _ rfl;have y0:=H wr E j ig 0 _ rfl;have x1:=G wr E j I 1 _ rfl;have y1:=H wr E j ig 1 _ rfl;have x2:=G wr E j I 2 _ rfl;have y2:=H wr E j ig 2 _ rfl;have x3:=G wr E j I 3 _ rfl;have y3:=H wr E j ig 3 _ rfl;simp only[Ada]at x0 y0;have O:=kaa (HS.out.1 _ (dba I));have Q:=kaa (HS.out.2 _ (dba L.out));have J:=kaa (HC.out _ (dba I) _ (dba L.out));have HNO:=kaa (Ol (f:=f) a b j I L.out);have HNX:Hid (f a[j] (b[j]'L.out)=true→∀ j' (h1:j'<a.length) (h2:j'<b.length),j'<j+1→f a[j'] b[j']=true):=fun h j' h1 h2 a0=>by exact Gd
    have aY:(j:Int)<(a.length:Int):=by omega
    have aZ:(j:Int)<(b.length:Int):=by have:=HL.out;omega
    have aU:=mba ao E.size;have aV:=mba av E.size;clear G H E;generalize b[j]'L.out=y at y0 y1 y2 y3 J HNO HNX Q;generalize a[j]=x at x0 x1 x2 x3 J HNO HNX O;obtain⟨⟨A5,n5,c5,h5⟩,A6,n6,c6,h6⟩:=O.out;obtain⟨⟨A7,n7,c7,Z⟩,A8,n8,c8,h8⟩:=Q.out;rw[h5]at x1;rw[h6]at x2;rw[Z]at y1;rw[h8]at y2;rw[h5,h6,Z,h8]at J;clear h5 h6 Z h8 O Q;generalize hg:f _ _=bg at J HNO HNX;have HG:=kaa hg;clear hg;cases bg;·go_wp2_with (go_at_call 68;refine(J.out _ (bt HBW.out (ii (al _ _) _))).mono ?_;rintro e w3 ⟨rfl,hb3⟩);exact xd
    ·go_wp2_with (go_at_call 68;refine(J.out _ (bt HBW.out (ii (al _ _) _))).mono ?_;rintro e w3 ⟨rfl,hb3⟩);exact Ub
   ·exact Vb
 ·have aT:((a.length:Int) != (b.length:Int))=true:=by rw[bne_iff_ne];omega
  have HN:=kaa (Ik (f:=f) a b Y);go_enter Tryz.func74,Tryz.ntmps74;exact te
theorem Az(a b:List Xh)(ha:a.length≤100000)(hb:b.length≤100000)(va vb:Value)(pl:Bool)(w:World)(Q:Aq w va a)(hB:Aq w vb b):Calls maa 32 #[va,vb,.bool pl] w fun e w'=>e = .returned (.bool (Yh (nj pl) a b))∧Below w.heap.size w w':=by
 have HA:=kaa Q;have HB:=kaa hB;obtain⟨_,A1,c1,rfl,af,_⟩:=id Q;obtain⟨_,A2,c2,rfl,al,_⟩:=id hB;clear Q hB;by_cases O:a.length=b.length
 ·have HL:=kaa O;have ad:((a.length:Int) != (b.length:Int))=false:=by rw[O];simp
  clear O;go_enter Tryz.func32,Tryz.ntmps32;go_wp2_with fail;go_loopw [7] (fun k wr=>Below w.heap.size w wr∧∃ j:Nat,j≤a.length∧k = .int .i64 j∧∀ j' (h1:j'<a.length) (h2:j'<b.length),j'<j→nj pl a[j'] b[j']=true) (fun k _=>a.length - (intOf k).toNat);case atStart=>exact⟨Gaa _ _,0,laa _,rfl,fun j' _ _ h=>absurd h Tf⟩
  case round =>
   obtain⟨A,j,hj,rfl,M⟩:=hrel;have HBW:=kaa A;have HALL:=kaa M;clear M;by_cases L:j<a.length
   ·have H:Hid (j<b.length):=by have:=HL.out;show _<_;omega
    obtain⟨b1,o1,k1,Y,aU,E⟩:=Ki (f:=Kca) (fun _=>rfl) HA.out Tf;obtain⟨b2,o2,k2,Z,aV,G⟩:=Ki (f:=Kca) (fun _=>rfl) HB.out ig;cases Y;cases Z;have x0:=E wr A j L 0 _ rfl;have y0:=G wr A j H.out 0 _ rfl;have x1:=E wr A j L 1 _ rfl;have y1:=G wr A j H.out 1 _ rfl;have x2:=E wr A j L 2 _ rfl;have y2:=G wr A j H.out 2 _ rfl;simp only[Ada]at x0 y0;have I:=kaa (Ol (f:=nj pl) a b j L H.out);have J:Hid (nj pl a[j] (b[j]'H.out)=true→∀ j' (h1:j'<a.length) (h2:j'<b.length),j'<j+1→nj pl a[j'] b[j']=true):=fun h j' h1 h2 aW=>by exact Gd
    have ao:(0:Int)≤(j:Int):=Sba _;have av:(j:Int)<(a.length:Int):=by omega
    have aT:(j:Int)<(b.length:Int):=by have:=HL.out;omega
    clear E G A;generalize b[j]'H.out=y at y0 y1 y2 I J;generalize a[j]=x at x0 x1 x2 I J;have HV:Hid (nj pl x y=(((vh x.name).toList==(vh y.name).toList)&&(x.n==y.n)&&(!pl||x.pos==y.pos))):=by show _=_;rw[Ah,Ah];rfl
    rw[HV.out]at I J;clear HV;cases h2:((vh x.name).toList==(vh y.name).toList);all_goals cases h1:(x.n==y.n)
    all_goals cases pl
    all_goals cases h3:(x.pos==y.pos)
    all_goals
     rw[h2,h1,h3]at I J;have e2:((vh x.name).toList != (vh y.name).toList)=_:=congrArg (fun b=>!b) h2;have e1:(x.n != y.n)=_:=congrArg (fun b=>!b) h1;have e3:(x.pos != y.pos)=_:=congrArg (fun b=>!b) h3;simp only[Bool.not_true,Bool.not_false]at e1 e2 e3;go_upto_region 6 with fail;go_quiet (fail);go_wp2_with fail;first
      |(go_ret;exact⟨Bh (I.out rfl).symm,dk HBW.out _⟩)
      |(go_roundw;(case rel=>exact⟨dk HBW.out _,j+1,by omega,by go_num,J.out rfl⟩);(case measure=>simp[intOf];omega))
      |fail
   ·exact Vb
 ·have ad:((a.length:Int) != (b.length:Int))=true:=by rw[bne_iff_ne];omega
  have HN:=kaa (Ik (f:=nj pl) a b O);go_enter Tryz.func32,Tryz.ntmps32;exact te
theorem wG(x y:St):ji false x y=((x.kind==y.kind)&&((vh x.reg).toList==(vh y.reg).toList)&&((vh x.name).toList==(vh y.name).toList)&&(x.n==y.n)&&(x.body==y.body)&&(x.els==y.els)&&tj false x.e y.e&&tj false x.f y.f):=by unfold ji;rw[Ah,Ah,Ah,Ah];simp
theorem VI(x y:St)(e1 f1 e2 f2:Value)(ad:x.e.length≤100000)(af:x.f.length≤100000)(ao:y.e.length≤100000)(av:y.f.length≤100000)(w:World)(I:Wh w e1 x.e)(L:Wh w f1 x.f)(J:Wh w e2 y.e)(M:Wh w f2 y.f):Calls maa 134 #[YC x e1 f1,YC y e2 f2] w fun e w'=>e = .returned (.bool (ji false x y))∧Below w.heap.size w w':=by
 have hN:=wG x y;have G:Hid (∀ u,Below w.heap.size w u→Calls maa 72 #[e1,e2] u fun e w'=>e = .returned (.bool (tj false x.e y.e))∧Below u.heap.size u w'):=fun u hu=>xE x.e y.e ad ao e1 e2 u (aca I hu) (aca J hu);have Y:Hid (∀ u,Below w.heap.size w u→Calls maa 72 #[f1,f2] u fun e w'=>e = .returned (.bool (tj false x.f y.f))∧Below u.heap.size u w'):=fun u hu=>xE x.f y.f af av f1 f2 u (aca L hu) (aca M hu);obtain⟨A1,c1,rfl,_⟩:=Nca I;obtain⟨A2,c2,rfl,_⟩:=Nca L;obtain⟨A3,c3,rfl,_⟩:=Nca J;obtain⟨A4,c4,rfl,_⟩:=Nca M;generalize x.e.length=n1 at G;generalize x.f.length=n2 at Y;generalize y.e.length=n3 at G;generalize y.f.length=n4 at Y;generalize tj false x.e y.e=bE at hN G;generalize tj false x.f y.f=bF at hN Y;clear I L J M ad af ao av;unfold YC;cases E:(x.kind==y.kind)
 ·have HR:Hid (ji false x y=false):=by show _=_;rw[hN,E];rfl
  exact Fb
 ·skip;cases H:((vh x.reg).toList==(vh y.reg).toList)
  ·have HR:Hid (ji false x y=false):=by show _=_;rw[hN,E,H];rfl
   exact Fb
  ·skip;cases O:((vh x.name).toList==(vh y.name).toList)
   ·have HR:Hid (ji false x y=false):=by show _=_;rw[hN,E,H,O];rfl
    exact Fb
   ·skip;cases Z:(x.n==y.n)
    ·have HR:Hid (ji false x y=false):=by show _=_;rw[hN,E,H,O,Z];rfl
     exact Fb
    ·skip;cases h4:(x.body==y.body)
     ·have HR:Hid (ji false x y=false):=by show _=_;rw[hN,E,H,O,Z,h4];rfl
      exact Fb
     ·skip;cases h5:(x.els==y.els)
      ·have HR:Hid (ji false x y=false):=by show _=_;rw[hN,E,H,O,Z,h4,h5];rfl
       exact Fb
      ·skip;cases hb:bE
       ·rw[hb]at G;have HR:Hid (ji false x y=false):=by show _=_;rw[hN,E,H,O,Z,h4,h5,hb];rfl
        clear hN;go_enter Tryz.func134,Tryz.ntmps134;go_wp2_with (go_at_call 72;refine(G.out _ Wg).mono ?_;rintro e w3 ⟨rfl,A⟩);go_ret;exact⟨Bh HR.out.symm,bt (ii (al _ _) _) A⟩
       ·rw[hb]at G;have aU:=kaa Y;have HR:Hid (ji false x y=bF):=by show _=_;rw[hN,E,H,O,Z,h4,h5,hb];rfl
        clear hN;go_enter Tryz.func134,Tryz.ntmps134;go_wp2_with (first|(go_at_call 72;(with_reducible refine(G.out _ Wg).mono ?_);rintro e w3 ⟨rfl,A⟩;have Q:=kaa (bt (ii (al _ _) _) A);have aV:=A.cell (p:=⟨w.heap.size,4,none⟩) (by simp only[gba];omega);have aW:=A.cell (p:=⟨w.heap.size+1,4,none⟩) (by simp only[gba];omega))|(go_at_call 72;(with_reducible refine(Y.out _ Q.out).mono ?_);rintro e w4 ⟨rfl,aT⟩));go_ret;exact⟨Bh HR.out.symm,bt Q.out aT⟩
theorem BK(a b:List Sv)(ha:a.length≤100000)(hb:b.length≤100000)(ad:∀ x∈a,x.s.e.length≤100000∧x.s.f.length≤100000)(af:∀ x∈b,x.s.e.length≤100000∧x.s.f.length≤100000)(va vb:Value)(w:World)(hA:Kp w va a)(hB:Kp w vb b):Calls maa 133 #[va,vb,.func (.func 134) #[] #[]] w fun e w'=>e = .returned (.bool (Qk false (a.map (·.s)) (b.map (·.s))))∧Below w.heap.size w w':=by
 obtain⟨A1,c1,rfl,bE⟩:=hA.shape;obtain⟨A2,c2,rfl,bF⟩:=hB.shape;by_cases hl:a.length=b.length
 ·have bh:((a.length:Int) != (b.length:Int))=false:=by simp[hl]
  have HA:=kaa hA;have HB:=kaa hB;have HS:Hid (∀ x∈a,∀ y∈b,∀ u,Below w.heap.size w u→Calls maa 134 #[YC x.s x.ev x.fv,YC y.s y.ev y.fv] u fun e w'=>e = .returned (.bool (ji false x.s y.s))∧Below u.heap.size u w'):=fun x hx y hy u hu=>VI x.s y.s x.ev x.fv y.ev y.fv (ad x hx).1 (ad x hx).2 (af y hy).1 (af y hy).2 u (aca (HA.out.2 x hx).1 hu) (aca (HA.out.2 x hx).2 hu) (aca (HB.out.2 y hy).1 hu) (aca (HB.out.2 y hy).2 hu);have HL:=kaa hl;clear hA hB hl;go_enter Tryz.func133,Tryz.ntmps133;go_wp2_with fail;go_loopw [17] (fun k wr=>Below w.heap.size w wr∧∃ j:Nat,j≤a.length∧k = .int .i64 j∧∀ j',j'<j→ji false (sv a j').s (sv b j').s=true) (fun k _=>a.length - (intOf k).toNat);case atStart=>exact⟨Gaa _ _,0,laa _,rfl,fun j' h=>absurd h Tf⟩
  case round =>
   obtain⟨E,j,hj,rfl,M⟩:=hrel;have HBW:=kaa E;have HALL:=kaa M;clear M;by_cases I:j<a.length
   ·obtain⟨b1,o1,k1,bf,bR,ao,O⟩:=Kp.at_ (pl:=a) HA.out Tf;obtain⟨b2,o2,k2,bg,bS,av,Q⟩:=Kp.at_ (pl:=b) HB.out ig;cases bf;cases bg;have x1:=O j I;have y1:=Q j ig;rw[← uA I]at x1;rw[← uA ig]at y1;obtain⟨aT,aU,aV,aW,aX,aY,aZ,a0,a1⟩:=x1.below E ao;obtain⟨a2,a3,a4,a5,a6,a7,a8,a9,bb⟩:=y1.below E av;have G:=kaa (nz I);have H:=kaa (nz (l:=b) (i:=j) ig);have Y:=kaa (HA.out.2 _ G.out);have Z:=kaa (HB.out.2 _ H.out);have HF:Hid (ji false (sv a j).s (sv b j).s=false→Qk false (a.map (·.s)) (b.map (·.s))=false):=fun h=>cw HL.out j I h;have HT:Hid (ji false (sv a j).s (sv b j).s=true→∀ j',j'=j→ji false (sv a j').s (sv b j').s=true):=fun h j' e=>by subst e;exact h
    have bI:(0:Int)≤(j:Int):=Sba _;have bL:(j:Int)<(a.length:Int):=by omega
    have bN:(j:Int)<(b.length:Int):=by have:=HL.out;omega
    have bk:=mba ao E.size;have bs:=mba av E.size;clear O Q x1 y1 E;generalize sv a j=x at aT aU aV aW aX aY aZ a0 a1 HF HT G Y;generalize sv b j=y at a2 a3 a4 a5 a6 a7 a8 a9 bb HF HT H Z;have A:=kaa (HS.out x G.out y H.out);unfold YC at A;obtain⟨xs,xe,xf⟩:=x;obtain⟨ys,ye,yf⟩:=y;have J:=Y.out;have L:=Z.out;dsimp only at J L aT aU aV aW aX aY aZ a0 a1 a2 a3 a4 a5 a6 a7 a8 a9 bb HF HT A;obtain⟨A5,c5,rfl,_⟩:=Nca J.1;obtain⟨A6,c6,rfl,_⟩:=Nca J.2;obtain⟨A7,c7,rfl,_⟩:=Nca L.1;obtain⟨A8,c8,rfl,_⟩:=Nca L.2;clear J L Y Z G H;cases hs:ji false xs ys;·simp only[hs]at A;have HF2:=kaa (HF.out hs);clear hs;go_wp2_with (go_at_call 134;refine(A.out _ (bt HBW.out (ii (al _ _) _))).mono ?_;rintro e w3 ⟨rfl,hb3⟩);exact Wd
    ·simp only[hs]at A;have HT2:=kaa (HT.out hs);clear hs;go_wp2_with (go_at_call 134;refine(A.out _ (bt HBW.out (ii (al _ _) _))).mono ?_;rintro e w3 ⟨rfl,hb3⟩);exact Ab
   ·have HY:=kaa (Pt (b:=false) HL.out (fun i hi=>HALL.out i Tf));exact Re
 ·have bh:((a.length:Int) != (b.length:Int))=true:=by rw[bne_iff_ne];omega
  have HN:=kaa (Qt (b:=false) (show(a.map (·.s)).length≠(b.map (·.s)).length by rw[Oca,Oca];exact hl));go_enter Tryz.func133,Tryz.ntmps133;exact te
theorem FN(a b:List Sv)(ha:a.length≤100000)(M:b.length≤100000)(E:∀ x∈a,x.s.e.length≤100000∧x.s.f.length≤100000)(H:∀ x∈b,x.s.e.length≤100000∧x.s.f.length≤100000)(I J:Value)(w:World)(A:Kp w I a)(hB:Kp w J b):Calls maa 70 #[I,J] w fun e w'=>e = .returned (.bool (Qk false (a.map (·.s)) (b.map (·.s))))∧Below w.heap.size w w':=by have L:=kaa (BK a b ha M E H I J w A hB);obtain⟨Y,c1,rfl,O⟩:=A.shape;obtain⟨Z,c2,rfl,Q⟩:=hB.shape;clear A hB;go_enter Tryz.func70,Tryz.ntmps70;go_wp2_with (go_at_call 133;refine(L.out).mono ?_;rintro e w3 ⟨rfl,G⟩);go_ret;exact⟨rfl,G⟩
theorem II(A E:List (List UInt8)):decide (A.map vh=E.map vh)=(A==E):=by have h:(A.map vh=E.map vh) ↔ A=E:=⟨fun h=>by have:=congrArg (List.map ByteArray.toList) h;simpa[List.map_map,Function.comp_def,Ah]using this,fun h=>by rw[h]⟩;rw[Bool.eq_iff_iff];simp[h]
theorem xA(A:List (List UInt8))(j:Nat)(E:j<A.length):(A.map vh).getD j ByteArray.empty=vh A[j]:=by rw[List.getD_eq_getElem?_getD,List.getElem?_map,List.getElem?_eq_getElem E];rfl
theorem JI(E G:List (List UInt8))(hx:E.length≤100000)(hy:G.length≤100000)(v u:Value)(w:World)(L:Tr w v E)(J:Tr w u G):Calls maa 69 #[v,u] w fun e w'=>e = .returned (.bool (E==G))∧Below w.heap.size w w':=by
 rw[← II];by_cases I:E.length=G.length
 ·by_cases M:E.length=0;·obtain⟨_,A,c,rfl,_,_⟩:=L;obtain⟨_,B,d,rfl,_,_⟩:=J;obtain rfl:=pca M;obtain rfl:=pca (I▸M:G.length=0);exact(Tryz.slices_Equal_string_empty A B c _ d w Uf).mono (by rintro e w' ⟨rfl,rfl⟩;exact⟨by simp,Gaa _ _⟩)
  ·obtain⟨O,o1,c,rfl,_,Y⟩:=Ki (f:=Mh) (fun _=>rfl) L Tf;obtain⟨Q,o2,d,rfl,_,Z⟩:=Ki (f:=Mh) (fun _=>rfl) J Tf;refine(Tryz.slices_Equal_string O o1 E.length c Q o2 G.length d (E.map vh) (G.map vh) w Yf Yf Tf Tf (fun j H=>?_) (fun j H=>?_)).mono ?_;·rw[Oca]at H;rw[xA E j H];have:=Y w (Gaa _ _) j H 0 _ rfl;simpa using this
   ·rw[Oca]at H;rw[xA G j H];have:=Z w (Gaa _ _) j H 0 _ rfl;simpa using this
   ·rintro e w' ⟨rfl,q,rfl⟩;exact⟨by rw[kea Yf,kea Yf],Hn (Gaa _ _) q⟩
 ·obtain⟨_,A,c,rfl,_,_⟩:=L;obtain⟨_,B,d,rfl,_,_⟩:=J;refine(Tryz.slices_Equal_string_lens A B E.length c G.length d w I).mono ?_;rintro e w' ⟨rfl,rfl⟩;exact⟨by rw[decide_eq_false (fun h=>I (by simpa using congrArg List.length h))],Gaa _ _⟩
theorem pu(x y:Xh)(w:World):Calls maa 65 #[.agg #[.string (vh x.name),.int .i64 x.n,.int .i64 x.pos],.agg #[.string (vh y.name),.int .i64 y.n,.int .i64 y.pos]] w fun e w'=>e = .returned (.bool (nj false x y))∧Below w.heap.size w w':=by
 have A:Hid (nj false x y=(((vh x.name).toList==(vh y.name).toList)&&(x.n==y.n))):=by show _=_;rw[Ah,Ah];unfold nj;simp
 rw[A.out];clear A;cases E:((vh x.name).toList==(vh y.name).toList);all_goals cases G:(x.n==y.n)
 all_goals go_enter Tryz.func65,Tryz.ntmps65;go_wp2_with fail;go_ret;exact⟨rfl,by repeat (first|exact Gaa _ _|refine ii ?_ _)⟩
theorem sH(mb:Nat)(x y:List Xh)(J:x.length≤100000)(L:y.length≤100000)(v u:Value)(w:World)(H:Aq w v x)(G:Aq w u y)(hm:w.cell? ⟨mb,0,none⟩=some (.func (.func 65) #[] #[])):Calls maa 66 #[v,u,.pointer (some ⟨mb,0,none⟩)] w fun e w'=>e = .returned (.bool (Yh (nj false) x y))∧Below w.heap.size w w':=by have I:=kaa (Rz (nj false) x y J L v u w H G (fun a _ b _ u2 _=>pu a b u2));obtain⟨_,A,c,rfl,_,_⟩:=H;obtain⟨_,B,d,rfl,_,_⟩:=G;go_enter Tryz.func66,Tryz.ntmps66;go_wp2_with (go_at_call 67;(with_reducible refine I.out.mono ?_);rintro e M ⟨rfl,E⟩);go_ret;exact⟨rfl,E⟩
theorem VH(x y:Kv)(O:x.c.e.length≤100000)(Q:y.c.e.length≤100000)(w:World)(M:Wh w x.ev x.c.e)(L:Wh w y.ev y.c.e):Calls maa 71 #[.agg #[x.ev,.int .i64 x.c.pos],.agg #[y.ev,.int .i64 y.c.pos]] w fun e w'=>e = .returned (.bool (Lm false x.c y.c))∧Below w.heap.size w w':=by
 have G:=kaa (fun(u2:World) (h:Below w.heap.size w u2)=>xE x.c.e y.c.e O Q x.ev y.ev u2 (aca M h) (aca L h));have H:Hid (Lm false x.c y.c=tj false x.c.e y.c.e):=by show _=_;unfold Lm;simp
 rw[H.out];clear H;obtain⟨xv,⟨Z,xq⟩⟩:=x;obtain⟨yv,⟨ye,yq⟩⟩:=y;obtain⟨_,A,c,I,_,_⟩:=M;obtain⟨_,B,d,J,_,_⟩:=L;simp only at I J;subst I J;simp only at G ⊢;go_enter Tryz.func71,Tryz.ntmps71;go_wp2_with (go_at_call 72;(with_reducible refine(G.out _ (ii (al _ _) _)).mono ?_);rintro e Y ⟨rfl,E⟩);go_ret;exact⟨rfl,bt (ii (al _ _) _) E⟩
theorem eP:∀ a b c:Bool,a=false∨(a=true∧b=false)∨(a=true∧b=true∧c=false)∨(a=true∧b=true∧c=true):=by decide
theorem EI(w:World)(x y:Tv)(T:TypeId):∀ u,Below ((w.alloc (.cells #[.string (vh x.name),x.rv,x.bv,.int .i64 x.pos] T)).alloc (.cells #[.string (vh y.name),y.rv,y.bv,.int .i64 y.pos] T)).heap.size ((w.alloc (.cells #[.string (vh x.name),x.rv,x.bv,.int .i64 x.pos] T)).alloc (.cells #[.string (vh y.name),y.rv,y.bv,.int .i64 y.pos] T)) u →
 u.cell? ⟨w.heap.size,1,none⟩=some x.rv∧u.cell? ⟨w.heap.size,2,none⟩=some x.bv∧u.cell? ⟨w.heap.size+1,1,none⟩=some y.rv∧u.cell? ⟨w.heap.size+1,2,none⟩=some y.bv:=fun u A=>by
 have E:w.heap.size<((w.alloc (.cells #[.string (vh x.name),x.rv,x.bv,.int .i64 x.pos] T)).alloc (.cells #[.string (vh y.name),y.rv,y.bv,.int .i64 y.pos] T)).heap.size:=by simp;omega
 have G:w.heap.size+1<((w.alloc (.cells #[.string (vh x.name),x.rv,x.bv,.int .i64 x.pos] T)).alloc (.cells #[.string (vh y.name),y.rv,y.bv,.int .i64 y.pos] T)).heap.size:=by simp
 exact⟨(A.cell (p:=⟨w.heap.size,1,none⟩) E).trans kg,(A.cell (p:=⟨w.heap.size,2,none⟩) E).trans kg,(A.cell (p:=⟨w.heap.size+1,1,none⟩) G).trans kg,(A.cell (p:=⟨w.heap.size+1,2,none⟩) G).trans kg⟩
theorem Wx(x y:Tv)(E:Gx x)(G:Gx y)(w:World)(Q:Fx w x)(O:Fx w y):Calls maa 68 #[.agg #[.string (vh x.name),x.rv,x.bv,.int .i64 x.pos],.agg #[.string (vh y.name),y.rv,y.bv,.int .i64 y.pos]] w fun e w'=>e = .returned (.bool (Ak false x.t y.t))∧Below w.heap.size w w':=by
 have Z:=kaa (EI w x y 41);have J:=kaa (fun(u:World) (h:Below w.heap.size w u)=>JI x.regs y.regs E.rl G.rl x.rv y.rv u (aca Q.1 h) (aca O.1 h));have L:=kaa (fun(u:World) (h:Below w.heap.size w u)=>FN x.pl y.pl E.bl G.bl (fun a ha=>⟨(E.bd a ha).e,(E.bd a ha).f⟩) (fun a ha=>⟨(G.bd a ha).e,(G.bd a ha).f⟩) x.bv y.bv u (Q.2.below h) (O.2.below h));have Y:Hid (Ak false x.t y.t=(((vh x.name).toList==(vh y.name).toList)&&(x.regs==y.regs)&&Qk false (x.pl.map (·.s)) (y.pl.map (·.s)))):=by show _=_;rw[Ah,Ah];unfold Ak Tv.t;simp
 rw[Y.out];clear Y E G;obtain⟨xn,xr,xs,xb,xp,xq⟩:=x;obtain⟨yn,yr,ys,yb,yp,yq⟩:=y;obtain⟨⟨_,A1,c1,h1,_,_⟩,⟨⟨_,A2,c2,h2,_,_⟩,_⟩⟩:=Q;obtain⟨⟨_,A3,c3,h3,_,_⟩,⟨⟨_,A4,c4,h4,_,_⟩,_⟩⟩:=O;simp only at h1 h2 h3 h4;subst h1 h2 h3 h4;simp only at Z J L ⊢;generalize ad:((vh xn).toList==(vh yn).toList)=b1;generalize (xs==ys)=b2 at J ⊢;generalize Qk false _ _=b3 at L ⊢;rcases eP b1 b2 b3 with rfl|⟨rfl,rfl⟩|⟨rfl,rfl,rfl⟩|⟨rfl,rfl,rfl⟩;all_goals
  have HB:Hid (Below w.heap.size w ((w.alloc (.cells #[.string (vh xn),.slice A1 xs.length c1,.slice A2 xp.length c2,.int .i64 xq] 41)).alloc (.cells #[.string (vh yn),.slice A3 ys.length c3,.slice A4 yp.length c4,.int .i64 yq] 41))):=ii (al _ _) _;go_enter Tryz.func68,Tryz.ntmps68;go_wp2_with (first
   |(go_at_call 69;(with_reducible refine(J.out _ HB.out).mono ?_);rintro e w2 ⟨rfl,A⟩;obtain⟨y1,y2,y3,y4⟩:=Z.out _ A;have H:=HB;clear HB;have HB:=kaa (bt H.out A))
   |(go_at_call 70;(with_reducible refine(L.out _ HB.out).mono ?_);rintro e w4 ⟨rfl,M⟩;have I:=HB;clear HB;have HB:=kaa (bt I.out M)))
  exact Nf
theorem six:∀ a b c d e f:Bool,a=false∨(a=true∧b=false)∨(a=true∧b=true∧c=false)∨(a=true∧b=true∧c=true∧d=false)∨(a=true∧b=true∧c=true∧d=true∧e=false)∨(a=true∧b=true∧c=true∧d=true∧e=true∧f=false)∨(a=true∧b=true∧c=true∧d=true∧e=true∧f=true):=by intro a b c d e f;cases a<;>cases b<;>cases c<;>cases d<;>cases e<;>cases f<;>simp
theorem ly{α β:Type}{f:β→β→Bool}{g:α→β}:∀ (a b:List α),Yh f (a.map g) (b.map g)=Yh (fun x y=>f (g x) (g y)) a b
 | [],[]=>rfl
 | [],_::_=>rfl
 |_::_,[]=>rfl
 |x::a,y::b=>by show(f (g x) (g y)&&Yh f (a.map g) (b.map g))=(f (g x) (g y)&&Yh (fun x y=>f (g x) (g y)) a b);rw[ly a b]
theorem PE(p:Bool)(q r:qj):cm p q.p r.p=(Yh (fun x y=>Yh (nj p) x.2 y.2) q.lines r.lines&&Yh (nj p) q.vols r.vols&&Yh (nj p) q.locks r.locks&&Yh (fun x y=>Ak p x.t y.t) q.thrs r.thrs&&Yh (fun x y=>Ak p x.t y.t) q.rcv r.rcv&&Yh (fun x y=>Lm p x.c y.c) q.clms r.clms):=by unfold cm qj.p;simp only[ly]
theorem kJ(w:World)(E G H I J L M O Q Y Z b5 f:Value)(T T2:TypeId):∀ u,Below ((((w.alloc (.cells #[E,G,H,I,J,L] T)).alloc (.cells #[M,O,Q,Y,Z,b5] T)).alloc (.cells #[f] T2))).heap.size (((w.alloc (.cells #[E,G,H,I,J,L] T)).alloc (.cells #[M,O,Q,Y,Z,b5] T)).alloc (.cells #[f] T2)) u→u.cell? ⟨w.heap.size,0,none⟩=some E∧u.cell? ⟨w.heap.size,1,none⟩=some G∧u.cell? ⟨w.heap.size,2,none⟩=some H∧u.cell? ⟨w.heap.size,3,none⟩=some I∧u.cell? ⟨w.heap.size,4,none⟩=some J∧u.cell? ⟨w.heap.size,5,none⟩=some L∧u.cell? ⟨w.heap.size+1,0,none⟩=some M∧u.cell? ⟨w.heap.size+1,1,none⟩=some O∧u.cell? ⟨w.heap.size+1,2,none⟩=some Q∧u.cell? ⟨w.heap.size+1,3,none⟩=some Y∧u.cell? ⟨w.heap.size+1,4,none⟩=some Z∧u.cell? ⟨w.heap.size+1,5,none⟩=some b5∧u.cell? ⟨w.heap.size+2,0,none⟩=some f:=fun u A=>by
 have h0:w.heap.size<((((w.alloc (.cells #[E,G,H,I,J,L] T)).alloc (.cells #[M,O,Q,Y,Z,b5] T)).alloc (.cells #[f] T2))).heap.size:=by simp;omega
 have h1:w.heap.size+1<((((w.alloc (.cells #[E,G,H,I,J,L] T)).alloc (.cells #[M,O,Q,Y,Z,b5] T)).alloc (.cells #[f] T2))).heap.size:=by simp
 have h2:w.heap.size+2<((((w.alloc (.cells #[E,G,H,I,J,L] T)).alloc (.cells #[M,O,Q,Y,Z,b5] T)).alloc (.cells #[f] T2))).heap.size:=by simp
 exact⟨(A.cell (p:=⟨w.heap.size,0,none⟩) h0).trans kg,(A.cell (p:=⟨w.heap.size,1,none⟩) h0).trans kg,(A.cell (p:=⟨w.heap.size,2,none⟩) h0).trans kg,(A.cell (p:=⟨w.heap.size,3,none⟩) h0).trans kg,(A.cell (p:=⟨w.heap.size,4,none⟩) h0).trans kg,(A.cell (p:=⟨w.heap.size,5,none⟩) h0).trans kg,(A.cell (p:=⟨w.heap.size+1,0,none⟩) h1).trans kg,(A.cell (p:=⟨w.heap.size+1,1,none⟩) h1).trans kg,(A.cell (p:=⟨w.heap.size+1,2,none⟩) h1).trans kg,(A.cell (p:=⟨w.heap.size+1,3,none⟩) h1).trans kg,(A.cell (p:=⟨w.heap.size+1,4,none⟩) h1).trans kg,(A.cell (p:=⟨w.heap.size+1,5,none⟩) h1).trans kg,(A.cell (p:=⟨w.heap.size+2,0,none⟩) h2).trans kg⟩
theorem sM(o Q:Nat→Value)(q r:qj)(hq:eA q)(hr:eA r)(w:World)(hv:Lp w o q)(hu:Lp w Q r):Calls maa 20 #[.agg #[o 0,o 1,o 2,o 3,o 4,o 5],.agg #[Q 0,Q 1,Q 2,Q 3,Q 4,Q 5]] w fun e w'=>e = .returned (.bool (cm false q.p r.p))∧Below w.heap.size w w':=by
 have M:=fun(u:World) (h:Below w.heap.size w u) (j:Nat) (hj:j<6)=>aca (hv.rows j hj) h;have J:=fun(u:World) (h:Below w.heap.size w u) (j:Nat) (hj:j<6)=>aca (hu.rows j hj) h;have H0:=kaa (fun(u:World) (h:Below w.heap.size w u) (hm:u.cell? ⟨w.heap.size+2,0,none⟩=some (.func (.func 65) #[] #[]))=>iN (w.heap.size+2) (fun x y=>Yh (nj false) x.2 y.2) q.lines r.lines (hq.n 0 Uf) (hr.n 0 Uf) (o 0) (Q 0) u (by rw[← lea];exact M u h 0 Uf) (by rw[← lea];exact J u h 0 Uf) ⟨fun x H=>gj (hv.deep.lines x H),fun x H=>gj (hu.deep.lines x H)⟩ (fun x H y Z u2 Y=>sH (w.heap.size+2) x.2 y.2 (hq.lines x H).1 (hr.lines y Z).1 x.1 y.1 u2 (aca (aca (hv.deep.lines x H) h) Y) (aca (aca (hu.deep.lines y Z) h) Y) ((Y.cell (p:=⟨w.heap.size+2,0,none⟩) (World.block_lt_of_cell? u ⟨w.heap.size+2,0,none⟩ hm)).trans hm)));have H1:=kaa (fun(u:World) (h:Below w.heap.size w u)=>Rz (nj false) q.vols r.vols (hq.n 1 Uf) (hr.n 1 Uf) (o 1) (Q 1) u (M u h 1 Uf) (J u h 1 Uf) (fun a _ b _ u2 _=>pu a b u2));have H2:=kaa (fun(u:World) (h:Below w.heap.size w u)=>Rz (nj false) q.locks r.locks (hq.n 2 Uf) (hr.n 2 Uf) (o 2) (Q 2) u (M u h 2 Uf) (J u h 2 Uf) (fun a _ b _ u2 _=>pu a b u2));have H3:=kaa (fun(u:World) (h:Below w.heap.size w u)=>DF (fun x y=>Ak false x.t y.t) q.thrs r.thrs (hq.n 3 Uf) (hr.n 3 Uf) (o 3) (Q 3) u (M u h 3 Uf) (J u h 3 Uf) ⟨fun x H=>⟨gj (hv.deep.thrs x H).1,gj (hv.deep.thrs x H).2.1⟩,fun x H=>⟨gj (hu.deep.thrs x H).1,gj (hu.deep.thrs x H).2.1⟩⟩ (fun x H y Z u2 Y=>Wx x y (hq.thrs x H) (hr.thrs y Z) u2 (((hv.deep.thrs x H).below h).below Y) (((hu.deep.thrs y Z).below h).below Y)));have H4:=kaa (fun(u:World) (h:Below w.heap.size w u)=>DF (fun x y=>Ak false x.t y.t) q.rcv r.rcv (hq.n 4 Uf) (hr.n 4 Uf) (o 4) (Q 4) u (M u h 4 Uf) (J u h 4 Uf) ⟨fun x H=>⟨gj (hv.deep.rcv x H).1,gj (hv.deep.rcv x H).2.1⟩,fun x H=>⟨gj (hu.deep.rcv x H).1,gj (hu.deep.rcv x H).2.1⟩⟩ (fun x H y Z u2 Y=>Wx x y (hq.rcv x H) (hr.rcv y Z) u2 (((hv.deep.rcv x H).below h).below Y) (((hu.deep.rcv y Z).below h).below Y)));have H5:=kaa (fun(u:World) (h:Below w.heap.size w u)=>jN (fun x y=>Lm false x.c y.c) q.clms r.clms (hq.n 5 Uf) (hr.n 5 Uf) (o 5) (Q 5) u (M u h 5 Uf) (J u h 5 Uf) ⟨fun x H=>gj (hv.deep.clms x H),fun x H=>gj (hu.deep.clms x H)⟩ (fun x H y Z u2 Y=>VH x y (hq.clms x H).el (hr.clms y Z).el u2 (aca (aca (hv.deep.clms x H) h) Y) (aca (aca (hu.deep.clms y Z) h) Y)));have HR:=kaa (PE false q r);have O:∀ j,j<6→∃ A c,o j = .slice A (q.n j) c:=fun j hj=>ug;have L:∀ j,j<6→∃ A c,Q j = .slice A (r.n j) c:=fun j hj=>Rg;obtain⟨A0,c0,s0⟩:=O 0 Uf;obtain⟨B0,d0,t0⟩:=L 0 Uf;obtain⟨A1,c1,s1⟩:=O 1 Uf;obtain⟨B1,d1,t1⟩:=L 1 Uf;obtain⟨A2,c2,s2⟩:=O 2 Uf;obtain⟨B2,d2,t2⟩:=L 2 Uf;obtain⟨A3,c3,s3⟩:=O 3 Uf;obtain⟨B3,d3,t3⟩:=L 3 Uf;obtain⟨A4,c4,s4⟩:=O 4 Uf;obtain⟨B4,d4,t4⟩:=L 4 Uf;obtain⟨A5,c5,s5⟩:=O 5 Uf;obtain⟨B5,d5,t5⟩:=L 5 Uf;rw[s0,s1,s2,s3,s4,s5,t0,t1,t2,t3,t4,t5];rw[s0,t0]at H0;rw[s1,t1]at H1;rw[s2,t2]at H2;rw[s3,t3]at H3;rw[s4,t4]at H4;rw[s5,t5]at H5;have HX:=kaa (kJ w (.slice A0 (q.n 0) c0) (.slice A1 (q.n 1) c1) (.slice A2 (q.n 2) c2) (.slice A3 (q.n 3) c3) (.slice A4 (q.n 4) c4) (.slice A5 (q.n 5) c5) (.slice B0 (r.n 0) d0) (.slice B1 (r.n 1) d1) (.slice B2 (r.n 2) d2) (.slice B3 (r.n 3) d3) (.slice B4 (r.n 4) d4) (.slice B5 (r.n 5) d5) (.func (.func 65) #[] #[]) 27 101);have HZ:Hid (Below w.heap.size w (((w.alloc (.cells #[.slice A0 (q.n 0) c0,.slice A1 (q.n 1) c1,.slice A2 (q.n 2) c2,.slice A3 (q.n 3) c3,.slice A4 (q.n 4) c4,.slice A5 (q.n 5) c5] 27)).alloc (.cells #[.slice B0 (r.n 0) d0,.slice B1 (r.n 1) d1,.slice B2 (r.n 2) d2,.slice B3 (r.n 3) d3,.slice B4 (r.n 4) d4,.slice B5 (r.n 5) d5] 27)).alloc (.cells #[.func (.func 65) #[] #[]] 101))):=ii (ii (al _ _) _) _;have HW:Hid (∀ u,Below (((w.alloc (.cells #[.slice A0 (q.n 0) c0,.slice A1 (q.n 1) c1,.slice A2 (q.n 2) c2,.slice A3 (q.n 3) c3,.slice A4 (q.n 4) c4,.slice A5 (q.n 5) c5] 27)).alloc (.cells #[.slice B0 (r.n 0) d0,.slice B1 (r.n 1) d1,.slice B2 (r.n 2) d2,.slice B3 (r.n 3) d3,.slice B4 (r.n 4) d4,.slice B5 (r.n 5) d5] 27)).alloc (.cells #[.func (.func 65) #[] #[]] 101)).heap.size (((w.alloc (.cells #[.slice A0 (q.n 0) c0,.slice A1 (q.n 1) c1,.slice A2 (q.n 2) c2,.slice A3 (q.n 3) c3,.slice A4 (q.n 4) c4,.slice A5 (q.n 5) c5] 27)).alloc (.cells #[.slice B0 (r.n 0) d0,.slice B1 (r.n 1) d1,.slice B2 (r.n 2) d2,.slice B3 (r.n 3) d3,.slice B4 (r.n 4) d4,.slice B5 (r.n 5) d5] 27)).alloc (.cells #[.func (.func 65) #[] #[]] 101)) u→Below w.heap.size w u):=fun u hu=>HZ.out.trans (hu.mono HZ.out.size);rw[HR.out];clear HR hq hr hv hu M J O L s0 s1 s2 s3 s4 s5 t0 t1 t2 t3 t4 t5;generalize Yh _ q.lines _=b1 at H0 ⊢;generalize Yh _ q.vols _=b2 at H1 ⊢;generalize Yh _ q.locks _=b3 at H2 ⊢;generalize Yh _ q.thrs _=b4 at H3 ⊢;generalize Yh _ q.rcv _=b5 at H4 ⊢;generalize Yh _ q.clms _=b6 at H5 ⊢;rcases six b1 b2 b3 b4 b5 b6 with rfl|⟨rfl,rfl⟩|⟨rfl,rfl,rfl⟩|⟨rfl,rfl,rfl,rfl⟩|⟨rfl,rfl,rfl,rfl,rfl⟩|⟨rfl,rfl,rfl,rfl,rfl,rfl⟩|⟨rfl,rfl,rfl,rfl,rfl,rfl⟩;all_goals
  have E:=kaa (Gaa (((w.alloc (.cells #[.slice A0 (q.n 0) c0,.slice A1 (q.n 1) c1,.slice A2 (q.n 2) c2,.slice A3 (q.n 3) c3,.slice A4 (q.n 4) c4,.slice A5 (q.n 5) c5] 27)).alloc (.cells #[.slice B0 (r.n 0) d0,.slice B1 (r.n 1) d1,.slice B2 (r.n 2) d2,.slice B3 (r.n 3) d3,.slice B4 (r.n 4) d4,.slice B5 (r.n 5) d5] 27)).alloc (.cells #[.func (.func 65) #[] #[]] 101)).heap.size (((w.alloc (.cells #[.slice A0 (q.n 0) c0,.slice A1 (q.n 1) c1,.slice A2 (q.n 2) c2,.slice A3 (q.n 3) c3,.slice A4 (q.n 4) c4,.slice A5 (q.n 5) c5] 27)).alloc (.cells #[.slice B0 (r.n 0) d0,.slice B1 (r.n 1) d1,.slice B2 (r.n 2) d2,.slice B3 (r.n 3) d3,.slice B4 (r.n 4) d4,.slice B5 (r.n 5) d5] 27)).alloc (.cells #[.func (.func 65) #[] #[]] 101)));have af:=(HX.out _ E.out).2.2.2.2.2.2.2.2.2.2.2.2;have ad:=kaa af;go_enter Tryz.func20,Tryz.ntmps20;go_wp2_with (first
   |(go_at_call 73;(with_reducible refine(H0.out _ (HW.out _ E.out) ad.out).mono ?_);rintro e w2 ⟨rfl,I⟩;have G:=kaa (E.out.trans (I.mono E.out.size));clear E;have E:=G;clear G;obtain⟨y0,y1,y2,y3,y4,y5,z0,z1,z2,z3,z4,z5,zf⟩:=HX.out _ E.out)
   |(go_at_call 67;(with_reducible refine(H1.out _ (HW.out _ E.out)).mono ?_);rintro e w2 ⟨rfl,I⟩;have G:=kaa (E.out.trans (I.mono E.out.size));clear E;have E:=G;clear G;obtain⟨y0,y1,y2,y3,y4,y5,z0,z1,z2,z3,z4,z5,zf⟩:=HX.out _ E.out)
   |(go_at_call 67;(with_reducible refine(H2.out _ (HW.out _ E.out)).mono ?_);rintro e w2 ⟨rfl,I⟩;have G:=kaa (E.out.trans (I.mono E.out.size));clear E;have E:=G;clear G;obtain⟨y0,y1,y2,y3,y4,y5,z0,z1,z2,z3,z4,z5,zf⟩:=HX.out _ E.out)
   |(go_at_call 74;(with_reducible refine(H3.out _ (HW.out _ E.out)).mono ?_);rintro e w2 ⟨rfl,I⟩;have G:=kaa (E.out.trans (I.mono E.out.size));clear E;have E:=G;clear G;obtain⟨y0,y1,y2,y3,y4,y5,z0,z1,z2,z3,z4,z5,zf⟩:=HX.out _ E.out)
   |(go_at_call 74;(with_reducible refine(H4.out _ (HW.out _ E.out)).mono ?_);rintro e w2 ⟨rfl,I⟩;have G:=kaa (E.out.trans (I.mono E.out.size));clear E;have E:=G;clear G;obtain⟨y0,y1,y2,y3,y4,y5,z0,z1,z2,z3,z4,z5,zf⟩:=HX.out _ E.out)
   |(go_at_call 75;(with_reducible refine(H5.out _ (HW.out _ E.out)).mono ?_);rintro e w2 ⟨rfl,I⟩;have G:=kaa (E.out.trans (I.mono E.out.size));clear E;have E:=G;clear G;obtain⟨y0,y1,y2,y3,y4,y5,z0,z1,z2,z3,z4,z5,zf⟩:=HX.out _ E.out)
   |fail)
  go_ret;exact⟨rfl,HW.out _ E.out⟩
end Go.Proofs.YtjcihcncljihoaaGreatDoor

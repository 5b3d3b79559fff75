/- Chapter 05 (programs), joined: PgbC, PgpK, PgbD. -/
import Derived.Test.YtjcihcncljihoaaGreatDoorPb24
set_option maxRecDepth 100000
set_option maxHeartbeats 16000000
namespace Go.Proofs.YtjcihcncljihoaaGreatDoor
open Go Go.RowKit
set_option linter.unusedVariables false
open _root_.Array renaming getElem?_eq_some_iff→zca
open Go.Lib renaming hid→kaa
open Go.RowKit.Below renaming refl→Gaa
open Go.World renaming cell?→sea,cell?_of_block→Gca,ownsRow_nil→Lca,setCell→eca,size_alloc→gba,size_drew→uea
open Kv renaming cells→Cda
open List renaming cons_append→Kaa,flatMap_cons→baa,getElem_mem→dba,length→tea,length_append→xaa,length_map→Oca,map_append→Zaa,map_map→oda,mem_append→vca,mem_singleton→ida,take_length→qea,take_succ_eq_append_getElem→Caa
open Nat renaming add_zero→Ada,le_refl→aaa,le_succ→sba,le_trans→yba,lt_irrefl→rea,lt_of_lt_of_le→mba,zero_le→laa
open Sv renaming cells→Hca,cells_len→Ica
open Tv renaming cells→Dda
open Xh renaming cells→Kca
open bi renaming below→aca
theorem Sf{P:Prop}(h:P:=by exact .inr (by omega)):P:=h
theorem Wf{P:Prop}(h:P:=by repeat (first|with_reducible exact k4|with_reducible exact k3|with_reducible exact k2|with_reducible exact k1|with_reducible exact al _ _|with_reducible exact Below.refl _ _|with_reducible refine ii ?_ _|with_reducible refine dm ?_|((with_reducible refine kl ?_ ?_ _);rotate_left;(first|with_reducible exact k4.size|with_reducible exact k3.size|with_reducible exact k2.size|with_reducible exact k1.size|exact Nat.le_refl _)))):P:=h
theorem Zf{P:Prop}(h:P:=by have q1:=hb4.size;have r1:=hb1.size;have r2:=hb2.size;have r3:=hb3.size;(try simp only[World.size_alloc,World.size_drew]at q1);(try simp only[World.size_alloc,World.size_drew]at r1);(try simp only[World.size_alloc,World.size_drew]at r2);(try simp only[World.size_alloc,World.size_drew]at r3);omega):P:=h
theorem fg{P:Prop}(h:P:=by have q1:=hb3.size;have r1:=hb1.size;have r2:=hb2.size;(try simp only[World.size_alloc,World.size_drew]at q1);(try simp only[World.size_alloc,World.size_drew]at r1);(try simp only[World.size_alloc,World.size_drew]at r2);omega):P:=h
theorem vg{P:Prop}(h:P:=by have q1:=hb2.size;have r1:=hb1.size;(try simp only[World.size_alloc,World.size_drew]at q1);(try simp only[World.size_alloc,World.size_drew]at r1);omega):P:=h
theorem wg{P:Prop}(h:P:=by cases hx):P:=h
theorem rh{P:Prop}(h:P:=by simp<;>omega):P:=h
structure pL (n B:Nat) (w:World) (v:Value) (l:List Tv):Prop where
 own:w.ownsRow B 41 4 v l.length (l.flatMap Dda)
 deep:∀ x∈l,Ok (fun k=>v.ownBlock=some k∨k < n) w (fun u=>Fx u x)
section
variable {n B : Nat} {w w' : World} {v v' : Value} {l : List Tv}
theorem pL.below(h:pL n B w v l)(A:Below w.heap.size w w'):pL n B w' v l:=⟨Ih h.own A,fun x E=>(h.deep x E).below A⟩
theorem pL.app(h:pL n B w v l)(x:Tv)(I:Ok (fun k=>v.ownBlock=some k∨k<n) w (fun u=>Fx u x))(E:w'.ownsRow B 41 4 v' (l.length+1) (l.flatMap Dda++x.cells))(H:w.grownBy w' v.ownBlock)(A:v'.ownBlock=v.ownBlock∨v'.ownBlock=some w.heap.size):pL n B w' v' (l++[x]):=by
 refine⟨by rw[xaa,List.flatMap_append];simpa using E,fun y G=>?_⟩;rcases vca.1 G with G|G;·exact(h.deep y G).app2 H A
 ·rw[ida.1 G];exact I.app2 H A
end
structure QF (n B:Nat) (w:World) (v:Value) (pl dn:List Sv):Prop where
 own:w.ownsRow B 44 9 v pl.length ((dn++pl.drop dn.length).flatMap Hca)
 le:dn.length≤pl.length
 eq:dn.map (·.s)=(pl.take dn.length).map (fun x=>Zh x.s)
 nods:∀ x∈dn,Ok (fun k=>v.ownBlock=some k∨k < n) w (fun u=>Wh u x.ev x.s.e∧Wh u x.fv x.s.f)
theorem kx(x:Sv)(b:List Sv)(e f:Value)(s:St)(E:s=Zh x.s):∀ (a:List Sv),((((a++x::b).flatMap Hca).set (a.length*9+8) (.int .i64 0)).set (a.length*9+3) e).set (a.length*9+4) f=(a++⟨s,e,f⟩::b).flatMap Hca
 | []=>by subst E;rfl
 |y::a=>by
  have h:=kx x b e f s E a;have e1:∀ (A:List Value) (k:Nat) (u:Value),(y.cells++A).set ((a.length+1)*9+k) u=y.cells++A.set (a.length*9+k) u:=fun A k u=>by rw[List.set_append,if_neg (by rw[Ica];omega),Ica,show(a.length+1)*9+k - 9=a.length*9+k by omega]
  rw[Kaa,Kaa,baa,baa,← h,List.length_cons,e1,e1,e1]
theorem QF.at_{n B g c:Nat}{w:World}{pl dn:List Sv}(h:QF n B w (.slice (some ⟨g,0,none⟩) pl.length c) pl dn)(J:dn.length<pl.length):w.cell? ⟨g,dn.length*9+3,none⟩=some pl[dn.length].ev∧w.cell? ⟨g,dn.length*9+4,none⟩=some pl[dn.length].fv∧(∃ u,w.cell? ⟨g,dn.length*9+8,none⟩=some u):=by
 have L:(dn++pl.drop dn.length).length=pl.length:=by rw[xaa,List.length_drop];omega
 have G:dn.length<(dn++pl.drop dn.length).length:=by omega
 have I:(dn++pl.drop dn.length)[dn.length]'G=pl[dn.length]:=by rw[List.getElem_append_right (aaa _)];simp
 have H:=fun k E=>(ei Hca 9 Ica (dn++pl.drop dn.length) dn.length k G E).trans (by rw[I]);have A:=fun k (E:k<9)=>(h.own.cellAt (dn.length*9+k) Tf).trans (H k E);exact⟨A 3 Uf,A 4 Uf,_,A 8 Uf⟩
theorem Ok.set3{S:Nat→Prop}{w:World}{Q:World→Prop}{g a b c:Nat}{x y z:Value}(h:Ok S w Q)(A:S g):Ok S (((w.setCell ⟨g,a,none⟩ x).setCell ⟨g,b,none⟩ y).setCell ⟨g,c,none⟩ z) Q :=
 ((h.setCell ⟨g,a,none⟩ A x).setCell ⟨g,b,none⟩ A y).setCell ⟨g,c,none⟩ A z
theorem QF.put{n B g c:Nat}{w:World}{pl dn:List Sv}(h:QF n B w (.slice (some ⟨g,0,none⟩) pl.length c) pl dn)(H:dn.length<pl.length){e f:Value}(J:Ok (fun k=>(Value.slice (some ⟨g,0,none⟩) pl.length c).ownBlock=some k∨k<n) w (fun u=>Wh u e (pl[dn.length].s.e.map qi)∧Wh u f (pl[dn.length].s.f.map qi))):QF n B (((w.setCell ⟨g,dn.length*9+8,none⟩ (.int .i64 0)).setCell ⟨g,dn.length*9+3,none⟩ e).setCell ⟨g,dn.length*9+4,none⟩ f) (.slice (some ⟨g,0,none⟩) pl.length c) pl (dn++[⟨Zh pl[dn.length].s,e,f⟩]):=by
 have E:=Ns (Ns (Ns h.own rfl (dn.length*9+8) Tf (.int .i64 0)) rfl (dn.length*9+3) Tf e) rfl (dn.length*9+4) Tf f;rw[List.drop_eq_getElem_cons H,kx _ _ e f _ rfl]at E;have G:=fun {Q:World→Prop} (I:Ok (fun k=>(Value.slice (some ⟨g,0,none⟩) pl.length c).ownBlock=some k∨k<n) w Q)=>I.set3 (g:=g) (a:=dn.length*9+8) (b:=dn.length*9+3) (c:=dn.length*9+4) (x:=.int .i64 0) (y:=e) (z:=f) (Or.inl rfl);refine⟨by simpa[List.append_assoc]using E,by simp;omega,?_,fun x A=>?_⟩;·rw[xaa,List.length_singleton,Caa H,Zaa,Zaa,h.eq];rfl
 ·rcases vca.1 A with hm|hm;·exact G (h.nods x hm)
  ·rw[ida.1 hm];exact G J
theorem QF.below{n B:Nat}{w w':World}{v:Value}{pl dn:List Sv}(h:QF n B w v pl dn)(A:Below w.heap.size w w'):QF n B w' v pl dn:=⟨Ih h.own A,h.le,h.eq,fun x E=>(h.nods x E).below A⟩
theorem QF.fin{n B:Nat}{w:World}{v:Value}{pl dn:List Sv}(h:QF n B w v pl dn)(A:dn.length=pl.length):dn.map (·.s)=(pl.map (·.s)).map Zh∧w.ownsRow B 44 9 v dn.length (dn.flatMap Hca):=by
 refine⟨?_,?_⟩;·rw[h.eq,A,qea,oda];rfl
 ·have:=h.own;rw[List.drop_eq_nil_of_le Tf,List.append_nil]at this;rw[A];exact this
theorem QF.off{n B:Nat}{w:World}{v:Value}{pl dn:List Sv}(h:QF n B w v pl dn)(G:dn.length=pl.length)(J:n≤B):Ok (fun k=>k<n) w (fun u=>Kp u v dn):=by have A:=(h.fin G).2;have E:=Gm (S:=fun k=>k<n) A (fun k H (e:k<n)=>by have:=(A.lt k H).1;omega);intro w' a b;exact⟨E w' a b,fun x I=>((h.nods x I).mono (S':=fun k=>k<n) (fun k _ e=>.inr e)) w' a b⟩
theorem zy{S:Nat→Prop}{w:World}{B c:Nat}{A:Option Addr}{l:List Kh}(h:w.ownsRow B 46 4 (.slice A l.length c) l.length ((l.map qi).flatMap Kh.cells))(E:∀ k,B≤k→¬ S k):Ok S w (fun u=>Wh u (.slice A l.length c) (l.map qi)):=by have:=Gm (S:=S) h (fun k G=>E k (h.lt k G).1);intro w' a b;show bi w' _ 4 (l.map qi).length _;rw[Oca];exact this w' a b
theorem KL(l:List (List UInt8)):∀ u∈l.flatMap Mh,u.oneCell'=true:=by exact Ld
theorem aO{w:World}{v:Value}{l:List Sv}(h:Kp w v l):∀ u∈l.flatMap Hca,u.oneCell'=true:=by intro u I;obtain⟨x,A,E⟩:=List.mem_flatMap.1 I;obtain⟨⟨_,J,c1,G,_⟩,⟨_,L,c2,H,_⟩⟩:=h.2 x A;simp only[Hca,List.mem_cons,List.not_mem_nil,or_false]at E;rcases E with rfl|rfl|rfl|rfl|rfl|rfl|rfl|rfl|rfl<;>first|rfl|(rw[G];rfl)|(rw[H];rfl)
theorem Br(l:List Tv)(hl:l.length≤100000)(hB:∀ x∈l,Gx x)(v:Value)(w:World)(hv:bi w v 4 l.length (l.flatMap Dda))(hd:∀ x∈l,Fx w x):Calls Tryz.prog 39 #[v] w fun e w'=>∃ A c l',e = .returned (.slice A l'.length c)∧l'.map Tv.t=l.map (fun x=>kj x.t)∧pL w.heap.size w.heap.size w' (.slice A l'.length c) l'∧Below w.heap.size w w':=by
 obtain⟨i0,cT,cX,cY,cZ⟩:=info_parts Gv;have HV:=kaa hv;have HD:=kaa hd;have b4:=kaa hB;obtain⟨_,A0,c0,rfl,_,_⟩:=id hv;clear hv hd hB;go_enter Tryz.func39,Tryz.ntmps39;go_wp2_with fail;go_loopw [3,10] (fun o k wr=>∃ (j:Nat) (A:Option Addr) (c:Nat) (l':List Tv),j≤l.length∧k = .int .i64 j∧o = .slice A j c∧Hid (l'.length=j)∧Hid (l'.map Tv.t=(l.take j).map (fun x=>kj x.t))∧pL w.heap.size w.heap.size wr (.slice A j c) l'∧Below w.heap.size w wr) (fun _ k _=>l.length - (intOf k).toNat);case atStart=>exact⟨0,none,0,[],laa _,rfl,rfl,rfl,rfl,⟨Lca _ _ _ _,fun x hx=>by cases hx⟩,Gaa _ _⟩
 case round =>
  obtain⟨j,A1,c1,l',hj,rfl,rfl,HL,HM,Q,hb⟩:=hrel;have HO:=kaa Q;have HB:=kaa hb;clear Q;by_cases av:j<l.length
  ·obtain⟨b,off,c,cc,Q,aV⟩:=Ki (f:=Dda) (fun _=>rfl) HV.out Tf;cases cc;have hm:=dba av;have x0:=aV wr hb j av 0 _ rfl;have x1:=aV wr hb j av 1 _ rfl;have x2:=aV wr hb j av 2 _ rfl;have x3:=aV wr hb j av 3 _ rfl;simp only[Ada]at x0;have aX:=kaa (b4.out _ hm);have af:=kaa (HD.out _ hm);have bF:Hid ((l.take (j+1)).map (fun x=>kj x.t)=(l.take j).map (fun x=>kj x.t)++[kj (l[j]).t]):=by show _=_;rw[Caa av,Zaa];rfl
   have db:(j:Int)<(l.length:Int):=by omega
   clear aV hm Q hb;generalize l[j]=x at x0 x1 x2 x3 aX af bF;have cW:=af.out;obtain⟨O,xr,I,xb,E,xq⟩:=x;obtain⟨⟨_,A2,c2,h2,_,_⟩,⟨⟨_,A3,c3,h3,_,_⟩,_⟩⟩:=cW;simp only at h2 h3;subst h2 h3;simp only at x0 x1 x2 x3;have bE:Hid (E.length≤100000):=aX.out.bl;have b9:Hid (I.length≤100000):=aX.out.rl;have G:Hid (Below w.heap.size w (wr.alloc (.cells #[.string (vh O),.slice A2 I.length c2,.slice A3 E.length c3,.int .i64 xq] 41))):=bt HB.out (al _ _);have a5:=kaa (HO.out.below (al wr (.cells #[.string (vh O),.slice A2 I.length c2,.slice A3 E.length c3,.int .i64 xq] 41)));have aY:Hid (∀ u,Below (wr.heap.size+1) (wr.alloc (.cells #[.string (vh O),.slice A2 I.length c2,.slice A3 E.length c3,.int .i64 xq] 41)) u→u.cell? ⟨wr.heap.size,0,none⟩=some (.string (vh O))∧u.cell? ⟨wr.heap.size,1,none⟩=some (.slice A2 I.length c2)∧u.cell? ⟨wr.heap.size,2,none⟩=some (.slice A3 E.length c3)):=fun u hu=>by have:=bp wr ⟨O,.slice A2 I.length c2,I,.slice A3 E.length c3,E,xq⟩ 41 u (by simpa using hu);exact⟨this.1,this.2.1,this.2.2.1⟩
   go_upto_region 5 with fail;have aZ:Hid ((wr.alloc (.cells #[.string (vh O),.slice A2 I.length c2,.slice A3 E.length c3,.int .i64 xq] 41)).heap.size=wr.heap.size+1):=by show _=_;simp
   generalize wr.heap.size=q at aY aZ ⊢;generalize World.alloc wr _=Y at G a5 aY aZ ⊢;have b5:=kaa (NK _ _ _ Y (af.out.2.below G.out).1 (yba bE.out Uf) (aO af.out.2));obtain⟨t0,t1,t2⟩:=aY.out Y (by rw[← aZ.out];exact Gaa _ _);go_wp2_with (go_at_call 101;(with_reducible refine b5.out.mono ?_);rintro e w2 ⟨A4,c4,rfl,J,bT⟩;have b8:=kaa J;have b3:=kaa bT;clear J bT);go_loopw [19] (fun k wi=>∃ (i:Nat) (dn:List Sv),i≤E.length∧k = .int .i64 i∧Hid (dn.length=i)∧QF Y.heap.size Y.heap.size wi (.slice A4 E.length c4) E dn∧Below Y.heap.size Y wi) (fun k _=>E.length - (intOf k).toNat);case atStart=>exact⟨0,[],laa _,rfl,rfl,⟨b8.out,laa _,rfl,fun x hx=>by cases hx⟩,b3.out⟩
   case round =>
    obtain⟨i,dn,hi,rfl,a4,bV,M⟩:=hrel;have ad:=kaa bV;have bs:=kaa M;have dg:=bE.out;clear bV;by_cases a9:i<E.length
    ·have da:(i:Int)<(E.length:Int):=by omega
     have J:=ad.out.own;rcases J.2 with⟨h,h2⟩|⟨g,dd,cur,h,hg,hh,_,_,cv,bY⟩;·exact absurd h2 Tf
     ·cases h;have HG:=kaa hg;have b7:Hid (g<wr.heap.size):=(J.lt g rfl).2;have bN:Hid (Y.heap.size≤wr.heap.size):=M.size;have HF:=kaa (fun(u:World) (hu:Below wr.heap.size wr u) (k:Nat)=>((ad.out.below hu).own.frozenAt k));have HC:Hid (∀ u,Below wr.heap.size wr u→u.cell? ⟨g,i*9+3,none⟩=some (E[i]).ev∧u.cell? ⟨g,i*9+4,none⟩=some (E[i]).fv∧∃ y,u.cell? ⟨g,i*9+8,none⟩=some y):=fun u hu=>by have hd:=a4.out;subst hd;exact(ad.out.below hu).at_ a9
      have bb:=dba a9;have bf:=af.out.2.2 _ bb;have bk:=aX.out.bd _ bb;have a8:Below w.heap.size w wr:=G.out.trans (M.mono G.out.size);have a2:=kaa (fun(u:World) (hu:Below wr.heap.size wr u)=>sq (E[i]).s.e bk.e (E[i]).ev u (aca bf.1 (bt a8 hu)));have a3:=kaa (fun(u:World) (hu:Below wr.heap.size wr u)=>sq (E[i]).s.f bk.f (E[i]).fv u (aca bf.2 (bt a8 hu)));have aU:Hid (∀ u e f,Below wr.heap.size wr u→Ok (fun k=>(Value.slice (some ⟨g,0,none⟩) E.length c4).ownBlock=some k∨k<Y.heap.size) u (fun u=>Wh u e ((E[i]).s.e.map qi)∧Wh u f ((E[i]).s.f.map qi))→∃ a0,Hid (a0.length=i+1)∧QF Y.heap.size Y.heap.size (((u.setCell ⟨g,i*9+8,none⟩ (.int .i64 0)).setCell ⟨g,i*9+3,none⟩ e).setCell ⟨g,i*9+4,none⟩ f) (.slice (some ⟨g,0,none⟩) E.length c4) E a0):=fun u e f hu ho=>by have hd:=a4.out;subst hd;exact⟨_,by show _=_;rw[xaa];rfl,(ad.out.below hu).put a9 ho⟩
      obtain⟨⟨_,A5,c5,h5,_,_⟩,⟨_,A6,c6,h6,_,_⟩⟩:=bf;obtain⟨y3,y4,y8,q8⟩:=HC.out wr (Gaa _ _);have f3:=HF.out wr (Gaa _ _) (i*9+3);have f4:=HF.out wr (Gaa _ _) (i*9+4);have f8:=HF.out wr (Gaa _ _) (i*9+8);clear J hg hh cv bY M bb bk a8;generalize E[i]=z at HC a2 a3 aU h5 h6 y3 y4;obtain⟨zs,ze,zf⟩:=z;simp only at h5 h6;subst h5 h6;simp only at HC a2 a3 aU y3 y4;have HQ:=dm (Gaa wr.heap.size wr);go_upto_region 9 with fail;go_region_law (first
       |(go_simp;go_at_call 40;(with_reducible refine(a2.out _ HQ).mono ?_);rintro e w5 ⟨Z,c7,rfl,L,aW⟩;have H:=bt HQ aW;obtain⟨p3,p4,p8,r8⟩:=HC.out _ H)
       |(go_simp;go_at_call 40;(with_reducible refine(a3.out _ H).mono ?_);rintro e w6 ⟨A8,c8,rfl,bg,bU⟩;have ao:=bt H bU;obtain⟨dA,dB,dD,dP⟩:=HC.out _ ao;have g3:=HF.out _ ao (i*9+3);have g4:=HF.out _ ao (i*9+4);have g8:=HF.out _ ao (i*9+8))
       |fail)
      all_goals
       have bR:∀ k,wr.drew.heap.size≤k→¬ ((Value.slice (some ⟨g,0,none⟩) E.length c4).ownBlock=some k∨k<Y.heap.size):=fun k hk h=>by
        have h1:wr.heap.size≤k:=hk;have h2:=b7.out;have h3:=bN.out;rcases h with h|h;·have h:some g=some k:=h;injection h with h;omega
        ·omega
       obtain⟨a0,cx,bW⟩:=aU.out w6 (.slice Z zs.e.length c7) (.slice A8 zs.f.length c8) ao (((zy L bR).below bU).and (zy bg (fun k hk=>bR k (yba aW.size hk))));have ct:=(((bs.out.trans (ao.mono bN.out)).setCell (p:=⟨g,i*9+8,none⟩) HG.out (.int .i64 0)).setCell (p:=⟨g,i*9+3,none⟩) HG.out (.slice Z zs.e.length c7)).setCell (p:=⟨g,i*9+4,none⟩) HG.out (.slice A8 zs.f.length c8);go_wp2_with fail;go_roundw;case rel=>exact⟨i+1,a0,by omega,by go_num,cx,bW,ct⟩
       case measure=>simp[intOf];omega
    ·obtain rfl:i=E.length:=by omega
     have a6:Hid (Y.heap.size≤wr.heap.size):=M.size;have bI:=kaa (fun(u:World) (hu:Below Y.heap.size Y u)=>aY.out u (by rw[← aZ.out];exact hu));obtain⟨t0,t1,t2⟩:=bI.out wr M;have cb:Hid (Below w.heap.size w wr):=G.out.trans (M.mono G.out.size);have b6:=kaa (PK _ _ _ wr.drew (aca af.out.1 (dm cb.out)) (yba b9.out Uf) (KL I));have a7:=a5.out.own;rw[HL.out]at a7;have aT:=kaa a7;have bL:Hid (j+1≤maxLen∧(j+1)*72≤140737488355328):=by show _∧_;unfold maxLen;constructor<;>omega
     clear a7 M;go_upto_region 11 with fail;go_region_law (first
      |(go_simp;go_at_call 102;(with_reducible refine b6.out.mono ?_);rintro e w5 ⟨Z,c7,rfl,L,aW⟩;have H:=bs.out.trans ((dm (Gaa wr.heap.size wr)).mono a6.out |>.trans (aW.mono a6.out));have b2:=Ih aT.out H;obtain⟨dT,dU,dV⟩:=bI.out w5 H)
      |((refine Fl jg _ _ 24 jg w.heap.size 41 i0 _ 4 72 Tryz.underlying24 cT cX cY cZ rfl Uf (.slice A1 j c1) j (l'.flatMap Dda) jg (Ih b2 (al w5 _)) (.slice (some ⟨w5.heap.size,0,none⟩) 1 1) 1 [.string (vh O),.slice Z I.length c7,.slice A4 E.length c4,.int .i64 0] jg (bD w5 O _ _ 0) Cg bL.out.1 bL.out.2 (yba (yba G.out.size H.size) (al w5 _).size) ?_;intro A9 c9 w9 bh bZ bS))
      |fail)
     all_goals
      have hd:=a4.out;have hn:wr.heap.size≤wr.drew.heap.size:=aaa _;have b1:∀ k,(Value.slice A1 j c1).ownBlock=some k→k<Y.heap.size:=fun k hk=>(aT.out.lt k hk).2;have a1:∀ k,((Value.slice A1 j c1).ownBlock=some k∨k<w.heap.size)→k<Y.heap.size:=fun k hk=>hk.elim (b1 k) (fun h=>mba h G.out.size);have b0:Ok (fun k=>(Value.slice A1 j c1).ownBlock=some k∨k<w.heap.size) (w5.alloc (.cells #[.string (vh O),.slice Z I.length c7,.slice A4 E.length c4,.int .i64 0] 41)) (fun u=>Fx u ⟨O,.slice Z I.length c7,I,.slice A4 E.length c4,dn,0⟩):=by have e1:=(Gm (S:=fun k=>(Value.slice A1 j c1).ownBlock=some k∨k<w.heap.size) L (fun k hk h=>by have h1:=(L.lt k hk).1;have h2:=a1 k h;have:=a6.out;omega)).below (al w5 (.cells #[.string (vh O),.slice Z I.length c7,.slice A4 E.length c4,.int .i64 0] 41));have e2:=((((ad.out.off hd (aaa _)).drew.below aW).below (al w5 (.cells #[.string (vh O),.slice Z I.length c7,.slice A4 E.length c4,.int .i64 0] 41))).mono (S':=fun k=>(Value.slice A1 j c1).ownBlock=some k∨k<w.heap.size) (fun k _ hk=>a1 k hk));exact e1.and e2
      have ch:Below w.heap.size w w9:=((G.out.trans ((H.trans ((al w5 (.cells #[.string (vh O),.slice Z I.length c7,.slice A4 E.length c4,.int .i64 0] 41)).mono H.size)).mono G.out.size))).grown bZ (yba (yba G.out.size H.size) (al w5 _).size) (fun k hk=>(aT.out.lt k hk).1);have bX:=((a5.out.below H).below (al w5 (.cells #[.string (vh O),.slice Z I.length c7,.slice A4 E.length c4,.int .i64 0] 41))).app ⟨O,.slice Z I.length c7,I,.slice A4 E.length c4,dn,0⟩ b0 (by rw[HL.out];exact bh) bZ bS;have cU:(l'++[(⟨O,.slice Z I.length c7,I,.slice A4 E.length c4,dn,0⟩:Tv)]).length=j+1:=by rw[xaa,HL.out];rfl
      have cV:(l'++[(⟨O,.slice Z I.length c7,I,.slice A4 E.length c4,dn,0⟩:Tv)]).map Tv.t=(l.take (j+1)).map (fun x=>kj x.t):=by rw[Zaa,HM.out,bF.out];have:=(ad.out.fin hd).1;simp only[List.map_cons,List.map_nil,Tv.t,kj,this]
      go_wp2_with fail;go_roundw;case rel=>exact⟨j+1,A9,c9,_,by omega,by go_num,rfl,cU,cV,bX,ch⟩
      case measure=>simp[intOf];omega
  ·obtain rfl:j=l.length:=by omega
   have hm:=HM.out;rw[qea]at hm;have Q:=HO.out;have hl:=HL.out;go_wp2_with fail;go_ret;rw[← hl]at Q;exact⟨A1,c1,l',by rw[hl];rfl,hm,Q,HB.out⟩
theorem Bq:∀ j,Xr.n j=0∧Xr.cs j=[]
 |0=>⟨rfl,rfl⟩|1=>⟨rfl,rfl⟩|2=>⟨rfl,rfl⟩|3=>⟨rfl,rfl⟩|4=>⟨rfl,rfl⟩|(n+5)=>⟨rfl,rfl⟩
theorem KC{B g:Nat}{w:World}(I:g<w.heap.size):wj B (fun k=>k=g) w (fun _=>.slice none 0 0) Xr :=
 ⟨fun k G=>⟨by have H:k=g:=G;omega,fun j E e=>by cases e⟩,fun j E=>by rw[(Bq j).1,(Bq j).2];exact Lca _ _ _ _,fun j k _ _ _ b A=>(by cases A),fun u _ _=>⟨fun x hx=>wg,fun x hx=>wg,fun x hx=>wg,fun x hx=>wg⟩⟩
def DN(w:World)(rb:Nat):Prop:=∀ j u,w.cell? ⟨rb,j,none⟩=some u→∃ a m d,u = .slice a m d
theorem qs{w w':World}{rb size n:Nat}{v:Value}{J:List Value}(h:bi w v size n J)(hr:DN w rb)(M:0<n→∃ u,J[0]? = some u∧∀ a m d,u≠.slice a m d)(hs:w.heap.size≤w'.heap.size)(hk:∀ k,k<w.heap.size→k≠rb→w'.heap[k]? = w.heap[k]?):bi w' v size n J:=by
 obtain⟨hl,A,c,hv,Q,Y⟩:=h;refine⟨hl,A,c,hv,Q,fun L=>?_⟩;obtain⟨b,off,O,G,E⟩:=Y L;have H:b≠rb:=fun e=>by obtain⟨u,hu,I⟩:=M L;have:=E 0 u hu;rw[e]at this;obtain⟨a,m,d,h⟩:=hr _ _ this;exact I a m d h
 exact⟨b,off,O,mba G hs,fun j u Z=>(Gca (a:=⟨b,off+j,none⟩) (hk b G H)).trans (E j u Z)⟩
theorem DQ{α:Type}{f:α→List Value}{l:List α}(A:∀ x,∃ u r,f x=u::r∧∀ a m d,u≠Value.slice a m d)(h:0<l.length):∃ u,(l.flatMap f)[0]? = some u∧∀ a m d,u≠Value.slice a m d:=by
 cases l with
 |nil=>exact absurd h (rea 0)
 |cons x r =>
  obtain⟨u,H,G,E⟩:=A x
  exact⟨u,by rw[baa,G];rfl,E⟩
theorem Deep.apart{w w':World}{rb:Nat}{q:qj}(h:Deep w q)(hr:DN w rb)(G:w.heap.size≤w'.heap.size)(E:∀ k,k<w.heap.size→k≠rb→w'.heap[k]? = w.heap[k]?):Deep w' q:=by have I:∀ {v l},Aq w v l→Aq w' v l:=fun h=>qs h hr (DQ fun x=>⟨_,_,rfl,fun _ _ _ h=>by cases h⟩) G E;have H:∀ {v l},Wh w v l→Wh w' v l:=fun h=>qs h hr (DQ fun x=>⟨_,_,rfl,fun _ _ _ h=>by cases h⟩) G E;have ht:∀ {x:Tv},Fx w x→Fx w' x:=fun h=>⟨qs h.1 hr (DQ fun x=>⟨_,_,rfl,fun _ _ _ h=>by cases h⟩) G E,qs h.2.1 hr (DQ fun x=>⟨_,_,rfl,fun _ _ _ h=>by cases h⟩) G E,fun x A=>⟨H (h.2.2 x A).1,H (h.2.2 x A).2⟩⟩;exact⟨fun x A=>I (h.lines x A),fun x A=>ht (h.thrs x A),fun x A=>ht (h.rcv x A),fun x A=>H (h.clms x A)⟩
theorem wj.apart_prm{B rb:Nat}{S:Nat→Prop}{w w':World}{o:Nat→Value}{q:qj}(h:wj B S w o q)(hB:rb<B)(hr:DN w rb)(H:w.heap.size≤w'.heap.size)(G:∀ k,k<w.heap.size→k≠rb→w'.heap[k]? = w.heap[k]?):Lp w' o q :=
 ⟨fun j A=>Ti (xl (h.row j A) (fun b E=>G b ((h.row j A).lt b E).2 (by have:=((h.row j A).lt b E).1;omega))),h.deep.now.apart hr H G⟩
def Gn(w:World)(rb:Nat)(o:Nat→Value):World:=(((((w.setCell ⟨rb,0,none⟩ (o 0)).setCell ⟨rb,1,none⟩ (o 1)).setCell ⟨rb,2,none⟩ (o 2)).setCell ⟨rb,3,none⟩ (o 3)).setCell ⟨rb,4,none⟩ (o 4)).setCell ⟨rb,5,none⟩ (o 5)
theorem Dq{w:World}{rb:Nat}{o:Nat→Value}{y:Nat→Value}(A:∀ j,j<6→w.cell? ⟨rb,j,none⟩=some (y j))(E:∀ j,w.frozen? ⟨rb,j,none⟩=false) :
 (Gn w rb o).cell? ⟨rb,0,none⟩=some (o 0)∧(Gn w rb o).cell? ⟨rb,1,none⟩=some (o 1)∧(Gn w rb o).cell? ⟨rb,2,none⟩=some (o 2)∧(Gn w rb o).cell? ⟨rb,3,none⟩=some (o 3)∧(Gn w rb o).cell? ⟨rb,4,none⟩=some (o 4)∧(Gn w rb o).cell? ⟨rb,5,none⟩=some (o 5) :=
 ⟨(wh (wh (wh (wh (wh (ui (A 0 Uf) (E 0)) Uf) Uf) Uf) Uf) Uf),(wh (wh (wh (wh (ui (wh (A 1 Uf) Uf) ((di E) 1)) Uf) Uf) Uf) Uf),(wh (wh (wh (ui (wh (wh (A 2 Uf) Uf) Uf) ((di (di E)) 2)) Uf) Uf) Uf),(wh (wh (ui (wh (wh (wh (A 3 Uf) Uf) Uf) Uf) ((di (di (di E))) 3)) Uf) Uf),(wh (ui (wh (wh (wh (wh (A 4 Uf) Uf) Uf) Uf) Uf) ((di (di (di (di E)))) 4)) Uf),(ui (wh (wh (wh (wh (wh (A 5 Uf) Uf) Uf) Uf) Uf) Uf) ((di (di (di (di (di E))))) 5))⟩
theorem It{w:World}{rb j k:Nat}{y:Value}(A:k≠rb):(w.setCell ⟨rb,j,none⟩ y).heap[k]? = w.heap[k]?:=Below.heap_setCell _ _ _ _ A
theorem XO{w:World}{a:Addr}{y:Value}:(w.setCell a y).heap.size=w.heap.size:=by simp[eca]
theorem RI(w:World)(rb:Nat)(o:Nat→Value):w.heap.size≤(Gn w rb o).heap.size∧∀ k,k≠rb→(Gn w rb o).heap[k]? = w.heap[k]?:=by
 unfold Gn;refine⟨?_,fun k A=>?_⟩;·rw[XO,XO,XO,XO,XO,XO];exact aaa _
 ·rw[It A,It A,It A,It A,It A,It A]
theorem Uv{w u:World}{rb:Nat}{o:Nat→Value}(h:Below rb w u):Below rb w (Gn u rb o):=by unfold Gn;exact(((((h.setCell (aaa _) _).setCell (aaa _) _).setCell (aaa _) _).setCell (aaa _) _).setCell (aaa _) _).setCell (aaa _) _
structure oI (u:World) (rb:Nat):Prop where
 cells:∀ j,j < 6→u.cell? ⟨rb,j,none⟩=some (.slice none 0 0)
 fr:∀ j,u.frozen? ⟨rb,j,none⟩=false
 all:DN u rb
theorem oI.new(w:World)(T:TypeId):oI (w.alloc (.cells #[.slice none 0 0,.slice none 0 0,.slice none 0 0,.slice none 0 0,.slice none 0 0,.slice none 0 0] T)) w.heap.size :=
 ⟨fun j E=>(match j,E with|0,_=>by simp[go_sem]|1,_=>by simp[go_sem]|2,_=>by simp[go_sem]|3,_=>by simp[go_sem]|4,_=>by simp[go_sem]|5,_=>by simp[go_sem]),fun j=>by simp[go_sem],
  fun j u A=>(match j,A with
   |0,A=>by simp[go_sem]at A;exact⟨_,_,_,A.symm⟩
   |1,A=>by simp[go_sem]at A;exact⟨_,_,_,A.symm⟩
   |2,A=>by simp[go_sem]at A;exact⟨_,_,_,A.symm⟩
   |3,A=>by simp[go_sem]at A;exact⟨_,_,_,A.symm⟩
   |4,A=>by simp[go_sem]at A;exact⟨_,_,_,A.symm⟩
   |5,A=>by simp[go_sem]at A;exact⟨_,_,_,A.symm⟩
   |n+6,A=>by simp[go_sem]at A)⟩
theorem oI.blk{w u:World}{rb:Nat}(h:oI w rb)(A:u.heap[rb]? = w.heap[rb]?):oI u rb :=
 ⟨fun j E=>(Gca (a:=⟨rb,j,none⟩) A).trans (h.cells j E),fun j=>(World.frozen?_of_block (a:=⟨rb,j,none⟩) A).trans (h.fr j),fun j v G=>h.all j v ((Gca (a:=⟨rb,j,none⟩) A).symm.trans G)⟩
theorem pP{R:lk × Int × Int}{l:List xh}{g i:Nat}{v:Value}{w E X:World}{o:Nat→Value}{q:qj}(h:RP l g v E X i 0 0 o q)(H:Below w.heap.size w X)(J:w.heap.size<g)(hr:oI X w.heap.size)(G:R=(q.p,0,0)):Pn R w (.returned (.tuple #[.agg #[o 0,o 1,o 2,o 3,o 4,o 5],.int .i64 0,.int .i64 0])) (Gn X w.heap.size o):=by subst G;have A:=RI X w.heap.size o;exact⟨o,q,rfl,rfl,h.rows.apart_prm (by have:=h.lt;omega) hr.all A.1 (fun k _ I=>A.2 k I),Uv H⟩
theorem Sx(w:World):Lp w (fun _=>.slice none 0 0) Xr :=
 ⟨fun j A=>by rw[(Bq j).1,(Bq j).2];exact⟨by simp,none,0,rfl,aaa _,fun h=>absurd h (rea 0)⟩,⟨fun x hx=>wg,fun x hx=>wg,fun x hx=>wg,fun x hx=>wg⟩⟩
theorem Dz{R:lk × Int × Int}{w X:World}{e p:Int}(E:Below w.heap.size w X)(A:R=(fj,e,p)):Pn R w (.returned (.tuple #[.agg #[.slice none 0 0,.slice none 0 0,.slice none 0 0,.slice none 0 0,.slice none 0 0,.slice none 0 0],.int .i64 e,.int .i64 p])) (Gn X w.heap.size (fun _=>.slice none 0 0)):=by subst A;exact⟨fun _=>.slice none 0 0,Xr,rfl,rfl,Sx _,Uv E⟩
theorem Pn.drew{R:lk × Int × Int}{w Y:World}{r:Ending}(h:Pn R w r Y):Pn R w r Y.drew:=by obtain⟨o,q,A,E,G,H⟩:=h;exact⟨o,q,A,E,G.below (dm (Gaa _ _)),dm H⟩
theorem Ez{s:List UInt8}{l:List xh}{p0:Int}(A:Li s=(l,0,p0)):Aj s=match Di l 6 0 fj 0 with
  | .inr (e,p)=>(fj,e,p)
  | .inl (P,i)=>if i<l.length then (fj,(cj l i 5).1,(cj l i 5).2)else (P,0,0):=by
 unfold Aj eB
 rw[A]
 simp only[if_true]
 cases Di l 6 0 fj 0 with
 |inr e=>rfl
 |inl q =>
  obtain⟨P,i⟩:=q
  by_cases h:i<l.length
  ·simp only[if_pos h]
  ·simp only[if_neg h]
theorem Zt{s:List UInt8}{l:List xh}{A p0:Int}(E:Li s=(l,A,p0))(G:¬ A=0):Aj s=(fj,A,p0):=by unfold Aj;rw[E];exact if_neg G
def cA(n rb g:Nat):Nat→Prop:=fun k=>k<n∨k=rb∨k=g
structure lL (n rb g:Nat) (w:World) (o:Nat→Value) (q:qj):Prop where
 rows:wj n (cA n rb g) w o q
 cells:w.heap[g]? = some (.cells #[o 0,o 1,o 2,o 3,o 4,o 5] 27 (0,0))
 rg:rb≠g
 ng:n≤g
def cq(A E G H:Value):Nat→Value
 |1=>A|2=>E|3=>G|4=>H|_=>.slice none 0 0
def cB(a b:List Xh)(c d:List Tv):qj:=⟨[],a,b,c,d,[]⟩
def FQ(v:Value)(a b:Nat):Prop:=∀ k,v.ownBlock=some k→a≤k∧k<b
theorem kl{B g j:Nat}{a w:World}(h:Below B a w)(A:B≤g)(u:Value):Below B a (w.setCell ⟨g,j,none⟩ u):=h.setCell (p:=⟨g,j,none⟩) A u
theorem eo{W u:World}(A:Below W.heap.size W u):(∀ b o,b<W.heap.size→u.cell? ⟨b,o,none⟩=W.cell? ⟨b,o,none⟩)∧(∀ b o,b<W.heap.size→u.frozen? ⟨b,o,none⟩=W.frozen? ⟨b,o,none⟩) :=
 ⟨fun b o h=>A.cell (p:=⟨b,o,none⟩) h,fun b o h=>A.frozen (p:=⟨b,o,none⟩) h⟩
theorem Ms{w:World}{B g:Nat}{e T:TypeId}{size m:Nat}{v:Value}{J:List Value}{cs:Array Value}{G:Nat × Nat}(h:w.ownsRow B e size v m J)(I:w.heap[g]? = some (.cells cs T G))(H:T≠e):v.ownBlock≠some g:=by
 rcases h.2 with⟨rfl,_⟩|⟨b,cap,cur,rfl,_,A,_⟩;·simp[Value.ownBlock]
 ·intro E;have E:some b=some g:=E;injection E with E;subst E;rw[I]at A;injection A with A;injection A with _ A _;exact H A
theorem GH{n rb g Z b1 a2 b2 a3 b3 a4 b4:Nat}{w:World}{G H I J:Value}{la lb:List Xh}{lc ld:List Tv}(h1:w.ownsRow n 48 3 G la.length (la.flatMap Kca))(h2:w.ownsRow n 48 3 H lb.length (lb.flatMap Kca))(h3:w.ownsRow n 41 4 I lc.length (lc.flatMap Dda))(h4:w.ownsRow n 41 4 J ld.length (ld.flatMap Dda))(i1:FQ G Z b1)(i2:FQ H a2 b2)(i3:FQ I a3 b3)(i4:FQ J a4 b4)(aV:b1≤a2)(aW:b2≤a3)(aX:b3≤a4)(hr:rb<Z){cs:Array Value}{fz:Nat × Nat}(O:w.heap[g]? = some (.cells cs 27 fz))(hn:n≤Z)(av:Z≤b1)(aT:a2≤b2)(aU:a3≤b3)(ao:rb<w.heap.size)(d3:∀ x∈lc,Ok (fun k=>k<n∨k=rb∨k=g∨G.ownBlock=some k∨H.ownBlock=some k∨I.ownBlock=some k∨J.ownBlock=some k) w (fun u=>Fx u x))(d4:∀ x∈ld,Ok (fun k=>k<n∨k=rb∨k=g∨G.ownBlock=some k∨H.ownBlock=some k∨I.ownBlock=some k∨J.ownBlock=some k) w (fun u=>Fx u x))(al:n≤w.heap.size):wj n (cA n rb g) w (cq G H I J) (cB la lb lc ld):=by
 have Q:∀ k,k<w.heap.size→Vm (cA n rb g) (cq G H I J) k→(k<n∨k=rb∨k=g∨G.ownBlock=some k∨H.ownBlock=some k∨I.ownBlock=some k∨J.ownBlock=some k):=by
  rintro k _ (h|⟨j,L,h⟩)
  ·rcases h with h|h|h;·exact .inl h
   ·exact .inr (.inl h)
   ·exact .inr (.inr (.inl h))
  ·match j,L,h with
   |0,_,h=>cases h
   |1,_,h=>exact .inr (.inr (.inr (.inl h)))
   |2,_,h=>exact .inr (.inr (.inr (.inr (.inl h))))
   |3,_,h=>exact .inr (.inr (.inr (.inr (.inr (.inl h)))))
   |4,_,h=>exact .inr (.inr (.inr (.inr (.inr (.inr h)))))
   |5,_,h=>cases h
 have af:∀ j,j<6→∀ k,(cq G H I J j).ownBlock=some k→n≤k∧k≠rb∧k≠g:=by
  intro j L k h
  match j,L,h with
  |0,_,h=>cases h
  |1,_,h=>have:=i1 k h;exact⟨by omega,by omega,fun e=>Ms h1 O Uf (e▸h)⟩
  |2,_,h=>have:=i2 k h;exact⟨by omega,by omega,fun e=>Ms h2 O Uf (e▸h)⟩
  |3,_,h=>have:=i3 k h;exact⟨by omega,by omega,fun e=>Ms h3 O Uf (e▸h)⟩
  |4,_,h=>have:=i4 k h;exact⟨by omega,by omega,fun e=>Ms h4 O Uf (e▸h)⟩
  |5,_,h=>cases h
 have M:∀ j k,j<k→k<6→∀ b,(cq G H I J j).ownBlock=some b→(cq G H I J k).ownBlock≠some b:=by
  intro j k ad hk b E A
  match j,k,ad,hk,E,A with
  |0,_,_,_,E,_=>cases E
  |1,2,_,_,E,A=>have:=i1 b E;have:=i2 b A;omega
  |1,3,_,_,E,A=>have:=i1 b E;have:=i3 b A;omega
  |1,4,_,_,E,A=>have:=i1 b E;have:=i4 b A;omega
  |1,5,_,_,E,A=>cases A
  |2,3,_,_,E,A=>have:=i2 b E;have:=i3 b A;omega
  |2,4,_,_,E,A=>have:=i2 b E;have:=i4 b A;omega
  |2,5,_,_,E,A=>cases A
  |3,4,_,_,E,A=>have:=i3 b E;have:=i4 b A;omega
  |3,5,_,_,E,A=>cases A
  |4,5,_,_,E,A=>cases A
 refine⟨fun k hS=>⟨?_,fun j L h=>?_⟩,fun j L=>?_,fun j k L hk Y b E=>?_,fun u s e=>⟨fun x hx=>wg,fun x hx=>?_,fun x hx=>?_,fun x hx=>wg⟩⟩;·have:=(zca.1 O).1;rcases hS with h|h|h<;>omega
 ·have:=af j L k h;rcases hS with h|h|h<;>omega
 ·match j,L with
  |0,_=>exact Lca _ _ _ _
  |1,_=>exact h1
  |2,_=>exact h2
  |3,_=>exact h3
  |4,_=>exact h4
  |5,_=>exact Lca _ _ _ _
 ·rcases Nat.lt_or_gt_of_ne Y with h|h;·exact M j k h hk b E
  ·exact fun e=>M k j h L b e E
 ·exact((d3 x hx).mono Q) u s e
 ·exact((d4 x hx).mono Q) u s e
theorem lL.below{n rb g:Nat}{w w':World}{o:Nat→Value}{q:qj}(h:lL n rb g w o q)(A:Below w.heap.size w w'):lL n rb g w' o q :=
 ⟨h.rows.below A,(A.block g (zca.1 h.cells).1).trans h.cells,h.rg,h.ng⟩
theorem dp{w:World}{g i:Nat}{cs:Array Value}{T:TypeId}(h:w.heap[g]? = some (.cells cs T (0,0)))(u:Value):(w.setCell ⟨g,i,none⟩ u).heap[g]? = some (.cells (cs.setIfInBounds i u) T (0,0)):=by simp[eca,Array.getElem?_modify,h]
theorem lL.push{n rb g j:Nat}{w w':World}{o:Nat→Value}{q q':qj}{v':Value}(h:lL n rb g w o q)(H:j<6)(A:w'.ownsRow n (CK j) (lI j) v' (q'.n j) (q'.cs j))(I:w.grownBy w' (o j).ownBlock)(E:v'.ownBlock=(o j).ownBlock∨v'.ownBlock=some w.heap.size)(hq:∀ k,k<6→k≠j→q'.n k=q.n k∧q'.cs k=q.cs k)(L:Ok (Vm (cA n rb g) o) w (fun u=>Deep u q')):lL n rb g (w'.setCell ⟨g,j,none⟩ v') (fp o j v') q':=by
 have J:=(h.rows.push H A I E hq L).set (g:=g) (.inr (.inr rfl)) j v'
 have G:w'.heap[g]? = some (.cells #[o 0,o 1,o 2,o 3,o 4,o 5] 27 (0,0)):=(I.block g (zca.1 h.cells).1 (fun e=>(h.rows.sB g (.inr (.inr rfl))).2 j H e.symm)).trans h.cells
 refine⟨J,(dp G v').trans ?_,h.rg,h.ng⟩
 match j,H with
 |0,_=>rfl
 |1,_=>rfl
 |2,_=>rfl
 |3,_=>rfl
 |4,_=>rfl
 |5,_=>rfl
theorem wv{n rb g:Nat}{U:World}{E G H I:Value}{q:qj}{z:Value}(h:wj n (cA n rb g) U (cq E G H I) q)(J:U.heap[g]? = some (.cells #[z,z,z,z,z,z] 27 (0,0)))(rg:rb≠g)(ng:n≤g) :
 lL n rb g ((((((U.setCell ⟨g,0,none⟩ (.slice none 0 0)).setCell ⟨g,1,none⟩ E).setCell ⟨g,2,none⟩ G).setCell ⟨g,3,none⟩ H).setCell ⟨g,4,none⟩ I).setCell ⟨g,5,none⟩ (.slice none 0 0)) (cq E G H I) q :=
 have A:cA n rb g g:=.inr (.inr rfl)
 ⟨((((((h.set A 0 _).set A 1 _).set A 2 _).set A 3 _).set A 4 _).set A 5 _),dp (dp (dp (dp (dp (dp J _) _) _) _) _) _,rg,ng⟩
theorem vq{n rb g:Nat}{J w1 O I G E H M U:World}{V1 V2 V3 V4:Value}{la lb:List Xh}{n1 n2:Nat}{l3 l4:List Tv}(ad:n1=la.length)(af:n2=lb.length)(Y:w1.ownsRow J.heap.size 48 3 V1 n1 (la.flatMap Kca))(Z:I.ownsRow O.heap.size 48 3 V2 n2 (lb.flatMap Kca))(o3:pL G.heap.size G.heap.size E V3 l3)(o4:pL H.heap.size H.heap.size M V4 l4)(b1:Below J.heap.size J w1)(j1:Below w1.heap.size w1 O)(b2:Below O.heap.size O I)(j2:Below I.heap.size I G)(b3:Below G.heap.size G E)(j3:Below E.heap.size E H)(b4:Below H.heap.size H M)(L:Below M.heap.size M U)(hr:rb<J.heap.size)(hn:n≤J.heap.size){cs:Array Value}{fz:Nat × Nat}(hg:U.heap[g]? = some (.cells cs 27 fz))(g2:g<G.heap.size∨E.heap.size≤g)(g3:g<H.heap.size∨M.heap.size≤g):wj n (cA n rb g) U (cq V1 V2 V3 V4) (cB la lb l3 l4):=by
 subst ad af;have s1:=b1.size;have s2:=b2.size;have s3:=b3.size;have s4:=b4.size;have t1:=j1.size;have t2:=j2.size;have t3:=j3.size;have t4:=L.size;have Q:Below E.heap.size E U:=bt j3 (bt b4 L);have e2:Below I.heap.size I U:=bt j2 (bt b3 Q);have e1:Below w1.heap.size w1 U:=bt j1 (bt b2 e2);refine GH (Lo (Ih Y e1) Tf) (Lo (Ih Z e2) Tf) (Lo (Ih o3.own Q) Tf) (Lo (Ih o4.own L) Tf) (fun k A=>Y.lt k A) (fun k A=>Z.lt k A) (fun k A=>o3.own.lt k A) (fun k A=>o4.own.lt k A) t1 t2 t3 hr hg hn s1 s2 s3 Tf (fun x hx=>?_) (fun x hx=>?_) Tf
 ·refine(o3.deep x hx).step Q.size (fun k A _=>Q.block k A) (fun k A h=>?_);rcases h with h|h|h|h|h|h|h;·exact Sf
  ·exact Sf
  ·exact Sf
  ·have:=Y.lt k h;exact .inr Tf
  ·have:=Z.lt k h;exact .inr Tf
  ·exact .inl h
  ·have:=o4.own.lt k h;exact .inr Tf
 ·refine(o4.deep x hx).step L.size (fun k A _=>L.block k A) (fun k A h=>?_);rcases h with h|h|h|h|h|h|h;·exact Sf
  ·exact Sf
  ·exact Sf
  ·have:=Y.lt k h;exact .inr Tf
  ·have:=Z.lt k h;exact .inr Tf
  ·have:=o3.own.lt k h;exact .inr Tf
  ·exact .inl h
theorem lL.at_{n rb g:Nat}{w u:World}{o:Nat→Value}{q:qj}(h:lL n rb g w o q)(G:u.heap[g]? = w.heap[g]?):(∀ j,j<6→u.cell? ⟨g,j,none⟩=some (o j))∧∀ j,u.frozen? ⟨g,j,none⟩=false:=by
 have A:=G.trans h.cells
 refine⟨fun j E=>?_,fun j=>by simp[World.frozen?,A]⟩
 match j,E with
 |0,_=>simp[sea,A]
 |1,_=>simp[sea,A]
 |2,_=>simp[sea,A]
 |3,_=>simp[sea,A]
 |4,_=>simp[sea,A]
 |5,_=>simp[sea,A]
structure JC (V K:List Xh) (T R:List Jt) (ls:List (List Xh)) (cs:List zE) (rb g:Nat) (X:World) (w:World) (o:Nat→Value) (p:qj):Prop where
 br:lL X.heap.size rb g w o p
 ln:p.lines.map (·.2)=ls
 cl:p.clms.map (·.c)=cs
 v:p.vols=V
 k:p.locks=K
 t:p.thrs.map Tv.t=T
 r:p.rcv.map Tv.t=R
 bx:Below X.heap.size X w
abbrev BE(q:qj)(rb g:Nat)(X:World)(j k:Nat)(w:World)(o:Nat→Value)(p:qj):Prop:=JC (q.vols.map xi) (q.locks.map xi) (q.thrs.map (fun x=>kj x.t)) (q.rcv.map (fun x=>kj x.t)) ((q.lines.take j).map (fun x=>x.2.map xi)) ((q.clms.take k).map (fun x=>gm x.c)) rb g X w o p
section
variable {q p : qj} {rb g j k : Nat} {X w w5 w6 : World} {o : Nat → Value} {V K : List Xh} {T R : List Jt} {ls : List (List Xh)} {cs : List zE}
theorem JC.below(h:JC V K T R ls cs rb g X w o p)(A:Below w.heap.size w w5):JC V K T R ls cs rb g X w5 o p:={ h with br:=h.br.below A,bx:=bt h.bx A }
theorem uB{B n m H:Nat}{S:Nat→Prop}{w w5:World}{o:Nat→Value}{q:qj}{V:Value}{T:TypeId}{I:List Value}(hr:wj B S w o q)(G:w5.ownsRow m T H V n I)(hm:w.heap.size≤m):∀ b,V.ownBlock=some b→¬ Vm S o b:=fun b E A=>by
 have J:=(G.lt b E).1;rcases A with h|⟨i,hi,h⟩;·have:=(hr.sB b h).1;omega
 ·have:=((hr.row i hi).lt b h).2;omega
theorem JC.far(h:JC V K T R ls cs rb g X w o p){i:Nat}{v':Value}(hi:i<6)(E:w.grownBy w6 (o i).ownBlock):Below X.heap.size X (w6.setCell ⟨g,i,none⟩ v') :=
 kl (h.bx.grown E h.bx.size (fun b A=>((h.br.rows.row i hi).lt b A).1)) h.br.ng _
theorem BE.len(h:BE q rb g X j k w o p)(G:j≤q.lines.length)(H:k≤q.clms.length):p.lines.length=j∧p.clms.length=k:=by have A:=congrArg tea h.ln;have E:=congrArg tea h.cl;simp only[Oca,List.length_take]at A E;exact⟨by omega,by omega⟩
theorem JC.line(h:JC V K T R ls cs rb g X w o p){v' V':Value}{l:List Xh}{m:Nat}(I:Below w.heap.size w w5)(hm:w.heap.size≤m)(J:w5.ownsRow m 48 3 V' l.length (l.flatMap Kca)){box:Obj}(E:w6.ownsRow X.heap.size 23 1 v' (p.lines.length+1) (p.lines.map (·.1)++[V']))(L:(w5.alloc box).grownBy w6 (o 0).ownBlock)(H:v'.ownBlock=(o 0).ownBlock∨v'.ownBlock=some (w5.alloc box).heap.size):JC V K T R (ls++[l]) cs rb g X (w6.setCell ⟨g,0,none⟩ v') (fp o 0 v') { p with lines:=p.lines++[(V',l)] }:=by
 have G:=(h.below I).below (al w5 box);refine⟨G.br.push Uf (by simpa[qj.n,qj.cs,CK,lI]using E) L H (fun i hi A=>?_) ?_,?_,h.cl,h.v,h.k,h.t,h.r,G.far Uf L⟩
 ·match i,hi,A with
  |0,_,A=>exact absurd rfl A
  |1,_,_=>exact⟨rfl,rfl⟩
  |2,_,_=>exact⟨rfl,rfl⟩
  |3,_,_=>exact⟨rfl,rfl⟩
  |4,_,_=>exact⟨rfl,rfl⟩
  |5,_,_=>exact⟨rfl,rfl⟩
 ·exact((G.br.rows.deep.and (Gm (Ih J (al w5 box)) (uB h.br.rows J hm))).imp (fun u hu=>⟨fun x hx=>zg,hu.1.thrs,hu.1.rcv,hu.1.clms⟩))
 ·rw[Zaa,h.ln];rfl
theorem BE.line(h:BE q rb g X j k w o p)(J:j<q.lines.length){v' V:Value}{l:List Xh}{m:Nat}(L:l=q.lines[j].2)(G:Below w.heap.size w w5)(hm:w.heap.size≤m)(H:w5.ownsRow m 48 3 V l.length ((l.map xi).flatMap Kca)){box:Obj}(A:w6.ownsRow X.heap.size 23 1 v' (p.lines.length+1) (p.lines.map (·.1)++[V]))(I:(w5.alloc box).grownBy w6 (o 0).ownBlock)(E:v'.ownBlock=(o 0).ownBlock∨v'.ownBlock=some (w5.alloc box).heap.size):BE q rb g X (j+1) k (w6.setCell ⟨g,0,none⟩ v') (fp o 0 v') { p with lines:=p.lines++[(V,l.map xi)] }:=by have:=JC.line h (l:=l.map xi) G hm (by rw[Oca];exact H) A I E;unfold BE;rw[Caa J,Zaa];subst L;exact this
theorem JC.clm(h:JC V K T R ls cs rb g X w o p){v' V':Value}{x:zE}(L:Below w.heap.size w w5)(O:Ok (Vm (cA X.heap.size rb g) o) w5 (fun u=>Wh u V' x.e)){box:Obj}(E:w6.ownsRow X.heap.size 50 2 v' (p.clms.length+1) (p.clms.flatMap Cda++[V',.int .i64 x.pos]))(M:(w5.alloc box).grownBy w6 (o 5).ownBlock)(J:v'.ownBlock=(o 5).ownBlock∨v'.ownBlock=some (w5.alloc box).heap.size):JC V K T R ls (cs++[x]) rb g X (w6.setCell ⟨g,5,none⟩ v') (fp o 5 v') { p with clms:=p.clms++[⟨V',x⟩] }:=by
 have I:=(h.below L).below (al w5 box);refine⟨I.br.push Uf (by simpa[qj.n,qj.cs,CK,lI,Cda]using E) M J (fun i hi A=>?_) ?_,h.ln,?_,h.v,h.k,h.t,h.r,I.far Uf M⟩
 ·match i,hi,A with
  |0,_,_=>exact⟨rfl,rfl⟩
  |1,_,_=>exact⟨rfl,rfl⟩
  |2,_,_=>exact⟨rfl,rfl⟩
  |3,_,_=>exact⟨rfl,rfl⟩
  |4,_,_=>exact⟨rfl,rfl⟩
  |5,_,A=>exact absurd rfl A
 ·exact((I.br.rows.deep.and (O.below (al w5 box))).imp (fun u G=>⟨G.1.lines,G.1.thrs,G.1.rcv,fun y H=>(by rcases vca.1 H with H|H;exact G.1.clms y H;rw[ida.1 H];exact G.2)⟩))
 ·rw[Zaa,h.cl];rfl
theorem BE.clm(h:BE q rb g X j k w o p)(J:k<q.clms.length){v' V:Value}{l:List Kh}{m:Nat}(L:l=q.clms[k].c.e)(G:Below w.heap.size w w5)(hm:w.heap.size≤m)(H:w5.ownsRow m 46 4 V l.length ((l.map qi).flatMap Kh.cells)){box:Obj}(A:w6.ownsRow X.heap.size 50 2 v' (p.clms.length+1) (p.clms.flatMap Cda++[V,.int .i64 0]))(I:(w5.alloc box).grownBy w6 (o 5).ownBlock)(E:v'.ownBlock=(o 5).ownBlock∨v'.ownBlock=some (w5.alloc box).heap.size):BE q rb g X j (k+1) (w6.setCell ⟨g,5,none⟩ v') (fp o 5 v') { p with clms:=p.clms++[⟨V,⟨l.map qi,0⟩⟩] }:=by have:=JC.clm h (x:=⟨l.map qi,0⟩) G ((Gm H (uB h.br.rows H hm)).imp (fun u M=>by show bi u V 4 (l.map qi).length _;rw[Oca];exact M)) A I E;unfold BE;rw[Caa J,Zaa];subst L;exact this
theorem BE.fin(h:BE q rb g X q.lines.length q.clms.length w o p):p.p=Ni q.p:=by have A:=h.ln;have E:=h.cl;rw[qea]at A E;unfold qj.p Ni;rw[A,E,h.v,h.k,h.t,h.r];simp[oda,Function.comp_def]
end
theorem wj.weak{B A:Nat}{S S':Nat→Prop}{w:World}{o:Nat→Value}{q:qj}(h:wj B S w o q)(hB:A≤B)(E:∀ k,S' k→S k):wj A S' w o q :=
 ⟨fun k H=>h.sB k (E k H),fun j G=>Lo (h.row j G) hB,h.apart,h.deep.mono (fun k _ e=>e.elim (fun e=>.inl (E k e)) .inr)⟩
theorem JC.six{p:qj}{rb g:Nat}{X w:World}{o:Nat→Value}{V K:List Xh}{T R:List Jt}{ls:List (List Xh)}{cs:List zE}(h:JC V K T R ls cs rb g X w o p){n:Nat}(E:n≤X.heap.size):wj n (iL n) (Gn w rb o) o p:=by have A:cA X.heap.size rb g rb:=.inr (.inl rfl);exact((((((h.br.rows.set A 0 (o 0)).set A 1 (o 1)).set A 2 (o 2)).set A 3 (o 3)).set A 4 (o 4)).set A 5 (o 5)).weak E (fun k e=>.inl (mba e E))
theorem wj.offP{n:Nat}{w:World}{o:Nat→Value}{q:qj}(h:wj n (iL n) w o q):Ok (iL n) w (fun u=>Lp u o q):=h.off (aaa _) (h.deep.mono (fun k _ e=>.inl e))
def JN(w A:World)(q:qj)(p:Value)(wx:World):Prop:=∃ g H M I O J Q L Y E G,p = .pointer (some ⟨g,0,none⟩)∧lL A.heap.size (w.heap.size+1) g wx (cq (.slice H q.vols.length M) (.slice I q.locks.length O) (.slice J (tea E) Q) (.slice L (tea G) Y)) (cB (q.vols.map xi) (q.locks.map xi) E G) ∧
 E.map Tv.t=q.thrs.map (fun x=>kj x.t)∧G.map Tv.t=q.rcv.map (fun x=>kj x.t)∧Below A.heap.size A wx
theorem DJ(o:Nat→Value)(q:qj)(hB:eA q)(w:World)(hv:Lp w o q):Calls Tryz.prog 15 #[.agg #[o 0,o 1,o 2,o 3,o 4,o 5]] w fun e w'=>∃ o' q',e = .returned (.agg #[o' 0,o' 1,o' 2,o' 3,o' 4,o' 5])∧q'.p=Ni q.p∧wj w.heap.size (iL w.heap.size) w' o' q'∧Below w.heap.size w w':=by
 obtain⟨i0,cc,ch,ct,cv⟩:=info_parts Ly;obtain⟨m0,cx,cT,cU,cV⟩:=info_parts oC;have ao:=fun(u:World) (I:Below w.heap.size w u) (j:Nat) (hj:j<6)=>aca (hv.rows j hj) I;have H1:=kaa (fun(u:World) (I:Below w.heap.size w u)=>uq q.vols (hB.n 1 Uf) (o 1) u (ao u I 1 Uf));have H2:=kaa (fun(u:World) (I:Below w.heap.size w u)=>uq q.locks (hB.n 2 Uf) (o 2) u (ao u I 2 Uf));have H3:=kaa (fun(u:World) (I:Below w.heap.size w u)=>Br q.thrs (hB.n 3 Uf) hB.thrs (o 3) u (ao u I 3 Uf) (fun x hx=>(hv.deep.thrs x hx).below I));have H4:=kaa (fun(u:World) (I:Below w.heap.size w u)=>Br q.rcv (hB.n 4 Uf) hB.rcv (o 4) u (ao u I 4 Uf) (fun x hx=>(hv.deep.rcv x hx).below I));have bW:Hid (bi w (o 0) 1 q.lines.length (q.lines.flatMap (fun x:Value × List Xh=>[x.1]))):=by show bi _ _ _ _ _;rw[← List.map_eq_flatMap];exact hv.rows 0 Uf
 have bX:Hid (bi w (o 5) 2 q.clms.length (q.clms.flatMap Cda)):=hv.rows 5 Uf;have HD:=kaa hv.deep;have a6:=kaa hB;have aX:∀ j,j<6→∃ A c,o j = .slice A (q.n j) c:=fun j hj=>ug;obtain⟨A0,c0,s0⟩:=aX 0 Uf;obtain⟨A1,c1,s1⟩:=aX 1 Uf;obtain⟨A2,c2,s2⟩:=aX 2 Uf;obtain⟨A3,c3,s3⟩:=aX 3 Uf;obtain⟨A4,c4,s4⟩:=aX 4 Uf;obtain⟨A5,c5,s5⟩:=aX 5 Uf;have s0:o 0 = .slice A0 q.lines.length c0:=s0;have s5:o 5 = .slice A5 q.clms.length c5:=s5;rw[s0,s1,s2,s3,s4,s5];rw[s1]at H1;rw[s2]at H2;rw[s3]at H3;rw[s4]at H4;rw[s0]at bW;rw[s5]at bX;obtain⟨G,bF⟩:∃ G,Hid (((w.alloc (.cells #[.slice A0 q.lines.length c0,.slice A1 (q.n 1) c1,.slice A2 (q.n 2) c2,.slice A3 (q.n 3) c3,.slice A4 (q.n 4) c4,.slice A5 q.clms.length c5] 27)).alloc (.cells #[.slice none 0 0,.slice none 0 0,.slice none 0 0,.slice none 0 0,.slice none 0 0,.slice none 0 0] 27))=G):=⟨_,rfl⟩;have bU:=Tl w (.slice A0 q.lines.length c0) (.slice A1 (q.n 1) c1) (.slice A2 (q.n 2) c2) (.slice A3 (q.n 3) c3) (.slice A4 (q.n 4) c4) (.slice A5 q.clms.length c5) 27 rfl;have a7:=oI.new (w.alloc (.cells #[.slice A0 q.lines.length c0,.slice A1 (q.n 1) c1,.slice A2 (q.n 2) c2,.slice A3 (q.n 3) c3,.slice A4 (q.n 4) c4,.slice A5 q.clms.length c5] 27)) 27;have a8:=al (w.alloc (.cells #[.slice A0 q.lines.length c0,.slice A1 (q.n 1) c1,.slice A2 (q.n 2) c2,.slice A3 (q.n 3) c3,.slice A4 (q.n 4) c4,.slice A5 q.clms.length c5] 27)) (.cells #[.slice none 0 0,.slice none 0 0,.slice none 0 0,.slice none 0 0,.slice none 0 0,.slice none 0 0] 27);have bb:=al w (.cells #[.slice A0 q.lines.length c0,.slice A1 (q.n 1) c1,.slice A2 (q.n 2) c2,.slice A3 (q.n 3) c3,.slice A4 (q.n 4) c4,.slice A5 q.clms.length c5] 27);have b1:(w.alloc (.cells #[.slice A0 q.lines.length c0,.slice A1 (q.n 1) c1,.slice A2 (q.n 2) c2,.slice A3 (q.n 3) c3,.slice A4 (q.n 4) c4,.slice A5 q.clms.length c5] 27)).heap.size=w.heap.size+1:=by simp
 have a2:Hid (Below w.heap.size w G∧G.heap.size=w.heap.size+2):=by rw[← bF.out];exact⟨bt bb a8,by simp⟩
 rw[bF.out]at a7 a8;rw[b1]at a7;have bh:=kaa (fun(u:World) (I:Below G.heap.size G u)=>bU u (bt a8 I));have b5:=kaa (fun(u:World) (I:Below G.heap.size G u)=>a7.blk (I.block (w.heap.size+1) (by have:=a2.out.2;omega)));clear bU a7 a8 bb b1;clear hB hv ao aX s0 s1 s2 s3 s4 s5;go_enter Tryz.func15,Tryz.ntmps15;go_upto_region 1 with fail;rw[bF.out];have HC:Hid (∀ u,Below G.heap.size G u→u.cell? ⟨w.heap.size,1,none⟩=some (.slice A1 (q.n 1) c1)∧u.cell? ⟨w.heap.size,2,none⟩=some (.slice A2 (q.n 2) c2)∧u.cell? ⟨w.heap.size,3,none⟩=some (.slice A3 (q.n 3) c3)∧u.cell? ⟨w.heap.size,4,none⟩=some (.slice A4 (q.n 4) c4)):=fun u I=>by obtain⟨_,y1,y2,y3,y4,_⟩:=bh.out u I;exact⟨y1,y2,y3,y4⟩
 have HW:Hid (∀ u,Below G.heap.size G u→Below w.heap.size w u):=fun u I=>a2.out.1.trans (I.mono a2.out.1.size);go_cut [3]from 8 to 20 (fun p wx=>JN w G q p wx);case first =>
  go_region_held3 (fun u=>u.cell? ⟨w.heap.size,1,none⟩=some (.slice A1 (q.n 1) c1)∧u.cell? ⟨w.heap.size,2,none⟩=some (.slice A2 (q.n 2) c2)∧u.cell? ⟨w.heap.size,3,none⟩=some (.slice A3 (q.n 3) c3)∧u.cell? ⟨w.heap.size,4,none⟩=some (.slice A4 (q.n 4) c4))
   (exact HC.out _ Wf)
   (first
    |(go_at_call 38;(with_reducible refine(H1.out _ (HW.out _ Wf)).mono ?_);rintro e w1 ⟨B1,d1,rfl,J,hb1⟩;have k1:Below G.heap.size G w1:=bt Wf hb1;obtain⟨cZ,dd⟩:=eo hb1;(try have dD:G.heap.size<w1.heap.size:=(by have q1:=hb1.size;(try simp only[gba,uea]at q1);omega)))
    |(go_at_call 38;(with_reducible refine(H2.out _ (HW.out _ Wf)).mono ?_);rintro e w2 ⟨B2,d2,rfl,L,hb2⟩;have k2:Below G.heap.size G w2:=bt Wf hb2;obtain⟨c9,dg⟩:=eo hb2;(try have dP:G.heap.size<w2.heap.size:=vg);(try have dV:w1.heap.size<w2.heap.size:=vg))
    |(go_at_call 39;(with_reducible refine(H3.out _ (HW.out _ Wf)).mono ?_);rintro e w3 ⟨B3,d3,l3,rfl,ad,M,hb3⟩;have k3:Below G.heap.size G w3:=bt Wf hb3;obtain⟨da,dA⟩:=eo hb3;(try have dT:G.heap.size<w3.heap.size:=fg);(try have dW:w1.heap.size<w3.heap.size:=fg);(try have dY:w2.heap.size<w3.heap.size:=fg))
    |(go_at_call 39;(with_reducible refine(H4.out _ (HW.out _ Wf)).mono ?_);rintro e w4 ⟨B4,d4,l4,rfl,af,O,hb4⟩;have k4:Below G.heap.size G w4:=bt Wf hb4;obtain⟨db,dB⟩:=eo hb4;(try have dU:G.heap.size<w4.heap.size:=Zf);(try have dX:w1.heap.size<w4.heap.size:=Zf);(try have dZ:w2.heap.size<w4.heap.size:=Zf);(try have d6:w3.heap.size<w4.heap.size:=Zf))
    |fail)
  all_goals
   go_wp2_with fail;go_meet;have s0:=a2.out.2;have s1:=hb1.size;have s2:=hb2.size;have s3:=hb3.size;have s4:=hb4.size;(try simp only[gba,uea]at s1);(try simp only[gba]at s2);(try simp only[gba]at s3);(try simp only[gba]at s4);first
    |(have hg:=heap_alloc_new w4 (.cells #[.slice none 0 0,.slice B1 q.vols.length d1,.slice B2 q.locks.length d2,.slice B3 l3.length d3,.slice B4 l4.length d4,.slice none 0 0] 27)
      have hR:=vq (n:=G.heap.size) (rb:=w.heap.size+1) Yf Yf J L M O hb1 (Gaa _ _) hb2 (Gaa _ _) hb3 (Gaa _ _) hb4 (al w4 _) Ng rh hg (.inr s4) (.inr (aaa _))
      exact⟨_,B1,d1,B2,d2,B3,d3,B4,d4,l3,l4,rfl,⟨hR,hg,by omega,by omega⟩,ad,af,ii k4 _⟩)
    |(have hg:=(hb4.block w3.heap.size Yf).trans (heap_alloc_new w3 (.cells #[.slice none 0 0,.slice none 0 0,.slice none 0 0,.slice none 0 0,.slice none 0 0,.slice none 0 0] 27))
      have hR:=vq (n:=G.heap.size) (rb:=w.heap.size+1) Yf Yf J L M O hb1 (Gaa _ _) hb2 (Gaa _ _) hb3 (al _ _) hb4 (Gaa _ _) Ng rh hg (.inr (aaa _)) (.inl Yf)
      exact⟨_,B1,d1,B2,d2,B3,d3,B4,d4,l3,l4,rfl,wv hR hg Tf Tf,ad,af,kl (kl (kl (kl (kl (kl k4 k3.size _) k3.size _) k3.size _) k3.size _) k3.size _) k3.size _⟩)
    |(have hg:=(hb4.block w2.heap.size Tf).trans ((hb3.block w2.heap.size Yf).trans (heap_alloc_new w2 (.cells #[.slice none 0 0,.slice none 0 0,.slice none 0 0,.slice none 0 0,.slice none 0 0,.slice none 0 0] 27)))
      have hR:=vq (n:=G.heap.size) (rb:=w.heap.size+1) Yf Yf J L M O hb1 (Gaa _ _) hb2 (al _ _) hb3 (Gaa _ _) hb4 (Gaa _ _) Ng rh hg (.inl Yf) (.inl Tf)
      exact⟨_,B1,d1,B2,d2,B3,d3,B4,d4,l3,l4,rfl,wv hR hg Tf Tf,ad,af,kl (kl (kl (kl (kl (kl k4 k2.size _) k2.size _) k2.size _) k2.size _) k2.size _) k2.size _⟩)
    |(have hg:=(hb4.block w1.heap.size Tf).trans ((hb3.block w1.heap.size Tf).trans ((hb2.block w1.heap.size Yf).trans (heap_alloc_new w1 (.cells #[.slice none 0 0,.slice none 0 0,.slice none 0 0,.slice none 0 0,.slice none 0 0,.slice none 0 0] 27))))
      have hR:=vq (n:=G.heap.size) (rb:=w.heap.size+1) Yf Yf J L M O hb1 (al _ _) hb2 (Gaa _ _) hb3 (Gaa _ _) hb4 (Gaa _ _) Ng rh hg (.inl Tf) (.inl Tf)
      exact⟨_,B1,d1,B2,d2,B3,d3,B4,d4,l3,l4,rfl,wv hR hg Tf Tf,ad,af,kl (kl (kl (kl (kl (kl k4 k1.size _) k1.size _) k1.size _) k1.size _) k1.size _) k1.size _⟩)
    |(have h0:=heap_alloc_new G (.cells #[.slice none 0 0,.slice none 0 0,.slice none 0 0,.slice none 0 0,.slice none 0 0,.slice none 0 0] 27)
      have hg:=(hb4.block G.heap.size Tf).trans ((hb3.block G.heap.size Tf).trans ((hb2.block G.heap.size Tf).trans ((hb1.block G.heap.size Yf).trans h0)))
      have hR:=vq (n:=G.heap.size) (rb:=w.heap.size+1) Yf Yf J L M O hb1 (Gaa _ _) hb2 (Gaa _ _) hb3 (Gaa _ _) hb4 (Gaa _ _) Ng rh hg (.inl Tf) (.inl Tf)
      exact⟨_,B1,d1,B2,d2,B3,d3,B4,d4,l3,l4,rfl,wv hR hg Tf Tf,ad,af,kl (kl (kl (kl (kl (kl k4 (aaa _) _) (aaa _) _) (aaa _) _) (aaa _) _) (aaa _) _) (aaa _) _⟩)
    |fail
 case rest =>
  obtain⟨g,B1,d1,B2,d2,B3,d3,B4,d4,l3,l4,rfl,bZ,ad,af,bR⟩:=hcut;have bs:Hid (BE q (w.heap.size+1) g G 0 0 _ (cq (.slice B1 q.vols.length d1) (.slice B2 q.locks.length d2) (.slice B3 (tea l3) d3) (.slice B4 (tea l4) d4)) (cB (q.vols.map xi) (q.locks.map xi) l3 l4)):=⟨bZ,rfl,rfl,rfl,rfl,ad,af,bR⟩;have b3:=kaa bR;clear H1 H2 H3 H4 HC bZ ad af bR;generalize cq _ _ _ _=o1 at bs;generalize cB _ _ _ _=q1 at bs;obtain⟨y0,_,_,_,_,y5⟩:=bh.out _ b3.out;go_wp2_with fail;go_loopw [24] (fun k wr=>∃ (j:Nat) (o':Nat→Value) (q':qj),j≤q.lines.length∧k = .int .i64 j∧BE q (w.heap.size+1) g G j 0 wr o' q') (fun k _=>q.lines.length - (intOf k).toNat);case atStart=>exact⟨0,o1,q1,laa _,rfl,bs.out⟩
  case round =>
   obtain⟨j,o',q',hj,rfl,E⟩:=hrel;have a5:=kaa E;by_cases bS:j<q.lines.length
   ·obtain⟨b,off,c,bL,cb,aZ⟩:=Ki (f:=fun x:Value × List Xh=>[x.1]) (fun _=>rfl) bW.out Tf;cases bL;have aY:=kaa (HW.out _ E.bx);have x0:=aZ wr aY.out j bS 0 _ rfl;simp only[Nat.mul_one,Ada]at x0;have hm:=dba bS;have aU:=HD.out.lines _ hm;have bV:=kaa (a6.out.lines _ hm).1;have bf:q.lines.length≤100000:=a6.out.n 0 Uf;have aT:=kaa (fun(u:World) (I:Below wr.heap.size wr u)=>uq (q.lines[j]).2 bV.out (q.lines[j]).1 u (aca aU (bt aY.out I)));have av:=kaa (fun(V:Value) (v':Value) (m:Nat) (w5 w6:World) (box:Obj)=>a5.out.line (w5:=w5) (w6:=w6) (v':=v') (V:=V) (m:=m) (box:=box) bS rfl);obtain⟨D1,e1,hO⟩:=yh (E.br.rows.row 0 Uf);have hn:q'.n 0=j:=(E.len hj (laa _)).1;rw[hn]at hO;have HG:Hid (∀ u:World,u.heap[g]? = wr.heap[g]?→u.cell? ⟨g,0,none⟩=some (.slice D1 j e1)∧∀ i,u.frozen? ⟨g,i,none⟩=false):=fun u I=>by have:=a5.out.br.at_ I;exact⟨(this.1 0 Uf).trans (congrArg some hO),this.2⟩
    have Q:Hid (g<wr.heap.size):=(zca.1 E.br.cells).1;have bk:Hid (some g≠(Value.slice D1 j e1).ownBlock):=by rw[← hO];exact fun e=>(E.br.rows.sB g (.inr (.inr rfl))).2 0 Uf e.symm
    have a1:Hid (∀ u,Below wr.heap.size wr u→u.ownsRow G.heap.size 23 1 (.slice D1 j e1) j (q'.lines.map (·.1))):=fun u I=>by have:=(a5.out.br.rows.below I).row 0 Uf;rw[hO,hn]at this;exact this
    have HT:Hid (j+1≤maxLen∧(j+1)*24≤140737488355328):=by show _∧_;have:q.lines.length≤100000:=bf;unfold maxLen;constructor<;>omega
    have bI:Hid (G.heap.size≤wr.heap.size):=E.bx.size;have bE:Hid (q'.lines.length=j):=hn;have a0:=kaa hO;have cX:(j:Int)<(q.lines.length:Int):=by omega
    obtain⟨g0,gf⟩:=HG.out wr rfl;clear aZ hm E hO hn;generalize q.lines[j]=z at x0 aT av aU bV;obtain⟨zv,zc⟩:=z;obtain⟨_,D2,e2,h2,_,_⟩:=aU;simp only at h2;subst h2;simp only at x0 aT av;have HQ:=dm (Gaa wr.heap.size wr);go_upto_region 5 with fail;go_region_law (first
     |(go_simp;go_at_call 38;(with_reducible refine(aT.out _ HQ).mono ?_);rintro e w5 ⟨A5,c5,rfl,aV,bN⟩;have H:=bt HQ bN;obtain⟨g5,b8⟩:=HG.out w5 (H.block g Q.out);obtain⟨b7,bY⟩:=HG.out (w5.alloc (.cells #[.slice A5 zc.length c5] 23)) ((bt H (al w5 _)).block g Q.out))
     |((refine Fl jg _ _ 22 jg G.heap.size 23 i0 _ 1 24 Tryz.underlying22 cc ch ct cv rfl Uf (.slice D1 j e1) j (q'.lines.map (·.1)) jg (a1.out _ (bt H (al w5 _))) (.slice (some ⟨w5.heap.size,0,none⟩) 1 1) 1 [.slice A5 zc.length c5] jg (zk w5 [.slice A5 zc.length c5] 23 1 1 1 rfl (aaa _)) Cg HT.out.1 HT.out.2 (yba bI.out (bt H (al w5 _)).size) ?_;intro A6 c6 w6 aW a4 a3;obtain⟨g6,b9⟩:=HG.out w6 ((a4.block g (mba Q.out (bt H (al w5 _)).size) bk.out).trans ((bt H (al w5 _)).block g Q.out))))
     |fail)
    all_goals
     have bT:=av.out _ _ _ _ _ _ H HQ.size aV (by rw[bE.out];exact aW) (by rw[a0.out];exact a4) (by rw[a0.out];exact a3);go_wp2_with fail;go_roundw;case rel=>exact⟨j+1,_,_,by omega,by go_num,bT⟩
     case measure=>simp[intOf];omega
   ·obtain rfl:j=q.lines.length:=by omega
    obtain⟨y0,_,_,_,_,y5⟩:=bh.out _ E.bx;clear E;go_wp2_with fail;go_loopw [39] (fun k wr=>∃ (i:Nat) (o':Nat→Value) (q':qj),i≤q.clms.length∧k = .int .i64 i∧BE q (w.heap.size+1) g G q.lines.length i wr o' q') (fun k _=>q.clms.length - (intOf k).toNat);case atStart=>exact⟨0,o',q',laa _,rfl,a5.out⟩
    case round =>
     obtain⟨i,o2,q2,hi,rfl,E⟩:=hrel;have bg:=kaa E;by_cases a9:i<q.clms.length
     ·obtain⟨b,off,c,bL,cb,aZ⟩:=Ki (f:=Cda) (fun _=>rfl) bX.out Tf;cases bL;have aY:=kaa (HW.out _ E.bx);have x0:=aZ wr aY.out i a9 0 _ rfl;have x1:=aZ wr aY.out i a9 1 _ rfl;simp only[Ada]at x0;have hm:=dba a9;have aU:=HD.out.clms _ hm;have b0:=(a6.out.clms _ hm);have bf:q.clms.length≤100000:=a6.out.n 5 Uf;have aT:=kaa (fun(u:World) (I:Below wr.heap.size wr u)=>sq (q.clms[i]).c.e b0.el (q.clms[i]).ev u (aca aU (bt aY.out I)));have av:=kaa (fun(V:Value) (v':Value) (m:Nat) (w5 w6:World) (box:Obj)=>bg.out.clm (w5:=w5) (w6:=w6) (v':=v') (V:=V) (m:=m) (box:=box) a9 rfl);obtain⟨D1,e1,hO⟩:=yh (E.br.rows.row 5 Uf);have hn:q2.n 5=i:=(E.len (aaa _) hi).2;rw[hn]at hO;have HG:Hid (∀ u:World,u.heap[g]? = wr.heap[g]?→u.cell? ⟨g,5,none⟩=some (.slice D1 i e1)∧∀ k,u.frozen? ⟨g,k,none⟩=false):=fun u I=>by have:=bg.out.br.at_ I;exact⟨(this.1 5 Uf).trans (congrArg some hO),this.2⟩
      have Q:Hid (g<wr.heap.size):=(zca.1 E.br.cells).1;have bk:Hid (some g≠(Value.slice D1 i e1).ownBlock):=by rw[← hO];exact fun e=>(E.br.rows.sB g (.inr (.inr rfl))).2 5 Uf e.symm
      have a1:Hid (∀ u,Below wr.heap.size wr u→u.ownsRow G.heap.size 50 2 (.slice D1 i e1) i (q2.clms.flatMap Cda)):=fun u I=>by have:=(bg.out.br.rows.below I).row 5 Uf;rw[hO,hn]at this;exact this
      have HT:Hid (i+1≤maxLen∧(i+1)*32≤140737488355328):=by show _∧_;unfold maxLen;constructor<;>omega
      have bI:Hid (G.heap.size≤wr.heap.size):=E.bx.size;have bE:Hid (q2.clms.length=i):=hn;have a0:=kaa hO;have cW:(i:Int)<(q.clms.length:Int):=by omega
      obtain⟨g0,gf⟩:=HG.out wr rfl;clear aZ hm E hO hn b0;generalize q.clms[i]=z at x0 x1 aT av aU;obtain⟨zv,zc⟩:=z;obtain⟨ze,zp⟩:=zc;obtain⟨_,D2,e2,h2,_,_⟩:=aU;simp only at h2;subst h2;simp only at x0 x1 aT av;have HQ:=bt (al wr (.cells #[.slice D2 ze.length e2,.int .i64 zp] 50)) (dm (Gaa (wr.alloc (.cells #[.slice D2 ze.length e2,.int .i64 zp] 50)).heap.size _));obtain⟨g1,cY⟩:=HG.out (wr.alloc (.cells #[.slice D2 ze.length e2,.int .i64 zp] 50)) ((al wr _).block g Q.out);have t1:(wr.alloc (.cells #[.slice D2 ze.length e2,.int .i64 zp] 50)).cell? ⟨wr.heap.size,0,none⟩=some (.slice D2 ze.length e2):=by simp[go_sem]
      go_upto_region 10 with fail;go_region_law (first
       |(go_simp;go_at_call 40;(with_reducible refine(aT.out _ HQ).mono ?_);rintro e w5 ⟨A5,c5,rfl,aV,bN⟩;have H:=bt HQ bN;obtain⟨g5,b8⟩:=HG.out w5 (H.block g Q.out);obtain⟨b7,bY⟩:=HG.out (w5.alloc (.cells #[.slice A5 ze.length c5,.int .i64 0] 50)) ((bt H (al w5 _)).block g Q.out))
       |((refine Fl jg _ _ 25 jg G.heap.size 50 m0 _ 2 32 Tryz.underlying25 cx cT cU cV rfl Uf (.slice D1 i e1) i (q2.clms.flatMap Cda) jg (a1.out _ (bt H (al w5 _))) (.slice (some ⟨w5.heap.size,0,none⟩) 1 1) 1 [.slice A5 ze.length c5,.int .i64 0] jg (zk w5 [.slice A5 ze.length c5,.int .i64 0] 50 2 1 1 rfl (aaa _)) Cg HT.out.1 HT.out.2 (yba bI.out (bt H (al w5 _)).size) ?_;intro A6 c6 w6 aW a4 a3;obtain⟨g6,b9⟩:=HG.out w6 ((a4.block g (mba Q.out (bt H (al w5 _)).size) bk.out).trans ((bt H (al w5 _)).block g Q.out))))
       |fail)
      all_goals
       have bT:=av.out _ _ _ _ _ _ H HQ.size aV (by rw[bE.out];exact aW) (by rw[a0.out];exact a4) (by rw[a0.out];exact a3);go_wp2_with fail;go_roundw;case rel=>exact⟨i+1,_,_,by omega,by go_num,bT⟩
       case measure=>simp[intOf];omega
     ·obtain rfl:i=q.clms.length:=by omega
      have Z:=kaa (b5.out _ E.bx);obtain⟨gc,gf⟩:=E.br.at_ rfl;have k0:=gc 0 Uf;have k1:=gc 1 Uf;have k2:=gc 2 Uf;have k3:=gc 3 Uf;have k4:=gc 4 Uf;have k5:=gc 5 Uf;have c0:=Z.out.cells 0 Uf;have c1:=Z.out.cells 1 Uf;have c2:=Z.out.cells 2 Uf;have c3:=Z.out.cells 3 Uf;have c4:=Z.out.cells 4 Uf;have c5:=Z.out.cells 5 Uf;have ff:=Z.out.fr;have HZ:=Dq (o:=o2) Z.out.cells Z.out.fr;have HS:=a2.out.2;have HQ:wj w.heap.size (iL w.heap.size) (Gn wr (w.heap.size+1) o2) o2 q2∧Below w.heap.size w (Gn wr (w.heap.size+1) o2):=⟨E.six Tf,by have hb:=HW.out _ E.bx;unfold Gn;exact kl (kl (kl (kl (kl (kl hb (sba _) _) (sba _) _) (sba _) _) (sba _) _) (sba _) _) (sba _) _⟩;have b4:=kaa E.fin;have b6:Hid ((Value.agg #[o2 0,o2 1,o2 2,o2 3,o2 4,o2 5]) = .agg #[o2 0,o2 1,o2 2,o2 3,o2 4,o2 5]):=rfl;obtain⟨B0,d0,s0⟩:=yh (E.br.rows.row 0 Uf);obtain⟨B1,d1,s1⟩:=yh (E.br.rows.row 1 Uf);obtain⟨B2,d2,s2⟩:=yh (E.br.rows.row 2 Uf);obtain⟨B3,d3,s3⟩:=yh (E.br.rows.row 3 Uf);obtain⟨B4,d4,s4⟩:=yh (E.br.rows.row 4 Uf);obtain⟨B5,d5,s5⟩:=yh (E.br.rows.row 5 Uf);have b2:Hid (∀ Y,(wj w.heap.size (iL w.heap.size) Y o2 q2∧Below w.heap.size w Y)→∃ o' q',Ending.returned (.agg #[.slice B0 (q2.n 0) d0,.slice B1 (q2.n 1) d1,.slice B2 (q2.n 2) d2,.slice B3 (q2.n 3) d3,.slice B4 (q2.n 4) d4,.slice B5 (q2.n 5) d5]) = .returned (.agg #[o' 0,o' 1,o' 2,o' 3,o' 4,o' 5])∧q'.p=Ni q.p∧wj w.heap.size (iL w.heap.size) Y o' q'∧Below w.heap.size w Y):=fun Y hY =>
       ⟨o2,q2,by rw[s0,s1,s2,s3,s4,s5],b4.out,hY⟩
      unfold Gn at HZ HQ;simp only[s0,s1,s2,s3,s4,s5]at HZ HQ k0 k1 k2 k3 k4 k5;clear E b6 gc s0 s1 s2 s3 s4 s5;go_wp2_with fail;generalize eca _ _ _=Y at HZ HQ ⊢;obtain⟨z0,z1,z2,z3,z4,z5⟩:=HZ;refine bodyPost_ret (v:=.agg #[.slice B0 (q2.n 0) d0,.slice B1 (q2.n 1) d1,.slice B2 (q2.n 2) d2,.slice B3 (q2.n 3) d3,.slice B4 (q2.n 4) d4,.slice B5 (q2.n 5) d5]) (by simp[results,Tryz.results15,go_sem,z0,z1,z2,z3,z4,z5]) rfl ?_;exact b2.out _ HQ
theorem tM(o:Nat→Value)(q:qj)(hB:eA q)(w:World)(I:Lp w o q) :
 Calls Tryz.prog 15 #[.agg #[o 0,o 1,o 2,o 3,o 4,o 5]] w fun e w'=>∃ o' q',e = .returned (.agg #[o' 0,o' 1,o' 2,o' 3,o' 4,o' 5])∧q'.p=Ni q.p∧Ok (iL w.heap.size) w' (fun u=>Lp u o' q')∧Below w.heap.size w w' :=
 (DJ o q hB w I).mono (fun e w' ⟨o',q',A,E,G,H⟩=>⟨o',q',A,E,G.offP,H⟩)
end Go.Proofs.YtjcihcncljihoaaGreatDoor

/- Chapter 05 (programs), joined: PgsB, PgsC, PgbA, PgbB. -/
import Derived.Test.YtjcihcncljihoaaGreatDoorPb18
import Derived.Test.YtjcihcncljihoaaGreatDoorPb23
set_option maxRecDepth 100000
set_option maxHeartbeats 16000000
namespace Go.Proofs.YtjcihcncljihoaaGreatDoor
open Go Go.RowKit Go.Shelf
set_option linter.unusedVariables false
open Bool renaming and_eq_true→Raa
open Go.Lib renaming BuilderAt→Kda,byteCells→Fda,hid→kaa
open Go.Lib.IsBuilderF renaming of→mea
open List renaming all_eq_true→pda,append_nil→Maa,flatMap_append→Daa,flatMap_nil→pea,length_append→xaa,length_cons→jaa,length_nil→Xaa,length_pos_iff→kca,map_congr_left→oea,map_id→nea,map_map→oda
attribute [local go_sem] Oper.semAt_some
theorem xa{P:Prop}(h:P:=by
 obtain⟨z0,z1,z2,z3⟩:=HX.out _ (Below.refl _ _);go_wp2_with (first
  |(go_at_call 59;(with_reducible refine(HBK.out _ HWA.out).mono ?_);rintro e w2 ⟨rfl,hb2⟩;have HZ2:=Lib.hid ((HZ.out.step (al wr _)).step hb2))
  |(go_at_call 57;(with_reducible refine(Mp w1.heap.size w1.heap.size acc t w2 HZ2.out.bld (by have:=HZ2.out.len;have:=HTL.out;omega) HZ2.out.below.size).mono ?_);rintro e w3 ⟨rfl,hl3,hb3,hk3⟩)
  |fail)
 go_roundw;case rel=>exact⟨j+1,acc++t,by omega,by go_num,by show _=_;rw[HNX.out,← List.append_assoc,← HACC.out],HZ2.out.put hl3 hb3 HTL.out (by omega)⟩
 case measure=>simp[intOf];omega):P:=h
theorem qb{P:Prop}(h:P:=by
 clear hst hown hb hlt hh hcur;go_wp2_with fail;go_roundw;case rel=>exact⟨j+1,by omega,by go_num,HST.out.1,HB.out.grown HST.out.2 (Nat.le_trans HB.out.size (Nat.le_refl _)) (fun k hk=>by cases hk;exact HG.out)⟩
 case measure=>simp[intOf];omega):P:=h
theorem Mc{P:Prop}(h:P:=by rw[HM.out]at hown;clear HO;have HO:=Lib.hid hown;clear hown hb;go_wp2_with fail;go_ret;exact⟨A,c,rfl,HO.out,HB.out⟩):P:=h
theorem Xd{P:Prop}(h:P:=by go_meet;rw[if_neg H0.out,HTT.out];exact HZ.out.put hl3 hb3 HTL.out (by decide)):P:=h
theorem He{P:Prop}(h:P:=by simp only[List.length_append,List.length_cons,List.length_nil];omega):P:=h
theorem dK(S:ByteArray)(w:World):Calls Tryz.prog 128 #[.string S] w fun e w'=>e = .returned (.func (.func 169) #[] #[.pointer (some ⟨w.heap.size,0,none⟩)])∧w'=w.alloc (.cells #[.string S] 9):=by go_enter Tryz.func128,Tryz.ntmps128;go_wp2_with fail;go_ret;exact⟨rfl,rfl⟩
structure VO (n b Bs D:Nat) (w:World) (acc:List UInt8) (W:World):Prop where
 bld:fo n b acc W
 below:Below n w W
 nr:∀ k,Yo Bs D k→NR W k
theorem fo.turn{n b:Nat}{acc:List UInt8}{W W':World}{X:Nat→Prop}(h:fo n b acc W)(ht:wq X W W')(L:¬ X b)(Q:∀ k,X k→NR W k):fo n b acc W':=by
 have hx:∀ p,Kda 92 5 n b p (Fda acc) W→Kda 92 5 n b p (Fda acc) W':=by rintro p ⟨hB,v,E,A,G⟩;refine⟨hB,v,(ht.block b (Array.getElem?_eq_some_iff.1 E).1 L).trans E,xl A (fun k H=>ht.block k (A.lt k H).2 (fun J=>?_)),G⟩;obtain⟨c,I,O⟩:=vB A k H;exact Q k J c I O
 exact Ve
theorem VO.turn{n b Bs D:Nat}{w W W':World}{acc:List UInt8}(h:VO n b Bs D w acc W)(ht:wq (Yo Bs D) W W')(E:∀ k,Yo Bs D k→NR W' k)(J:b<Bs)(A:n≤b)(H:Bs<D)(I:n≤W.heap.size):VO n b Bs D w acc W':=by refine⟨h.bld.turn ht (fun G=>by rcases G with rfl|rfl|rfl<;>omega) h.nr,?_,E⟩;exact h.below.trans ⟨ht.os,ht.tape,ht.output,ht.size,fun k L=>ht.block k Tf (fun e=>by rcases e with rfl|rfl|rfl<;>omega)⟩
theorem VO.more{n b Bs D:Nat}{w W W':World}{acc t:List UInt8}(h:VO n b Bs D w acc W)(J:fo n b (acc++t) W')(L:Below n W W')(O:Cr b W W')(Z:b<Bs)(Y:Bs<D)(Q:D+1<W.heap.size):(∀ k,Yo Bs D k→W'.heap[k]? = W.heap[k]?)∧VO n b Bs D w (acc++t) W':=by
 have I:∀ k,Yo Bs D k→W'.heap[k]? = W.heap[k]?:=fun k A=>by
  have E:k<W.heap.size:=by rcases A with rfl|rfl|rfl<;>omega
  have H:=Array.getElem?_eq_getElem E;rw[H];refine O k _ H (fun e=>?_) (fun c G e=>h.nr k A c G (by rw[H,e]));injection e with e;rcases A with rfl|rfl|rfl<;>omega
 exact⟨I,J,h.below.trans L,fun k A c G e=>h.nr k A c G (by rw[← I k A];exact e)⟩
theorem dx:∀ (s cur:List UInt8),((Sk cur s).flatMap (fun x=>([32,32]:List UInt8)++x)).length≤3*(s.length+cur.length)
 | [],cur=>by
  unfold Sk;split;·simp
  ·rename_i h;have:=kca.2 h;simp;omega
 |c::r,cur=>by
  unfold Sk;split;·have:=dx r [];simp at this ⊢;omega
  ·have:=dx r (cur++[c]);simp at this ⊢;omega
theorem Mz{A:List (List UInt8)}{s:List UInt8}(h:A <+: Kj s):(A.flatMap (fun x=>([32,32]:List UInt8)++x)).length≤3*s.length:=by have E:=dx s [];obtain⟨t,ht⟩:=h;rw[show Sk [] s=Kj s from rfl,← ht,Daa,xaa]at E;simp only[Xaa]at E;omega
theorem dI{n D:Nat}{w W:World}(h:Below n w W)(A:n≤D)(o:Obj):Below n w (W.putObj D o) :=
 h.trans ⟨rfl,rfl,rfl,by simp,fun k E=>World.putObj_heap_other Tf⟩
theorem KF(B b:Nat)(l:List UInt8)(w:World)(h:fo B b l w)(A:B≤w.heap.size) :
 Calls Tryz.prog 61 #[.pointer (some ⟨b,0,none⟩)] w fun e w'=>e = .returned (.string (vh l))∧Below B w w'∧Cr b w w' :=
 (Tryz.Builder_String_any_k B b l w (mea h) A).mono fun e w' h=>⟨h.1,h.2.2⟩
structure At (x:Tv):Prop where
 b:Gx x
 r:x.regs.length≤10000
theorem bz{x:Tv}(O:At x)(A:Xi x.t=true):(yx x.t).length≤400000∧(Wj x.regs).length≤180000:=by
 unfold Xi at A;simp only[Raa,pda]at A;obtain⟨G,H,d,Q,I⟩:=(Uj _).1 A.2;have Y:=nF I H [] (by simp only[Xaa];omega);have J:∀ s∈x.regs,s.length≤16:=fun s L=>by obtain⟨_,_,_,_,E⟩:=Il (A.1.2 s L);exact E
 have E:=Sq (N:=16) x.regs J;have Z:=O.r;have h5:x.t.body.length≤40:=G;have h6:(x.regs.map Gs).map sk=x.regs:=by rw[oda];(conv=>rhs;rw[← nea x.regs]);exact oea fun s _=>by show s++[]=s;simp
 refine⟨?_,by omega⟩;unfold yx;rw[xaa];have h7:(if x.t.regs=[]then []else dl yk (x.t.regs.map Gs)).length≤180010:=by
  split;·simp
  ·show(yk++([32]++(Wj ((x.regs.map Gs).map sk)++[59,10]))).length≤_;rw[h6];simp only[xaa,jaa,Xaa,yk];omega
 omega
theorem jB(H:List UInt8)(hh:H.length≤100)(x:Tv)(ao:Xi x.t=true)(hx:At x)(w:World)(hv:Fx w x)(hE:Xj w):Calls Tryz.prog 59 #[.string (vh H),.agg #[.string (vh x.name),x.rv,x.bv,.int .i64 x.pos]] w fun e w'=>e = .returned (.string (vh (Xo H x.t)))∧Below w.heap.size w w':=by
 obtain⟨a4,a5⟩:=bz hx ao;have a9:=kaa (uF ao);have I:=ao;unfold Xi at I;simp only[Raa,pda]at I;have bF:Jj (x.pl.map (·.s))=true:=I.2;have J:Hid (yx x.t=(if x.regs=[]then []else yk++([32]++(Wj x.regs++[59,10])))++uu (x.pl.map (·.s))):=by
  show _=_;rw[Yx bF];have h6:(x.regs.map Gs).map sk=x.regs:=by rw[oda];(conv=>rhs;rw[← nea x.regs]);exact oea fun s _=>by show s++[]=s;simp
  show(if x.regs=[]then []else yk++([32]++(Wj ((x.regs.map Gs).map sk)++[59,10])))++_=_;rw[h6];rfl
 have HX:=kaa (bp w x 41);have HJ:=kaa (fun(u:World) (hu:Below w.heap.size w u)=>rF x.regs (by have:=hx.r;omega) Tf x.rv u (bi.below hv.1 hu));have HS:=kaa (fun(u:World) (hu:Below w.heap.size w u)=>EN x.pl hx.b.bl hx.b.bd x.bv u (hv.2.below hu) (hE.below hu));obtain⟨s,hs⟩:∃ s,yx x.t=s:=⟨_,rfl⟩;obtain⟨r,hr⟩:∃ r,Fu x.t.regs++Wm [32,32] x.t.body=r:=⟨_,rfl⟩;have av:Hid (Xo H x.t=(H++[32,123,10])++(Kj s).flatMap (fun x=>([32,32]:List UInt8)++x)++[125,10]):=by show _=_;have h1:=a9.out;unfold Px at h1;rw[hs]at h1;unfold Xo El bm;rw[h1];exact Of
 rw[hs]at a4 J;rw[av.out];have bb:Hid (s.length≤400000):=a4;have zs:(uu (x.pl.map (·.s))).length≤400000:=by have:=congrArg List.length J.out;rw[xaa]at this;omega
 obtain⟨xn,xr,Z,xb,xp,xq⟩:=x;obtain⟨⟨_,A2,c2,h2,_,_⟩,⟨⟨_,A3,c3,h3,_,_⟩,_⟩⟩:=hv;simp only at h2 h3;subst h2 h3;simp only at HX HJ HS J a5 zs ⊢;have b2:Hid (Z.length≤10000):=hx.r;clear a9 av ao I bF hx hs hr a4;obtain⟨SH,ad⟩:∃ t,Hid (vh H=t):=⟨_,rfl⟩;have zh:SH.size≤100:=by rw[← ad.out,Dh];exact hh
 have bL:Hid (SH++⟨#[32,123,10]⟩=vh (H++[32,123,10])):=by show _=_;rw[Sh,ad.out];rfl
 obtain⟨SS,L⟩:∃ t,Hid (vh (uu (xp.map (·.s)))=t):=⟨_,rfl⟩;have zz:SS.size≤400000:=by rw[← L.out,Dh];exact zs
 obtain⟨SJ,af⟩:∃ t,Hid (vh (Wj Z)=t):=⟨_,rfl⟩;have zj:SJ.size≤180000:=by rw[← af.out,Dh];exact a5
 have aY:Hid ((if Z=[]then ⟨#[]⟩++SS else ⟨#[114,101,103,32]⟩++SJ++⟨#[59,10]⟩++SS)=vh s):=by
  show _=_;rw[J.out];by_cases Y:Z=[];·rw[if_pos Y,if_pos Y,Sh,L.out];rfl
  ·rw[if_neg Y,if_neg Y,Sh,L.out];congr 1;rw[show yk++([32]++(Wj Z++[59,10]))=[114,101,103,32]++Wj Z++[59,10] by simp[yk],Sh,Sh,af.out];rfl
 have b3:H.length≤100:=hh;have bS:=Mz (List.prefix_refl (Kj s));obtain⟨bI,A⟩:∃ a,Hid ((H++[32,123,10])++(Kj s).flatMap (fun x=>([32,32]:List UInt8)++x)=a):=⟨_,kaa rfl⟩;obtain⟨SA,aX⟩:∃ a,Hid (vh bI=a):=⟨_,rfl⟩;have zA:SA.size≤2000000:=by rw[← aX.out,Dh,← A.out];simp only[xaa,jaa,Xaa];have:=bb.out;omega
 rw[ad.out,A.out,Sh,aX.out];rw[show vh [125,10]=(⟨#[125,10]⟩:ByteArray)from rfl];rw[L.out]at HS;rw[af.out]at HJ;clear J a5 zs hh ad L af bS;have HA:Hid (Below w.heap.size w (w.alloc (.cells #[.string (vh xn),.slice A2 Z.length c2,.slice A3 xp.length c3,.int .i64 xq] 41))):=al _ _;refine(callsIn_wide (n:=4)).1 ?_;refine callsIn_of_wp_marks Tryz.func59 rfl trivial ?_ rfl;simp only[Tryz.ntmps59,List.size_toArray,jaa,Xaa,Nat.reduceAdd,Nat.reduceSub,Array.replicate_succ,Array.replicate_zero,List.push_toArray,List.append_toArray,List.nil_append,List.cons_append];by_cases Y:Z=[];all_goals
  first
   |(have h1:¬ (0:Int)<(Z.length:Int):=(by rw[Y];decide);rw[if_pos Y]at aY)
   |(have h1:(0:Int)<(Z.length:Int):=(by have:=kca.2 Y;omega);rw[if_neg Y]at aY)
  clear Y;have f1:¬ (9223372036854775807<4+SJ.size):=by omega
  have f2:¬ (9223372036854775805<4+SJ.size):=by omega
  have f3:¬ (9223372036854775807<4+SJ.size+2+SS.size):=by omega
  have f4:¬ (9223372036854775804<SH.size):=by omega
  have f5:¬ (9223372036854775807<SS.size):=by omega
  obtain⟨y0,y1,y2,y3⟩:=HX.out _ (Below.refl _ _);have G:=HA.out;gi_wp2_with (first
   |(refine⟨trivial,?_⟩;gi_at_call 126;refine(callsIn_wide.2 (HJ.out _ HA.out)).mono ?_;rintro e w2 ⟨rfl,bf⟩;replace G:=bt HA.out bf;obtain⟨y0,y1,y2,y3⟩:=HX.out _ bf)
   |(refine⟨trivial,?_⟩;gi_at_call 127;refine(callsIn_wide.2 (HS.out _ G)).mono ?_;rintro e E ⟨rfl,bT⟩;have aT:=bt G bT)
   |(refine⟨trivial,?_⟩;gi_at_call 57;rw[bL.out];refine(callsIn_wide.2 (Mp E.heap.size E.heap.size [] (H++[32,123,10]) _ (Zz E) cg (al E _).size)).mono ?_;rintro e w5 ⟨rfl,bs,a0,bW⟩)
   |(refine⟨trivial,?_⟩;gi_at_call 128;refine(callsIn_wide.2 (dK _ _)).mono ?_;rintro e w6 ⟨rfl,rfl⟩)
   |(refine⟨trivial,?_⟩;fail))
  rw[aY.out];have bR:E.heap.size+1≤w5.heap.size:=by have:=a0.size;simpa using this
  have aU:Below E.heap.size E w5:=(al E _).trans a0;have a1:jI (w5.alloc (.cells #[.string (vh s)] 9)) w5.heap.size:=⟨_,_,heap_alloc_new w5 _⟩;have a2:(w5.alloc (.cells #[.string (vh s)] 9)).cell? ⟨w5.heap.size,0,none⟩=some (.string (vh s)):=by simp[go_sem]
  have a3:(w5.alloc (.cells #[.string (vh s)] 9)).frozen? ⟨w5.heap.size,0,none⟩=false:=by simp[go_sem]
  have a6:(w5.alloc (.cells #[.string (vh s)] 9)).heap.size=w5.heap.size+1:=by simp
  have bE:=kaa ((show fo E.heap.size E.heap.size (H++[32,123,10]) w5 from bs).alloc (.cells #[.string (vh s)] 9));have bh:=kaa (aU.trans ((al w5 (.cells #[.string (vh s)] 9)).mono Tf));have aW:=kaa aT;clear bs a0 bW aU G aT y0 y1 y2 y3;generalize World.alloc w5 _=wl at a1 a2 a3 a6 bE bh ⊢;generalize w5.heap.size=Bs at bR a1 a2 a3 a6 ⊢;have b1:=bb.out;refine bB 4 Tf Bs rfl rfl s Tf a2 a3 Tf (fun Q W=>VO E.heap.size E.heap.size Bs wl.heap.size E ((H++[32,123,10])++Q.flatMap (fun x=>([32,32]:List UInt8)++x)) W) (fun _=>False) a1
   (fun Q W W' h ht hn=>h.turn ht hn Tf (Nat.le_refl _) Tf h.below.size) (fun _ _ h _=>h.elim) (fun o1 o2 hn=>?_) ?_ ?_ ?_ ?_ ?_
  ·refine⟨?_,?_,hn⟩;·rw[pea,Maa];exact(bE.out.alloc o1).alloc o2
   ·exact((bh.out.alloc Tf o1).alloc Ng o2)
  rotate_left;·intro x W K hK;gi_wp2;exact hK
  ·rintro Q x W aV O b0 b4;have a7:=Mz aV;rw[Daa,xaa]at a7;simp only[List.flatMap_cons,pea,xaa,jaa,Xaa,Maa]at a7;have bN:Hid (⟨#[32,32]⟩++vh x=vh ([32,32]++x)):=by show _=_;rw[Sh];rfl
   have zx:(vh x).size≤3000000:=by rw[Dh];omega
   have g1:¬ (9223372036854775807<2+(vh x).size):=by omega
   have aZ:=kaa (Mp E.heap.size E.heap.size _ ([32,32]++x) W O.bld cg O.below.size);rw[← bN.out]at aZ;have HI:=kaa O;have A:Hid ((H++[32,123,10])++(Q++[x]).flatMap (fun x=>([32,32]:List UInt8)++x)=(H++[32,123,10])++Q.flatMap (fun x=>([32,32]:List UInt8)++x)++([32,32]++x)):=by show _=_;rw[Daa,List.append_assoc];simp
   clear O aV a7 zx;generalize vh x=SX at aZ g1 ⊢;gi_wp2_with (first
    |(refine⟨trivial,?_⟩;gi_at_call 57;refine(CallsIn.inRound _ (callsIn_wide.2 aZ.out)).mono ?_;rintro e w7 ⟨rfl,bZ,bU,bX⟩)
    |(refine⟨trivial,?_⟩;fail))
   have hm:=HI.out.more bZ bU bX Tf Tf Tf;exact⟨hm.1,by have h:=hm.2;rw[← A.out]at h;exact h⟩
  ·rintro W O hk b0;have a8:=kaa (KF E.heap.size E.heap.size _ W O.bld O.below.size);rw[A.out,aX.out]at a8;have g2:¬ (9223372036854775805<SA.size):=by omega
   have HI:=kaa O.below;have HK:=kaa hk;clear O hk;gi_wp2_with (first
    |(refine⟨trivial,?_⟩;gi_at_call 61;refine(callsIn_wide.2 a8.out).mono ?_;rintro e w8 ⟨rfl,bV,bY⟩)
    |(refine⟨trivial,?_⟩;fail))
   have bk:w8.heap[wl.heap.size]? = some (.deferred (some [])):=bY _ _ HK.out (fun e=>by injection e with e;omega) (fun c fz e=>by cases e);have bg:Below w.heap.size w (w8.putObj wl.heap.size (.deferred none)):=dI (aW.out.trans ((HI.out.trans bV).mono aW.out.size)) (by have:=aW.out.size;omega) _;rw[a6]at bk bg;refine⟨by simp,.inl ⟨_,_,rfl,run_takeDeferred bk,?_⟩⟩;refine⟨.string (SA++⟨#[125,10]⟩),by simp[results,Tryz.results59,go_sem];try rfl,rfl,bg⟩
  ·rintro W O;exact O.elim
end Go.Proofs.YtjcihcncljihoaaGreatDoor
namespace Go.Proofs.YtjcihcncljihoaaGreatDoor
open Go Go.RowKit
set_option linter.unusedVariables false
open Go.Lib renaming hid→kaa
open Go.RowKit.Below renaming refl→Gaa
open Kh renaming cells→lba
open List renaming all_eq_true→pda,append_assoc→oca,append_nil→Maa,drop_eq_getElem_cons→taa,getElem?_eq_getElem→Eaa,getElem_mem→dba,length_append→xaa,length_cons→jaa,length_nil→Xaa,length_pos_iff→kca,map_append→Zaa,set_cons_succ→Yba,take_length→qea,take_succ_eq_append_getElem→Caa
open Nat renaming add_zero→Ada,le_trans→yba,zero_le→laa
open Tv renaming cells→Dda
open Xh renaming cells→Kca
open bi renaming below→aca
theorem Vq{α:Type}(f:α→List UInt8)(l:List α)(j:Nat)(h:j<l.length):(l.take (j+1)).flatMap f=(l.take j).flatMap f++f l[j]:=by rw[Caa h,List.flatMap_append];simp
theorem ow(wd:List UInt8)(L:wd.length≤100)(l:List Xh)(J:l.length≤100000){m:Int}(hm:m≤4294967296)(A:yi m l=true):(dl wd l).length≤10000000:=by
 have E:∀ x∈l.map sk,x.length≤30:=fun x I=>by obtain⟨c,H,rfl⟩:=List.mem_map.1 I;exact tC hm (pda.1 A c H)
 have G:=Sq (N:=30) _ E;rw[List.length_map]at G;unfold dl Np;exact He
theorem xC(H:List UInt8)(L:H.length≤100)(x:Tv)(A:Xi x.t=true)(J:At x):(Xo H x.t).length≤10000000:=by obtain⟨I,_⟩:=bz J A;have E:=uF A;unfold Px at E;have G:=Mz (List.prefix_refl (Kj (yx x.t)));rw[E]at G;unfold Xo El bm;simp only[xaa,jaa,Xaa]at G ⊢;omega
theorem TK{c:zE}(h:Fh c.e=true):(Ej c.e).length≤800∧(sr c).length≤10000000:=by have A:=(ek h).2.2;refine⟨A,?_⟩;unfold sr Np;have E:(pw 5).length=6:=rfl;exact He
structure Bz (w1:World) (acc:List UInt8) (N:Nat) (W:World):Prop where
 bld:fo w1.heap.size w1.heap.size acc W
 below:Below w1.heap.size w1 W
 len:acc.length≤N
section
variable {w1 W W' : World} {acc t : List UInt8} {N M : Nat}
theorem Bz.step(h:Bz w1 acc N W)(A:Below W.heap.size W W'):Bz w1 acc N W':=⟨h.bld.belowN A,bt h.below A,h.len⟩
theorem Bz.put(h:Bz w1 acc N W)(A:fo w1.heap.size w1.heap.size (acc++t) W')(E:Below w1.heap.size W W')(ht:t.length≤10000000)(G:N+10000000≤M):Bz w1 (acc++t) M W' :=
 ⟨A,h.below.trans E,by rw[xaa];have:=h.len;omega⟩
end
theorem ZE(o:Nat→Value)(q:qj)(hB:eA q)(hS:∀ x∈q.thrs,At x)(bW:∀ x∈q.rcv,At x)(w:World)(hv:Lp w o q)(hE:Xj w):Calls Tryz.prog 18 #[.agg #[o 0,o 1,o 2,o 3,o 4,o 5]] w fun e w'=>e = .returned (.string (vh (Sn q.p)))∧Below w.heap.size w w':=by
 have aX:=kaa (fun(u:World) (Q:Below w.heap.size w u)=>Ks o q hB u (hv.below Q) (hE.below Q));have aT:∀ j,j<6→∃ A c,o j = .slice A (q.n j) c:=fun j hj=>ug;obtain⟨A0,c0,s0⟩:=aT 0 Uf;have s0:o 0 = .slice A0 q.lines.length c0:=s0;obtain⟨A1,c1,s1⟩:=aT 1 Uf;have s1:o 1 = .slice A1 q.vols.length c1:=s1;obtain⟨A2,c2,s2⟩:=aT 2 Uf;have s2:o 2 = .slice A2 q.locks.length c2:=s2;obtain⟨A3,c3,s3⟩:=aT 3 Uf;have s3:o 3 = .slice A3 q.thrs.length c3:=s3;obtain⟨A4,c4,s4⟩:=aT 4 Uf;have s4:o 4 = .slice A4 q.rcv.length c4:=s4;obtain⟨A5,c5,s5⟩:=aT 5 Uf;have s5:o 5 = .slice A5 q.clms.length c5:=s5;have bF:Hid (bi w (o 0) 1 q.lines.length (q.lines.flatMap (fun x:Value × List Xh=>[x.1]))):=by show bi _ _ _ _ _;rw[← List.map_eq_flatMap];exact hv.rows 0 Uf
 have bI:Hid (Aq w (o 1) q.vols):=hv.rows 1 Uf;have bL:Hid (Aq w (o 2) q.locks):=hv.rows 2 Uf;have bN:Hid (bi w (o 3) 4 q.thrs.length (q.thrs.flatMap Dda)):=hv.rows 3 Uf;have bR:Hid (bi w (o 4) 4 q.rcv.length (q.rcv.flatMap Dda)):=hv.rows 4 Uf;have bS:Hid (bi w (o 5) 2 q.clms.length (q.clms.flatMap Kv.cells)):=hv.rows 5 Uf;have HD:=kaa hv.deep;have bs:=kaa hB;have aV:=kaa hE;have b6:=kaa hS;have b7:=kaa bW;have l0:q.lines.length≤100000:=hB.n 0 Uf;have l1:q.vols.length≤100000:=hB.n 1 Uf;have l2:q.locks.length≤100000:=hB.n 2 Uf;have l3:q.thrs.length≤100000:=hB.n 3 Uf;have l4:q.rcv.length≤100000:=hB.n 4 Uf;have l5:q.clms.length≤100000:=hB.n 5 Uf;rw[s0,s1,s2,s3,s4,s5]at aX ⊢;rw[s0]at bF;rw[s1]at bI;rw[s2]at bL;rw[s3]at bN;rw[s4]at bR;rw[s5]at bS;have aZ:=kaa (Tl w (.slice A0 q.lines.length c0) (.slice A1 q.vols.length c1) (.slice A2 q.locks.length c2) (.slice A3 q.thrs.length c3) (.slice A4 q.rcv.length c4) (.slice A5 q.clms.length c5) 27 rfl);have a0:Hid (Below w.heap.size w (w.alloc (.cells #[.slice A0 q.lines.length c0,.slice A1 q.vols.length c1,.slice A2 q.locks.length c2,.slice A3 q.thrs.length c3,.slice A4 q.rcv.length c4,.slice A5 q.clms.length c5] 27))):=al _ _;clear hB hS bW hv hE aT s0 s1 s2 s3 s4 s5;obtain⟨X0,a7⟩:∃ X0,Hid ((w.alloc (.cells #[.slice A0 q.lines.length c0,.slice A1 q.vols.length c1,.slice A2 q.locks.length c2,.slice A3 q.thrs.length c3,.slice A4 q.rcv.length c4,.slice A5 q.clms.length c5] 27))=X0):=⟨_,rfl⟩;rw[a7.out]at aZ a0;by_cases Y:Mi q.p=true
 ·have cc:=kaa Y;have hp:=Y;rw[VA]at hp;simp only[Bool.and_eq_true,pda,Bool.not_eq_true']at hp;obtain⟨⟨⟨⟨⟨⟨p0,p1⟩,p2⟩,p3⟩,p4⟩,p5⟩,p6⟩:=hp;have P0:=kaa p0;have P1:=kaa p1;have P2:=kaa p2;have P4:=kaa p4;have P5:=kaa p5;have P6:=kaa p6;have a2:Hid (Sn q.p=Ml q.p):=by show _=_;unfold Sn;rw[if_pos Y]
  rw[a2.out];rw[Y]at aX;clear a2 Y p0 p1 p2 p3 p4 p5 p6;obtain⟨y0,y1,y2,y3,y4,y5⟩:=aZ.out X0 (Gaa _ _);go_enter Tryz.func18,Tryz.ntmps18;go_upto_region 1 with fail;rw[a7.out];clear a7;go_wp2_with (go_at_call 16;(with_reducible refine(aX.out _ a0.out).mono ?_);rintro e w1 ⟨rfl,a8⟩;have HY:=kaa (fun(u:World) (Q:Below w1.heap.size w1 u)=>aZ.out u (bt a8 Q));have O:=kaa (fun(u:World) (Q:Below w1.heap.size w1 u)=>bt a0.out (bt a8 Q));have bT:=kaa (show Bz w1 [] 0 _ from⟨Zz w1,al w1 _,Nat.le_refl _⟩);obtain⟨y0,y1,y2,y3,y4,y5⟩:=HY.out _ bT.out.below);clear aX aZ;go_loopw [18] (fun k wr=>∃ (j:Nat) (acc:List UInt8),j≤q.lines.length∧k = .int .i64 j∧Hid (acc=(q.lines.take j).flatMap (fun x=>dl (pw 0) x.2))∧Bz w1 acc (10000000*j) wr) (fun k _=>q.lines.length - (intOf k).toNat);case atStart=>exact⟨0,[],laa _,rfl,rfl,bT.out⟩
  case round =>
   obtain⟨j,acc,hj,rfl,HACC,H⟩:=hrel;have HZ:=kaa H;by_cases E:j<q.lines.length
   ·obtain⟨b1,o1,k1,af,_,G⟩:=Ki (f:=fun x:Value × List Xh=>[x.1]) (fun _=>rfl) bF.out Tf;cases af;have hm:=dba E;have I:=kaa (HD.out.lines _ hm);have hq:=P0.out _ hm;have bh:=(bs.out.lines _ hm).1;have Z:=G wr (O.out _ H.below) j E 0 _ rfl;simp only[Nat.mul_one,Ada]at Z;have HTL:=kaa (ow (pw 0) Uf (q.lines[j]).2 bh Uf hq.2);have L:=kaa (fun(u:World) (Q:Below w1.heap.size w1 u)=>sD (pw 0) Uf (q.lines[j]).2 bh Uf hq.2 (q.lines[j]).1 u (aca I.out (O.out u Q)) (aV.out.below (O.out u Q)));rw[show vh (pw 0)=(⟨#[108,105,110,101]⟩:ByteArray)from rfl]at L;have HNX:=kaa (Vq (fun x:Value × List Xh=>dl (pw 0) x.2) q.lines j E);have a1:(j:Int)<(q.lines.length:Int):=by omega
    clear G hm hq bh;generalize q.lines[j]=x at Z HTL L HNX I;obtain⟨xv,xc⟩:=x;have av:=I.out;obtain⟨_,A7,c7,h7,_,_⟩:=av;simp only at h7;subst h7;simp only at Z HTL L HNX;generalize dl (pw 0) xc=t at HTL L HNX;go_wp2_with (first
     |(go_at_call 58;(with_reducible refine(L.out _ HZ.out.below).mono ?_);rintro e w2 ⟨rfl,hb2⟩;have HZ2:=kaa (HZ.out.step hb2))
     |(go_at_call 57;(with_reducible refine(Mp w1.heap.size w1.heap.size acc t w2 HZ2.out.bld (by have:=HZ2.out.len;have:=HTL.out;omega) HZ2.out.below.size).mono ?_);rintro e w3 ⟨rfl,hl3,hb3,hk3⟩)
     |fail)
    go_roundw;case rel=>exact⟨j+1,acc++t,by omega,by go_num,by show _=_;rw[HNX.out,← HACC.out],HZ2.out.put hl3 hb3 HTL.out Tf⟩
    case measure=>simp[intOf];omega
   ·obtain rfl:j=q.lines.length:=by omega
    rw[qea]at HACC;have J:Bz w1 acc 1000000000000 wr:=⟨H.bld,H.below,by have:=H.len;omega⟩;clear HZ H;obtain⟨y0,y1,y2,y3,y4,y5⟩:=HY.out _ J.below;have aY:=kaa J;go_upto_if 29 with fail;go_cut []from 29 to 33 (fun wx=>Bz w1 (acc++(if q.vols=[]then []else dl (pw 1) q.vols)) 1000010000000 wx);case first =>
     by_cases h0:q.vols=[]
     ·have h1:¬ (0:Int)<(q.vols.length:Int):=by rw[h0];decide
      have H0:=kaa h0;clear h0;go_wp2_with fail;go_meet;rw[if_pos H0.out,Maa];exact⟨aY.out.bld,aY.out.below,yba aY.out.len Uf⟩
     ·have h1:(0:Int)<(q.vols.length:Int):=by have:=kca.2 h0;omega
      have H0:=kaa h0;clear h0;have HTL:=kaa (ow (pw 1) Uf q.vols l1 Uf P1.out);have L:=kaa (fun(u:World) (Q:Below w1.heap.size w1 u)=>sD (pw 1) Uf q.vols l1 Uf P1.out _ u (aca bI.out (O.out u Q)) (aV.out.below (O.out u Q)));rw[show vh (pw 1)=(⟨#[118,111,108]⟩:ByteArray)from rfl]at L;obtain⟨t,HTT⟩:∃ t,Hid (dl (pw 1) q.vols=t):=⟨_,rfl⟩;rw[HTT.out]at HTL L;go_wp2_with (first
       |(go_at_call 58;(with_reducible refine(L.out _ aY.out.below).mono ?_);rintro e w2 ⟨rfl,hb2⟩;have HZ:=kaa (aY.out.step hb2))
       |(go_at_call 57;(with_reducible refine(Mp w1.heap.size w1.heap.size _ t w2 HZ.out.bld (by have:=HZ.out.len;have:=HTL.out;omega) HZ.out.below.size).mono ?_);rintro e w3 ⟨rfl,hl3,hb3,hk3⟩)
       |fail)
      exact Xd
    case rest =>
    clear aY;have HZ2:=kaa hcut;obtain⟨y0,y1,y2,y3,y4,y5⟩:=HY.out _ hcut.below;clear hcut;go_upto_if 37 with fail;go_cut []from 37 to 41 (fun wx=>Bz w1 ((acc++(if q.vols=[]then []else dl (pw 1) q.vols))++(if q.locks=[]then []else dl (pw 2) q.locks)) 1000020000000 wx);case first =>
     by_cases h0:q.locks=[]
     ·have h1:¬ (0:Int)<(q.locks.length:Int):=by rw[h0];decide
      have H0:=kaa h0;clear h0;go_wp2_with fail;go_meet;rw[if_pos H0.out,Maa];exact⟨HZ2.out.bld,HZ2.out.below,yba HZ2.out.len Uf⟩
     ·have h1:(0:Int)<(q.locks.length:Int):=by have:=kca.2 h0;omega
      have H0:=kaa h0;clear h0;have HTL:=kaa (ow (pw 2) Uf q.locks l2 Uf P2.out);have L:=kaa (fun(u:World) (Q:Below w1.heap.size w1 u)=>sD (pw 2) Uf q.locks l2 Uf P2.out _ u (aca bL.out (O.out u Q)) (aV.out.below (O.out u Q)));rw[show vh (pw 2)=(⟨#[108,111,99,107]⟩:ByteArray)from rfl]at L;obtain⟨t,HTT⟩:∃ t,Hid (dl (pw 2) q.locks=t):=⟨_,rfl⟩;rw[HTT.out]at HTL L;go_wp2_with (first
       |(go_at_call 58;(with_reducible refine(L.out _ HZ2.out.below).mono ?_);rintro e w2 ⟨rfl,hb2⟩;have HZ:=kaa (HZ2.out.step hb2))
       |(go_at_call 57;(with_reducible refine(Mp w1.heap.size w1.heap.size _ t w2 HZ.out.bld (by have:=HZ.out.len;have:=HTL.out;omega) HZ.out.below.size).mono ?_);rintro e w3 ⟨rfl,hl3,hb3,hk3⟩)
       |fail)
      exact Xd
    case rest =>
    clear HZ2;have bf:=kaa hcut;obtain⟨y0,y1,y2,y3,y4,y5⟩:=HY.out _ hcut.below;clear hcut;obtain⟨a3,bk⟩:∃ a,Hid (acc++(if q.vols=[]then []else dl (pw 1) q.vols)++(if q.locks=[]then []else dl (pw 2) q.locks)=a):=⟨_,rfl⟩;rw[bk.out]at bf;go_wp2_with fail;go_loopw [45] (fun k wr=>∃ (j:Nat) (acc:List UInt8),j≤q.thrs.length∧k = .int .i64 j∧Hid (acc=a3++(q.thrs.take j).flatMap (fun x=>Hv x.t))∧Bz w1 acc (1000020000000+10000000*j) wr) (fun k _=>q.thrs.length - (intOf k).toNat);case atStart=>exact⟨0,a3,laa _,rfl,by show _=_;simp,bf.out⟩
    case round =>
     obtain⟨j,acc,hj,rfl,HACC,H⟩:=hrel;have HZ:=kaa H;by_cases E:j<q.thrs.length
     ·obtain⟨b1,o1,k1,af,_,G⟩:=Ki (f:=Dda) (fun _=>rfl) bN.out Tf;cases af;have hm:=dba E;have I:=kaa (HD.out.thrs _ hm);have hq:=P4.out _ hm;have ad:=kaa (b6.out _ hm);have Z:=G wr (O.out _ H.below) j E 0 _ rfl;have x1:=G wr (O.out _ H.below) j E 1 _ rfl;have x2:=G wr (O.out _ H.below) j E 2 _ rfl;have x3:=G wr (O.out _ H.below) j E 3 _ rfl;simp only[Ada]at Z;have HNX:=kaa (Vq (fun x=>Hv x.t) q.thrs j E);have a1:(j:Int)<(q.thrs.length:Int):=by omega
      clear G hm;generalize q.thrs[j]=x at Z x1 x2 x3 hq ad HNX I;have aU:Xi x.t=true:=hq.2;have bX:x.name.length≤16:=by obtain⟨_,_,_,_,h3⟩:=Il hq.1;exact h3
      have ao:(pw 3++([32]++x.name)).length≤100:=by have h2:(pw 3).length=6:=rfl;simp only[xaa,jaa,Xaa];omega
      have HTL:=kaa (xC (pw 3++([32]++x.name)) ao x aU ad.out);have HX:=kaa (bp wr x 41);have HBK:=kaa (fun(u:World) (Q:Below w1.heap.size w1 u)=>jB (pw 3++([32]++x.name)) ao x aU ad.out u (I.out.below (O.out u Q)) (aV.out.below (O.out u Q)));obtain⟨xn,xr,xs,xb,xp,xq⟩:=x;have av:=I.out;obtain⟨⟨_,A7,c7,h7,_,_⟩,⟨⟨_,A8,c8,h8,_,_⟩,_⟩⟩:=av;simp only at h7 h8;subst h7 h8;simp only at Z x1 x2 x3 HTL HBK HNX HX;have HWA:Hid (Below w1.heap.size w1 (wr.alloc (.cells #[.string (vh xn),.slice A7 xs.length c7,.slice A8 xp.length c8,.int .i64 xq] 41))):=bt H.below (al _ _);have aW:Hid ((⟨#[116,104,114,101,97,100,32]⟩:ByteArray)++vh xn=vh (pw 3++([32]++xn))):=by show _=_;rw[show pw 3++([32]++xn)=[116,104,114,101,97,100,32]++xn from rfl,Sh];rfl
      have zx:(vh xn).size≤16:=by rw[Dh];exact bX
      have f1:¬ (9223372036854775807<7+(vh xn).size):=by omega
      have bE:Hid (Hv (Tv.t ⟨xn,.slice A7 xs.length c7,xs,.slice A8 xp.length c8,xp,xq⟩)=Xo (pw 3++([32]++xn)) (Tv.t ⟨xn,.slice A7 xs.length c7,xs,.slice A8 xp.length c8,xp,xq⟩)):=rfl;rw[bE.out]at HNX;rw[← aW.out]at HBK;clear bE bX;generalize Xo _ _=t at HTL HBK HNX;clear hq aU ao;generalize vh xn=SN at Z HX HBK HWA f1 zx;exact xa
     ·obtain rfl:j=q.thrs.length:=by omega
      rw[qea]at HACC;have J:Bz w1 acc 2000020000000 wr:=⟨H.bld,H.below,by have:=H.len;omega⟩;clear HZ H bf;obtain⟨y0,y1,y2,y3,y4,y5⟩:=HY.out _ J.below;obtain⟨a4,bZ⟩:∃ a,Hid (acc=a):=⟨_,rfl⟩;rw[bZ.out]at HACC J;have b3:=kaa HACC.out;have bU:=kaa J;clear HACC;go_wp2_with fail;go_loopw [59] (fun k wr=>∃ (j:Nat) (acc:List UInt8),j≤q.rcv.length∧k = .int .i64 j∧Hid (acc=a4++(q.rcv.take j).flatMap (fun x=>Xo (pw 4) x.t))∧Bz w1 acc (2000020000000+10000000*j) wr) (fun k _=>q.rcv.length - (intOf k).toNat);case atStart=>exact⟨0,a4,laa _,rfl,by show _=_;simp,bU.out⟩
      case round =>
       obtain⟨j,acc,hj,rfl,HACC,H⟩:=hrel;have HZ:=kaa H;by_cases E:j<q.rcv.length
       ·obtain⟨b1,o1,k1,af,_,G⟩:=Ki (f:=Dda) (fun _=>rfl) bR.out Tf;cases af;have hm:=dba E;have I:=kaa (HD.out.rcv _ hm);have hq:=P5.out _ hm;have ad:=kaa (b7.out _ hm);have Z:=G wr (O.out _ H.below) j E 0 _ rfl;have x1:=G wr (O.out _ H.below) j E 1 _ rfl;have x2:=G wr (O.out _ H.below) j E 2 _ rfl;have x3:=G wr (O.out _ H.below) j E 3 _ rfl;simp only[Ada]at Z;have HNX:=kaa (Vq (fun x=>Xo (pw 4) x.t) q.rcv j E);have a1:(j:Int)<(q.rcv.length:Int):=by omega
        clear G hm;generalize q.rcv[j]=x at Z x1 x2 x3 hq ad HNX I;have aU:Xi x.t=true:=hq.2;have ao:(pw 4).length≤100:=by decide
        have HTL:=kaa (xC (pw 4) ao x aU ad.out);have HX:=kaa (bp wr x 41);have HBK:=kaa (fun(u:World) (Q:Below w1.heap.size w1 u)=>jB (pw 4) ao x aU ad.out u (I.out.below (O.out u Q)) (aV.out.below (O.out u Q)));obtain⟨xn,xr,xs,xb,xp,xq⟩:=x;have av:=I.out;obtain⟨⟨_,A7,c7,h7,_,_⟩,⟨⟨_,A8,c8,h8,_,_⟩,_⟩⟩:=av;simp only at h7 h8;subst h7 h8;simp only at Z x1 x2 x3 HTL HBK HNX HX;have HWA:Hid (Below w1.heap.size w1 (wr.alloc (.cells #[.string (vh xn),.slice A7 xs.length c7,.slice A8 xp.length c8,.int .i64 xq] 41))):=bt H.below (al _ _);rw[show vh (pw 4)=(⟨#[114,101,99,111,118,101,114]⟩:ByteArray)from rfl]at HBK;generalize Xo _ _=t at HTL HBK HNX;clear hq aU ao;generalize vh xn=SN at Z HX HBK HWA;exact xa
       ·obtain rfl:j=q.rcv.length:=by omega
        rw[qea]at HACC;have J:Bz w1 acc 3000020000000 wr:=⟨H.bld,H.below,by have:=H.len;omega⟩;clear HZ H bU;obtain⟨y0,y1,y2,y3,y4,y5⟩:=HY.out _ J.below;obtain⟨a5,b0⟩:∃ a,Hid (acc=a):=⟨_,rfl⟩;rw[b0.out]at HACC J;have b4:=kaa HACC.out;have bV:=kaa J;clear HACC;go_wp2_with fail;go_loopw [70] (fun k wr=>∃ (j:Nat) (acc:List UInt8),j≤q.clms.length∧k = .int .i64 j∧Hid (acc=a5++(q.clms.take j).flatMap (fun x=>sr x.c))∧Bz w1 acc (3000020000000+10000000*j) wr) (fun k _=>q.clms.length - (intOf k).toNat);case atStart=>exact⟨0,a5,laa _,rfl,by show _=_;simp,bV.out⟩
        case round =>
         obtain⟨j,acc,hj,rfl,HACC,H⟩:=hrel;have HZ:=kaa H;by_cases E:j<q.clms.length
         ·obtain⟨b1,o1,k1,af,_,G⟩:=Ki (f:=Kv.cells) (fun _=>rfl) bS.out Tf;cases af;have hm:=dba E;have I:=kaa (HD.out.clms _ hm);have hq:=P6.out _ hm;have a9:=bs.out.clms _ hm;have Z:=G wr (O.out _ H.below) j E 0 _ rfl;have x1:=G wr (O.out _ H.below) j E 1 _ rfl;simp only[Ada]at Z;have HNX:=kaa (Vq (fun x=>sr x.c) q.clms j E);have a1:(j:Int)<(q.clms.length:Int):=by omega
          clear G hm;generalize q.clms[j]=x at Z x1 hq a9 HNX I;obtain⟨It,bY⟩:=TK hq.2;have HTL:=kaa bY;have bb:=kaa (fun(u:World) (Q:Below w1.heap.size w1 u)=>vE x.c.e a9.el a9.en x.ev u (aca I.out (O.out u Q)) (aV.out.below (O.out u Q)));have aW:Hid ((⟨#[97,108,119,97,121,115,32]⟩:ByteArray)++vh (Ej x.c.e)++⟨#[59,10]⟩=vh (sr x.c)):=by show _=_;rw[show sr x.c=[97,108,119,97,121,115,32]++Ej x.c.e++[59,10] by unfold sr Np;simp[pw,mQ],Sh,Sh];rfl
          have zx:(vh (Ej x.c.e)).size≤800:=by rw[Dh];exact It
          obtain⟨xv,xe,xq⟩:=x;have av:=I.out;obtain⟨_,A7,c7,h7,_,_⟩:=av;simp only at h7;subst h7;simp only at Z x1 HTL bb HNX aW zx;have HWA:Hid (Below w1.heap.size w1 (wr.alloc (.cells #[.slice A7 xe.length c7,.int .i64 xq] 50))):=bt H.below (al _ _);generalize sr _=t at HTL HNX aW;generalize vh (Ej xe)=SN at bb aW zx;have f1:¬ (9223372036854775807<7+SN.size):=by omega
          have f2:¬ (9223372036854775805<7+SN.size):=by omega
          clear hq a9 It bY;have z0:(wr.alloc (.cells #[.slice A7 xe.length c7,.int .i64 xq] 50)).cell? ⟨wr.heap.size,0,none⟩=some (.slice A7 xe.length c7):=by simp[go_sem]
          go_wp2_with (first
           |(go_at_call 60;(with_reducible refine(bb.out _ HWA.out).mono ?_);rintro e w2 ⟨rfl,hb2⟩;have HZ2:=kaa ((HZ.out.step (al wr _)).step hb2))
           |(go_at_call 57;rw[aW.out];(with_reducible refine(Mp w1.heap.size w1.heap.size acc t w2 HZ2.out.bld (by have:=HZ2.out.len;have:=HTL.out;omega) HZ2.out.below.size).mono ?_);rintro e w3 ⟨rfl,hl3,hb3,hk3⟩)
           |fail)
          go_roundw;case rel=>exact⟨j+1,acc++t,by omega,by go_num,by show _=_;rw[HNX.out,← oca,← HACC.out],HZ2.out.put hl3 hb3 HTL.out Tf⟩
          case measure=>simp[intOf];omega
         ·obtain rfl:j=q.clms.length:=by omega
          rw[qea]at HACC;have J:Bz w1 acc 4000020000000 wr:=⟨H.bld,H.below,by have:=H.len;omega⟩;clear HZ H bV;obtain⟨y0,y1,y2,y3,y4,y5⟩:=HY.out _ J.below;obtain⟨a6,b2⟩:∃ a,Hid (acc=a):=⟨_,rfl⟩;rw[b2.out]at HACC J;have b5:=kaa HACC.out;have bg:=kaa J;clear HACC;have b8:Hid (a6=Ml q.p):=by show _=_;rw[b5.out,b4.out,b3.out,← bk.out,HACC.out];unfold Ml qj.p;simp only[List.flatMap_map,oca]
          have cb:=bg.out.bld;go_wp2_with (go_at_call 61;(with_reducible refine(KF w1.heap.size w1.heap.size a6 _ cb bg.out.below.size).mono ?_);rintro e w8 ⟨rfl,b9,ch⟩);go_ret;exact⟨by rw[b8.out];rfl,(O.out _ (bg.out.below.trans b9))⟩
 ·have Y:Mi q.p=false:=by simpa using Y
  have a2:Hid (vh (Sn q.p)=⟨#[]⟩):=by show _=_;unfold Sn;rw[Y];rfl
  rw[a2.out];rw[Y]at aX;obtain⟨y0,y1,y2,y3,y4,y5⟩:=aZ.out X0 (Gaa _ _);go_enter Tryz.func18,Tryz.ntmps18;go_upto_region 1 with fail;rw[a7.out];go_wp2_with (go_at_call 16;(with_reducible refine(aX.out _ a0.out).mono ?_);rintro e w1 ⟨rfl,a8⟩);go_ret;exact⟨rfl,bt a0.out a8⟩
theorem Ou(x:Xh)(b:List Xh):∀ (a:List Xh),((a++x::b).flatMap Kca).set (a.length*3+2) (.int .i64 0)=(a++xi x::b).flatMap Kca
 | []=>rfl
 |y::a=>by
  have h:(y::a).length*3+2=(a.length*3+2)+1+1+1:=by simp only[jaa];omega
  rw[h];show(Value.string (vh y.name)::Value.int .i64 y.n::Value.int .i64 y.pos::(a++x::b).flatMap Kca).set _ _=Value.string (vh y.name)::Value.int .i64 y.n::Value.int .i64 y.pos::(a++xi x::b).flatMap Kca;rw[Yba,Yba,Yba,Ou x b a]
def MD(l:List Xh)(k:Nat):List Xh:=(l.take k).map xi++l.drop k
theorem VJ(l:List Xh)(k:Nat)(h:k<l.length):((MD l k).flatMap Kca).set (k*3+2) (.int .i64 0)=(MD l (k+1)).flatMap Kca:=by unfold MD;rw[taa h,Caa h,Zaa];have:=Ou l[k] (l.drop (k+1)) ((l.take k).map xi);rw[show((l.take k).map xi).length=k by simp;omega]at this;rw[this];simp
theorem uq(l:List Xh)(hl:l.length≤100000)(v:Value)(w:World)(J:Aq w v l):Calls Tryz.prog 38 #[v] w fun e w'=>∃ A c,e = .returned (.slice A l.length c)∧w'.ownsRow w.heap.size 48 3 (.slice A l.length c) l.length ((l.map xi).flatMap Kca)∧Below w.heap.size w w':=by
 have O:=kaa (RK v l.length _ w J Tf (tv l));obtain⟨_,A0,c0,rfl,_,_⟩:=id J;clear J;go_enter Tryz.func38,Tryz.ntmps38;go_wp2_with (go_at_call 100;(with_reducible refine O.out.mono ?_);rintro e w2 ⟨A,c,rfl,hown,E⟩);have H:=kaa hown;have G:=kaa E;clear hown E;go_loopw [9] (fun k wr=>∃ j:Nat,j≤l.length∧k = .int .i64 j∧wr.ownsRow w.heap.size 48 3 (.slice A l.length c) l.length ((MD l j).flatMap Kca)∧Below w.heap.size w wr) (fun k _=>l.length - (intOf k).toNat);case atStart=>exact⟨0,laa _,rfl,H.out,G.out⟩
 case round =>
  obtain⟨j,hj,rfl,hown,hb⟩:=hrel;have HO:=kaa hown;have HB:=kaa hb;by_cases I:j<l.length
  ·have hlt:=hown.lt;rcases hown.2 with⟨h,Z⟩|⟨g,Q,cur,h,hg,hh,_,_,ad,hcur⟩;·exact absurd Z Tf
   ·cases h;have hst:=HO.out.stored (j*3+2) (.int .i64 0);rw[VJ l j I]at hst;have HST:=kaa hst;have HG:=kaa hg;have hx:=hown.frozenAt (j*3+2);have L:(j:Int)<(l.length:Int):=by omega
    obtain⟨u,hu⟩:∃ u,wr.cell? ⟨g,j*3+2,none⟩=some u:=by
     have Y:j*3+2<((MD l j).flatMap Kca).length:=by rw[hown.1];omega
     exact⟨_,(hown.cellAt (j*3+2) Tf).trans (Eaa Y)⟩
    exact qb
  ·obtain rfl:j=l.length:=by omega
   have HM:Hid (MD l l.length=l.map xi):=by show _=_;unfold MD;simp
   exact Mc
theorem Gu(x:Kh)(b:List Kh):∀ (a:List Kh),((a++x::b).flatMap lba).set (a.length*4+3) (.int .i64 0)=(a++qi x::b).flatMap lba
 | []=>rfl
 |y::a=>by
  have h:(y::a).length*4+3=(a.length*4+3)+1+1+1+1:=by simp only[jaa];omega
  rw[h];show(Value.int .i64 y.op::Value.int .i64 y.n::Value.string (vh y.name)::Value.int .i64 y.pos::(a++x::b).flatMap lba).set _ _=Value.int .i64 y.op::Value.int .i64 y.n::Value.string (vh y.name)::Value.int .i64 y.pos::(a++qi x::b).flatMap lba;rw[Yba,Yba,Yba,Yba,Gu x b a]
def LD(l:List Kh)(k:Nat):List Kh:=(l.take k).map qi++l.drop k
theorem UJ(l:List Kh)(k:Nat)(h:k<l.length):((LD l k).flatMap lba).set (k*4+3) (.int .i64 0)=(LD l (k+1)).flatMap lba:=by unfold LD;rw[taa h,Caa h,Zaa];have:=Gu l[k] (l.drop (k+1)) ((l.take k).map qi);rw[show((l.take k).map qi).length=k by simp;omega]at this;rw[this];simp
theorem sq(l:List Kh)(hl:l.length≤100000)(v:Value)(w:World)(J:Wh w v l):Calls Tryz.prog 40 #[v] w fun e w'=>∃ A c,e = .returned (.slice A l.length c)∧w'.ownsRow w.heap.size 46 4 (.slice A l.length c) l.length ((l.map qi).flatMap lba)∧Below w.heap.size w w':=by
 have O:=kaa (QK v l.length _ w J Tf (ol l));obtain⟨_,A0,c0,rfl,_,_⟩:=id J;clear J;go_enter Tryz.func40,Tryz.ntmps40;go_wp2_with (go_at_call 103;(with_reducible refine O.out.mono ?_);rintro e w2 ⟨A,c,rfl,hown,E⟩);have H:=kaa hown;have G:=kaa E;clear hown E;go_loopw [9] (fun k wr=>∃ j:Nat,j≤l.length∧k = .int .i64 j∧wr.ownsRow w.heap.size 46 4 (.slice A l.length c) l.length ((LD l j).flatMap lba)∧Below w.heap.size w wr) (fun k _=>l.length - (intOf k).toNat);case atStart=>exact⟨0,laa _,rfl,H.out,G.out⟩
 case round =>
  obtain⟨j,hj,rfl,hown,hb⟩:=hrel;have HO:=kaa hown;have HB:=kaa hb;by_cases I:j<l.length
  ·have hlt:=hown.lt;rcases hown.2 with⟨h,Z⟩|⟨g,Q,cur,h,hg,hh,_,_,ad,hcur⟩;·exact absurd Z Tf
   ·cases h;have hst:=HO.out.stored (j*4+3) (.int .i64 0);rw[UJ l j I]at hst;have HST:=kaa hst;have HG:=kaa hg;have hx:=hown.frozenAt (j*4+3);have L:(j:Int)<(l.length:Int):=by omega
    obtain⟨u,hu⟩:∃ u,wr.cell? ⟨g,j*4+3,none⟩=some u:=by
     have Y:j*4+3<((LD l j).flatMap lba).length:=by rw[hown.1];omega
     exact⟨_,(hown.cellAt (j*4+3) Tf).trans (Eaa Y)⟩
    exact qb
  ·obtain rfl:j=l.length:=by omega
   have HM:Hid (LD l l.length=l.map qi):=by show _=_;unfold LD;simp
   exact Mc
end Go.Proofs.YtjcihcncljihoaaGreatDoor

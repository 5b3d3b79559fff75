/- Chapter 05 (programs), joined: StrI, StrM. -/
import Derived.Test.YtjcihcncljihoaaGreatDoorPb21
set_option maxRecDepth 100000
set_option maxHeartbeats 16000000
namespace Go.Proofs.YtjcihcncljihoaaGreatDoor
open Go Go.RowKit
set_option linter.unusedVariables false
open Bool renaming true_and→cea
open Go.Act renaming put→Uba
open Go.AllReadyH renaming cons→Wba,nil→Zba
open Go.Lib renaming hid→kaa
open Go.RowKit.Below renaming refl→Gaa
open List renaming getElem_cons_succ→Rda,getElem_cons_zero→dca,getElem_toArray→eea,setIfInBounds_toArray→Vba,set_cons_succ→Yba,set_cons_zero→Xba
open Or renaming inl→Tba,inr→dea
open bi renaming below→aca
open Go.Proofs.Tryz renaming prog→maa
theorem Ka{P:Prop}(h:P:=by clear hR ha hge;go_enter Tryz.func112,Tryz.ntmps112;go_wp2_with (first|(go_at_call 156;(with_reducible refine(HC.out).mono ?_);rintro e w1 ⟨rfl,hb1⟩)|(go_at_call 158;(with_reducible refine(HD.out _ hb1).mono ?_);rintro e w2 ⟨rfl,hb2⟩));go_ret;exact⟨Bh HR.out.symm,bt hb1 hb2⟩):P:=h
theorem ND{w:World}{b o:Nat}{u:Value}(h:w.cell? ⟨b,o,none⟩=some u):b<w.heap.size:=by
 rcases Nat.lt_or_ge b w.heap.size with E|A;·exact E
 ·unfold World.cell? at h;rw[Array.getElem?_eq_none A]at h;cases h
theorem vO(x:St)(ev fv:Value)(w:World)(b9:x.reg.length≤1000000)(b8:x.name.length≤1000000)(b5:x.e.length≤100000)(b6:x.f.length≤100000)(bW:∀ y∈x.e,y.name.length≤1000000)(bX:∀ y∈x.f,y.name.length≤1000000)(he:Wh w ev x.e)(hf:Wh w fv x.f)(hE:Xj w):Calls maa 157 #[YC x ev fv] w fun e w'=>e = .returned (.bool (!Vl x))∧Below w.heap.size w w':=by
 have bZ:=kaa (eN x);obtain⟨S1,bs⟩:∃ S1,Hid (vh (Ii x.kind.toNat)=S1):=⟨_,rfl⟩;have a7:Hid (∀ u,Calls maa 196 #[.int .i64 x.kind] u fun e w'=>e = .returned (.string S1)∧Below u.heap.size u w'):=fun u=>by rw[← bs.out];exact yF x.kind u
 obtain⟨A1,c1,rfl,_⟩:=Wh.shape he;obtain⟨A2,c2,rfl,_⟩:=Wh.shape hf;have bI:Hid (SB (w.alloc (.cells #[.int .i64 x.kind,.string (vh x.reg),.string (vh x.name),.slice A1 x.e.length c1,.slice A2 x.f.length c2,.int .i64 x.n,.int .i64 x.body,.int .i64 x.els,.int .i64 x.pos] 44)) w.heap.size x (.slice A1 x.e.length c1) (.slice A2 x.f.length c2)):=vl w x _ _;have HE:=kaa he;have HF:=kaa hf;have O:=kaa hE;have HB:=kaa (And.intro bW bX);obtain⟨F,a6⟩:∃ F,Hid ((!Vl x)=F):=⟨_,rfl⟩;rw[a6.out];clear he hf hE bW bX;unfold YC;go_enter Tryz.func157,Tryz.ntmps157;go_upto_region 2 with(go_at_call 196;(with_reducible refine(a7.out _).mono ?_);rintro r w3 ⟨rfl,a5⟩);have I:Hid (Below w.heap.size w (w3.alloc (.cells #[.string S1] 9))):=bt (bt (al w _) a5) (al _ _);have ao:=kaa ((bI.out.below a5).below (al w3 (.cells #[.string S1] 9)));have Q:Hid ((w3.alloc (.cells #[.string S1] 9)).cell? ⟨w3.heap.size,0,none⟩=some (.string S1)):=Uh _ _ _ _ _ rfl;clear a5 bI;obtain⟨M,b0⟩:∃ M,Hid (w.heap.size=M):=⟨_,rfl⟩;rw[b0.out]at ao ⊢;generalize w3.heap.size=hb at Q ⊢;generalize World.alloc w3 _=Y at I ao Q ⊢;have HK:Hid (∀ c∈([114,110,101,102,107]:List UInt8),∀ u,Below Y.heap.size Y u→Calls maa 197 #[.string ⟨#[c]⟩,.pointer (some ⟨hb,0,none⟩)] u fun e w'=>e = .returned (.bool (jj x c))∧u=w'):=fun c hc u L=>by have b7:hb<Y.heap.size:=ND Q.out;exact PJ x.kind.toNat c hc hb u ((L.cell (p:=⟨hb,0,none⟩) b7).trans (by rw[Q.out,bs.out]))
 have aT:=kaa (HK.out 107 Uf Y (Gaa _ _));obtain⟨sl,s0,s1,s2,s3,s4,s5,s6,s7,s8,cb⟩:=ao.out;obtain⟨RN,aW⟩:∃ r,(if jj x 107=true then decide (1≤x.n)&&decide (x.n≤8)else x.n==0)=r:=⟨_,rfl⟩;have af:=kaa aW;have bg:Hid (nQ x=(decide (1≤x.kind)&&decide (x.kind<15)&&decide (0≤x.pos)&&decide (x.pos≤4000)&&RN)):=by show _=_;rw[← aW];rfl
 obtain⟨bk,bV⟩:∃ r,jj x 107=r:=⟨_,rfl⟩;rw[bV]at aT af;have Z:Hid (∀ c∈([114,110,101,102]:List UInt8),∀ u,Below Y.heap.size Y u→Calls maa 197 #[.string ⟨#[c]⟩,.pointer (some ⟨hb,0,none⟩)] u fun e w'=>e = .returned (.bool (jj x c))∧u=w'):=fun c hc u L=>HK.out c (by simp only[List.mem_cons,List.not_mem_nil,or_false]at hc ⊢;rcases hc with h|h|h|h<;>simp[h]) u L;clear aW bV HK;go_upto_if 17 with(go_at_call 197;(with_reducible refine aT.out.mono ?_);rintro e w9 ⟨rfl,rfl⟩);go_cut [7]from 18 to 25 (fun s wx=>s = .bool RN∧Y=wx);case first =>
  cases bk;·have ad:Hid ((x.n==0)=RN):=af.out;go_wp2_with fail;go_meet;exact⟨by rw[← ad.out],rfl⟩
  ·have ad:Hid ((decide (1≤x.n)&&decide (x.n≤8))=RN):=af.out;cases q1:decide (1≤x.n)
   ·have aU:Hid (RN=false):=by show _=_;rw[← ad.out,q1];rfl
    go_wp2_with fail;go_meet;exact⟨by rw[aU.out],rfl⟩
   ·have aU:Hid (RN=decide (x.n≤8)):=by show _=_;rw[← ad.out,q1];rfl
    cases q2:decide (x.n≤8);all_goals go_wp2_with fail;go_meet;exact⟨by rw[aU.out,q2],rfl⟩
 case rest =>
  obtain⟨rfl,rfl⟩:=hcut;obtain⟨OK,aV⟩:∃ r,nQ x=r:=⟨_,rfl⟩;have bh:Hid ((decide (1≤x.kind)&&decide (x.kind<15)&&decide (0≤x.pos)&&decide (x.pos≤4000)&&RN)=OK):=by show _=_;rw[← bg.out,aV]
  have av:Hid (F=!(OK&&xo (jj x 114) x.reg&&xo (jj x 110) x.name&&tm (jj x 101) x.e&&tm (jj x 102) x.f)):=by show _=_;rw[← a6.out,bZ.out,aV]
  clear aV bg af aT;go_upto_region 8 with fail;go_cut [8]from 26 to 46 (fun s wx=>s = .bool OK∧Y=wx);case first =>cases a1:decide (1≤x.kind)<;>cases a2:decide (x.kind<15)<;>cases a3:decide (0≤x.pos)<;>cases a4:decide (x.pos≤4000)<;>cases RN;all_goals have HV:=bh.out;simp only[a1,a2,a3,a4,Bool.and_true,Bool.and_false]at HV;subst HV;go_wp2_with fail;go_meet;exact⟨rfl,rfl⟩
  case rest =>
   obtain⟨rfl,rfl⟩:=hcut;clear s0 s5 s6 s7 s8;cases OK
   ·have bY:Hid (F=true):=by show _=_;rw[av.out];rfl
    go_upto_region 9 with fail;go_quiet (fail);go_wp2_with fail;go_ret;exact⟨Bh bY.out.symm,dk I.out _⟩
   ·have J:Hid (F=!(xo (jj x 114) x.reg&&xo (jj x 110) x.name&&tm (jj x 101) x.e&&tm (jj x 102) x.f)):=by show _=_;rw[av.out,cea]
    have HS:Hid (∀ u,Below Y.heap.size Y u→(fun u=>u.cell? ⟨M,1,none⟩=some (.string (vh x.reg))∧u.cell? ⟨M,2,none⟩=some (.string (vh x.name))∧u.cell? ⟨M,3,none⟩=some (.slice A1 x.e.length c1)∧u.cell? ⟨M,4,none⟩=some (.slice A2 x.f.length c2)) u):=fun u L=>by have h:=ao.out.below L;exact⟨h.c1,h.c2,h.c3,h.c4⟩
    obtain⟨bR,bU⟩:∃ b,jj x 114=b:=⟨_,rfl⟩;obtain⟨TR,a0⟩:∃ t,xo bR x.reg=t:=⟨_,rfl⟩;have bf:=kaa (Z.out 114 Uf);rw[bU]at bf J;rw[a0]at J;have b4:Hid (∀ u,Below Y.heap.size Y u→Calls maa 199 #[.bool bR,.string (vh x.reg)] u fun e w'=>e = .returned (.bool TR)∧Below u.heap.size u w'):=fun u L=>by rw[← a0];exact OJ bR x.reg b9 u (O.out.below (bt I.out L))
    obtain⟨bN,bT⟩:∃ b,jj x 110=b:=⟨_,rfl⟩;obtain⟨TN,aZ⟩:∃ t,xo bN x.name=t:=⟨_,rfl⟩;have bb:=kaa (Z.out 110 Uf);rw[bT]at bb J;rw[aZ]at J;have b3:Hid (∀ u,Below Y.heap.size Y u→Calls maa 199 #[.bool bN,.string (vh x.name)] u fun e w'=>e = .returned (.bool TN)∧Below u.heap.size u w'):=fun u L=>by rw[← aZ];exact OJ bN x.name b8 u (O.out.below (bt I.out L))
    obtain⟨bE,bL⟩:∃ b,jj x 101=b:=⟨_,rfl⟩;obtain⟨TE,aX⟩:∃ t,tm bE x.e=t:=⟨_,rfl⟩;have a8:=kaa (Z.out 101 Uf);rw[bL]at a8 J;rw[aX]at J;have b1:Hid (∀ u,Below Y.heap.size Y u→Calls maa 200 #[.bool bE,.slice A1 x.e.length c1] u fun e w'=>e = .returned (.bool TE)∧Below u.heap.size u w'):=fun u L=>by rw[← aX];exact NJ bE x.e b5 HB.out.1 _ u (aca HE.out (bt I.out L)) (O.out.below (bt I.out L))
    obtain⟨bF,bS⟩:∃ b,jj x 102=b:=⟨_,rfl⟩;obtain⟨TF,aY⟩:∃ t,tm bF x.f=t:=⟨_,rfl⟩;have a9:=kaa (Z.out 102 Uf);rw[bS]at a9 J;rw[aY]at J;have b2:Hid (∀ u,Below Y.heap.size Y u→Calls maa 200 #[.bool bF,.slice A2 x.f.length c2] u fun e w'=>e = .returned (.bool TF)∧Below u.heap.size u w'):=fun u L=>by rw[← aY];exact NJ bF x.f b6 HB.out.2 _ u (aca HF.out (bt I.out L)) (O.out.below (bt I.out L))
    clear bU a0 bT aZ bL aX bS aY;go_upto_region 9 with fail;have HC:TR=false∨(TR=true∧TN=false)∨(TR=true∧TN=true∧TE=false)∨(TR=true∧TN=true∧TE=true∧TF=false)∨(TR=true∧TN=true∧TE=true∧TF=true):=by cases TR<;>cases TN<;>cases TE<;>cases TF<;>simp
    rcases HC with h|⟨h,g⟩|⟨h,g,f⟩|⟨h,g,f,d⟩|⟨h,g,f,d⟩;all_goals
     (try subst h);(try subst g);(try subst f);(try subst d);refine wp_region_held_drew (S:=(fun u=>u.cell? ⟨M,1,none⟩=some (.string (vh x.reg))∧u.cell? ⟨M,2,none⟩=some (.string (vh x.name))∧u.cell? ⟨M,3,none⟩=some (.slice A1 x.e.length c1)∧u.cell? ⟨M,4,none⟩=some (.slice A2 x.f.length c2))) Vf (HS.out _ (dm (Gaa _ _))) (fun E=>?_);first
      |(refine wpAnyH_take (i:=0) (v:=?_) rfl Vf Vf Vf (fun _ _ _ h=>h) (Tba ⟨by rfl,?_⟩) Xf ?_;rotate_left;(intro w0 A;(try dsimp only at A);go_simp;(try with_reducible rfl)))
      |(refine wpAnyH_take (i:=0) (v:=undef) rfl Vf Vf Vf (fun _ _ _ h=>h) (dea ⟨by rfl,rfl⟩) Xf ?_)
     (try simp only[Uba,eea,dca,Vba,Xba,Yba]);first
      |(refine wpAnyH_take (i:=1) (v:=?_) rfl Vf Vf Vf (fun _ _ _ h=>h) (Tba ⟨by rfl,?_⟩) Xf ?_;rotate_left;(intro w0 A;(try dsimp only at A);go_simp;(try with_reducible rfl)))
      |(refine wpAnyH_take (i:=1) (v:=undef) rfl Vf Vf Vf (fun _ _ _ h=>h) (dea ⟨by rfl,rfl⟩) Xf ?_)
     (try simp only[Uba,eea,Rda,dca,Vba,Xba,Yba]);first
      |(refine wpAnyH_take (i:=2) (v:=?_) rfl Vf Vf Vf (fun _ _ _ h=>h) (Tba ⟨by rfl,?_⟩) Xf ?_;rotate_left;(intro w0 A;(try dsimp only at A);go_simp;(try with_reducible rfl)))
      |(refine wpAnyH_take (i:=2) (v:=undef) rfl Vf Vf Vf (fun _ _ _ h=>h) (dea ⟨by rfl,rfl⟩) Xf ?_)
     (try simp only[Uba,eea,Rda,dca,Vba,Xba,Yba]);first
      |(refine wpAnyH_take (i:=3) (v:=?_) rfl Vf Vf Vf (fun _ _ _ h=>h) (Tba ⟨by rfl,?_⟩) Xf ?_;rotate_left;(intro w0 A;(try dsimp only at A);go_simp;(try with_reducible rfl)))
      |(refine wpAnyH_take (i:=3) (v:=undef) rfl Vf Vf Vf (fun _ _ _ h=>h) (dea ⟨by rfl,rfl⟩) Xf ?_)
     (try simp only[Uba,eea,Rda,dca,Vba,Xba,Yba]);first
      |(refine wpAnyH_take (i:=4) (v:=?_) rfl Vf Vf Vf (fun _ _ _ h=>h) (Tba ⟨by rfl,?_⟩) Xf ?_;rotate_left;(intro w0 A;(try dsimp only at A);go_simp;(try with_reducible rfl)))
      |(refine wpAnyH_take (i:=4) (v:=undef) rfl Vf Vf Vf (fun _ _ _ h=>h) (dea ⟨by rfl,rfl⟩) Xf ?_)
     (try simp only[Uba,eea,Rda,dca,Vba,Xba,Yba]);first
      |(refine wpAnyH_take (i:=6) (v:=?_) rfl Vf Vf Vf (fun _ _ _ h=>h) (Tba ⟨by rfl,?_⟩) Xf ?_;rotate_left;(intro w0 A;(try dsimp only at A);go_simp;(try with_reducible rfl)))
      |(refine wpAnyH_take (i:=6) (v:=undef) rfl Vf Vf Vf (fun _ _ _ h=>h) (dea ⟨by rfl,rfl⟩) Xf ?_)
     (try simp only[Uba,eea,Rda,dca,Vba,Xba,Yba]);first
      |(refine wpAnyH_take (i:=7) (v:=?_) rfl Vf Vf Vf (fun _ _ _ h=>h) (Tba ⟨by rfl,?_⟩) Xf ?_;rotate_left;(intro w0 A;(try dsimp only at A);go_simp;(try with_reducible rfl)))
      |(refine wpAnyH_take (i:=7) (v:=undef) rfl Vf Vf Vf (fun _ _ _ h=>h) (dea ⟨by rfl,rfl⟩) Xf ?_)
     (try simp only[Uba,eea,Rda,dca,Vba,Xba,Yba]);first
      |(refine wpAnyH_take (i:=5) (v:=undef) rfl Vf Vf Vf (fun _ _ _ h=>h) (dea ⟨by rfl,rfl⟩) Xf ?_)
      |(clear E;refine wpAnyH_ready (rs:=[5]) Vf Yf ?_;refine Wba rfl (fun K G=>?_) Zba;go_simp;go_at_call 197;(with_reducible refine(bf.out _ (Wo)).mono ?_);rintro e wR ⟨rfl,rfl⟩;dsimp only;refine G.out _ _ (HS.out _ (Wo)) (fun E=>?_);clear G K)
     (try simp only[Uba,eea,Rda,dca,Vba,Xba,Yba]);first
      |(refine wpAnyH_take (i:=8) (v:=undef) rfl Vf Vf Vf (fun _ _ _ h=>h) (dea ⟨by rfl,rfl⟩) Xf ?_)
      |(clear E;refine wpAnyH_ready (rs:=[8]) Vf Yf ?_;refine Wba rfl (fun K G=>?_) Zba;go_simp;go_at_call 199;(with_reducible refine(b4.out _ (Wo)).mono ?_);rintro e v1 ⟨rfl,H⟩;have h1:Below Y.heap.size Y v1:=bt (Wo) H;clear H;dsimp only;refine G.out _ _ (HS.out _ (Wo)) (fun E=>?_);clear G K)
     (try simp only[Uba,eea,Rda,dca,Vba,Xba,Yba]);first
      |(refine wpAnyH_take (i:=9) (v:=?_) rfl Vf Vf Vf (fun _ _ _ h=>h) (Tba ⟨by rfl,?_⟩) Xf ?_;rotate_left;(intro w0 A;(try dsimp only at A);go_simp;(try with_reducible rfl)))
      |(refine wpAnyH_take (i:=9) (v:=undef) rfl Vf Vf Vf (fun _ _ _ h=>h) (dea ⟨by rfl,rfl⟩) Xf ?_)
     (try simp only[Uba,eea,Rda,dca,Vba,Xba,Yba]);first
      |(refine wpAnyH_take (i:=10) (v:=?_) rfl Vf Vf Vf (fun _ _ _ h=>h) (Tba ⟨by rfl,?_⟩) Xf ?_;rotate_left;(intro w0 A;(try dsimp only at A);go_simp;(try with_reducible rfl)))
      |(refine wpAnyH_take (i:=10) (v:=undef) rfl Vf Vf Vf (fun _ _ _ h=>h) (dea ⟨by rfl,rfl⟩) Xf ?_)
     (try simp only[Uba,eea,Rda,dca,Vba,Xba,Yba]);first
      |(refine wpAnyH_take (i:=11) (v:=?_) rfl Vf Vf Vf (fun _ _ _ h=>h) (Tba ⟨by rfl,?_⟩) Xf ?_;rotate_left;(intro w0 A;(try dsimp only at A);go_simp;(try with_reducible rfl)))
      |(refine wpAnyH_take (i:=11) (v:=undef) rfl Vf Vf Vf (fun _ _ _ h=>h) (dea ⟨by rfl,rfl⟩) Xf ?_)
     (try simp only[Uba,eea,Rda,dca,Vba,Xba,Yba]);first
      |(refine wpAnyH_take (i:=12) (v:=?_) rfl Vf Vf Vf (fun _ _ _ h=>h) (Tba ⟨by rfl,?_⟩) Xf ?_;rotate_left;(intro w0 A;(try dsimp only at A);go_simp;(try with_reducible rfl)))
      |(refine wpAnyH_take (i:=12) (v:=undef) rfl Vf Vf Vf (fun _ _ _ h=>h) (dea ⟨by rfl,rfl⟩) Xf ?_)
     (try simp only[Uba,eea,Rda,dca,Vba,Xba,Yba]);first
      |(refine wpAnyH_take (i:=13) (v:=?_) rfl Vf Vf Vf (fun _ _ _ h=>h) (Tba ⟨by rfl,?_⟩) Xf ?_;rotate_left;(intro w0 A;(try dsimp only at A);go_simp;(try with_reducible rfl)))
      |(refine wpAnyH_take (i:=13) (v:=undef) rfl Vf Vf Vf (fun _ _ _ h=>h) (dea ⟨by rfl,rfl⟩) Xf ?_)
     (try simp only[Uba,eea,Rda,dca,Vba,Xba,Yba]);first
      |(refine wpAnyH_take (i:=15) (v:=?_) rfl Vf Vf Vf (fun _ _ _ h=>h) (Tba ⟨by rfl,?_⟩) Xf ?_;rotate_left;(intro w0 A;(try dsimp only at A);go_simp;(try with_reducible rfl)))
      |(refine wpAnyH_take (i:=15) (v:=undef) rfl Vf Vf Vf (fun _ _ _ h=>h) (dea ⟨by rfl,rfl⟩) Xf ?_)
     (try simp only[Uba,eea,Rda,dca,Vba,Xba,Yba]);first
      |(refine wpAnyH_take (i:=16) (v:=?_) rfl Vf Vf Vf (fun _ _ _ h=>h) (Tba ⟨by rfl,?_⟩) Xf ?_;rotate_left;(intro w0 A;(try dsimp only at A);go_simp;(try with_reducible rfl)))
      |(refine wpAnyH_take (i:=16) (v:=undef) rfl Vf Vf Vf (fun _ _ _ h=>h) (dea ⟨by rfl,rfl⟩) Xf ?_)
     (try simp only[Uba,eea,Rda,dca,Vba,Xba,Yba]);first
      |(refine wpAnyH_take (i:=14) (v:=undef) rfl Vf Vf Vf (fun _ _ _ h=>h) (dea ⟨by rfl,rfl⟩) Xf ?_)
      |(clear E;refine wpAnyH_ready (rs:=[14]) Vf Yf ?_;refine Wba rfl (fun K G=>?_) Zba;go_simp;go_at_call 197;(with_reducible refine(bb.out _ (Wo)).mono ?_);rintro e wN ⟨rfl,rfl⟩;dsimp only;refine G.out _ _ (HS.out _ (Wo)) (fun E=>?_);clear G K)
     (try simp only[Uba,eea,Rda,dca,Vba,Xba,Yba]);first
      |(refine wpAnyH_take (i:=17) (v:=undef) rfl Vf Vf Vf (fun _ _ _ h=>h) (dea ⟨by rfl,rfl⟩) Xf ?_)
      |(clear E;refine wpAnyH_ready (rs:=[17]) Vf Yf ?_;refine Wba rfl (fun K G=>?_) Zba;go_simp;go_at_call 199;(with_reducible refine(b3.out _ (Wo)).mono ?_);rintro e v2 ⟨rfl,H⟩;have h2:Below Y.heap.size Y v2:=bt (Wo) H;clear H;dsimp only;refine G.out _ _ (HS.out _ (Wo)) (fun E=>?_);clear G K)
     (try simp only[Uba,eea,Rda,dca,Vba,Xba,Yba]);first
      |(refine wpAnyH_take (i:=18) (v:=?_) rfl Vf Vf Vf (fun _ _ _ h=>h) (Tba ⟨by rfl,?_⟩) Xf ?_;rotate_left;(intro w0 A;(try dsimp only at A);go_simp;(try with_reducible rfl)))
      |(refine wpAnyH_take (i:=18) (v:=undef) rfl Vf Vf Vf (fun _ _ _ h=>h) (dea ⟨by rfl,rfl⟩) Xf ?_)
     (try simp only[Uba,eea,Rda,dca,Vba,Xba,Yba]);first
      |(refine wpAnyH_take (i:=19) (v:=?_) rfl Vf Vf Vf (fun _ _ _ h=>h) (Tba ⟨by rfl,?_⟩) Xf ?_;rotate_left;(intro w0 A;(try dsimp only at A);go_simp;(try with_reducible rfl)))
      |(refine wpAnyH_take (i:=19) (v:=undef) rfl Vf Vf Vf (fun _ _ _ h=>h) (dea ⟨by rfl,rfl⟩) Xf ?_)
     (try simp only[Uba,eea,Rda,dca,Vba,Xba,Yba]);first
      |(refine wpAnyH_take (i:=20) (v:=?_) rfl Vf Vf Vf (fun _ _ _ h=>h) (Tba ⟨by rfl,?_⟩) Xf ?_;rotate_left;(intro w0 A;(try dsimp only at A);go_simp;(try with_reducible rfl)))
      |(refine wpAnyH_take (i:=20) (v:=undef) rfl Vf Vf Vf (fun _ _ _ h=>h) (dea ⟨by rfl,rfl⟩) Xf ?_)
     (try simp only[Uba,eea,Rda,dca,Vba,Xba,Yba]);first
      |(refine wpAnyH_take (i:=21) (v:=?_) rfl Vf Vf Vf (fun _ _ _ h=>h) (Tba ⟨by rfl,?_⟩) Xf ?_;rotate_left;(intro w0 A;(try dsimp only at A);go_simp;(try with_reducible rfl)))
      |(refine wpAnyH_take (i:=21) (v:=undef) rfl Vf Vf Vf (fun _ _ _ h=>h) (dea ⟨by rfl,rfl⟩) Xf ?_)
     (try simp only[Uba,eea,Rda,dca,Vba,Xba,Yba]);first
      |(refine wpAnyH_take (i:=22) (v:=?_) rfl Vf Vf Vf (fun _ _ _ h=>h) (Tba ⟨by rfl,?_⟩) Xf ?_;rotate_left;(intro w0 A;(try dsimp only at A);go_simp;(try with_reducible rfl)))
      |(refine wpAnyH_take (i:=22) (v:=undef) rfl Vf Vf Vf (fun _ _ _ h=>h) (dea ⟨by rfl,rfl⟩) Xf ?_)
     (try simp only[Uba,eea,Rda,dca,Vba,Xba,Yba]);first
      |(refine wpAnyH_take (i:=24) (v:=?_) rfl Vf Vf Vf (fun _ _ _ h=>h) (Tba ⟨by rfl,?_⟩) Xf ?_;rotate_left;(intro w0 A;(try dsimp only at A);go_simp;(try with_reducible rfl)))
      |(refine wpAnyH_take (i:=24) (v:=undef) rfl Vf Vf Vf (fun _ _ _ h=>h) (dea ⟨by rfl,rfl⟩) Xf ?_)
     (try simp only[Uba,eea,Rda,dca,Vba,Xba,Yba]);first
      |(refine wpAnyH_take (i:=25) (v:=?_) rfl Vf Vf Vf (fun _ _ _ h=>h) (Tba ⟨by rfl,?_⟩) Xf ?_;rotate_left;(intro w0 A;(try dsimp only at A);go_simp;(try with_reducible rfl)))
      |(refine wpAnyH_take (i:=25) (v:=undef) rfl Vf Vf Vf (fun _ _ _ h=>h) (dea ⟨by rfl,rfl⟩) Xf ?_)
     (try simp only[Uba,eea,Rda,dca,Vba,Xba,Yba]);first
      |(refine wpAnyH_take (i:=23) (v:=undef) rfl Vf Vf Vf (fun _ _ _ h=>h) (dea ⟨by rfl,rfl⟩) Xf ?_)
      |(clear E;refine wpAnyH_ready (rs:=[23]) Vf Yf ?_;refine Wba rfl (fun K G=>?_) Zba;go_simp;go_at_call 197;(with_reducible refine(a8.out _ (Wo)).mono ?_);rintro e wE ⟨rfl,rfl⟩;dsimp only;refine G.out _ _ (HS.out _ (Wo)) (fun E=>?_);clear G K)
     (try simp only[Uba,eea,Rda,dca,Vba,Xba,Yba]);first
      |(refine wpAnyH_take (i:=26) (v:=undef) rfl Vf Vf Vf (fun _ _ _ h=>h) (dea ⟨by rfl,rfl⟩) Xf ?_)
      |(clear E;refine wpAnyH_ready (rs:=[26]) Vf Yf ?_;refine Wba rfl (fun K G=>?_) Zba;go_simp;go_at_call 200;(with_reducible refine(b1.out _ (Wo)).mono ?_);rintro e v3 ⟨rfl,H⟩;have h3:Below Y.heap.size Y v3:=bt (Wo) H;clear H;dsimp only;refine G.out _ _ (HS.out _ (Wo)) (fun E=>?_);clear G K)
     (try simp only[Uba,eea,Rda,dca,Vba,Xba,Yba]);first
      |(refine wpAnyH_take (i:=27) (v:=?_) rfl Vf Vf Vf (fun _ _ _ h=>h) (Tba ⟨by rfl,?_⟩) Xf ?_;rotate_left;(intro w0 A;(try dsimp only at A);go_simp;(try with_reducible rfl)))
      |(refine wpAnyH_take (i:=27) (v:=undef) rfl Vf Vf Vf (fun _ _ _ h=>h) (dea ⟨by rfl,rfl⟩) Xf ?_)
     (try simp only[Uba,eea,Rda,dca,Vba,Xba,Yba]);first
      |(refine wpAnyH_take (i:=28) (v:=?_) rfl Vf Vf Vf (fun _ _ _ h=>h) (Tba ⟨by rfl,?_⟩) Xf ?_;rotate_left;(intro w0 A;(try dsimp only at A);go_simp;(try with_reducible rfl)))
      |(refine wpAnyH_take (i:=28) (v:=undef) rfl Vf Vf Vf (fun _ _ _ h=>h) (dea ⟨by rfl,rfl⟩) Xf ?_)
     (try simp only[Uba,eea,Rda,dca,Vba,Xba,Yba]);first
      |(refine wpAnyH_take (i:=29) (v:=?_) rfl Vf Vf Vf (fun _ _ _ h=>h) (Tba ⟨by rfl,?_⟩) Xf ?_;rotate_left;(intro w0 A;(try dsimp only at A);go_simp;(try with_reducible rfl)))
      |(refine wpAnyH_take (i:=29) (v:=undef) rfl Vf Vf Vf (fun _ _ _ h=>h) (dea ⟨by rfl,rfl⟩) Xf ?_)
     (try simp only[Uba,eea,Rda,dca,Vba,Xba,Yba]);first
      |(refine wpAnyH_take (i:=30) (v:=?_) rfl Vf Vf Vf (fun _ _ _ h=>h) (Tba ⟨by rfl,?_⟩) Xf ?_;rotate_left;(intro w0 A;(try dsimp only at A);go_simp;(try with_reducible rfl)))
      |(refine wpAnyH_take (i:=30) (v:=undef) rfl Vf Vf Vf (fun _ _ _ h=>h) (dea ⟨by rfl,rfl⟩) Xf ?_)
     (try simp only[Uba,eea,Rda,dca,Vba,Xba,Yba]);first
      |(refine wpAnyH_take (i:=31) (v:=?_) rfl Vf Vf Vf (fun _ _ _ h=>h) (Tba ⟨by rfl,?_⟩) Xf ?_;rotate_left;(intro w0 A;(try dsimp only at A);go_simp;(try with_reducible rfl)))
      |(refine wpAnyH_take (i:=31) (v:=undef) rfl Vf Vf Vf (fun _ _ _ h=>h) (dea ⟨by rfl,rfl⟩) Xf ?_)
     (try simp only[Uba,eea,Rda,dca,Vba,Xba,Yba]);first
      |(refine wpAnyH_take (i:=33) (v:=?_) rfl Vf Vf Vf (fun _ _ _ h=>h) (Tba ⟨by rfl,?_⟩) Xf ?_;rotate_left;(intro w0 A;(try dsimp only at A);go_simp;(try with_reducible rfl)))
      |(refine wpAnyH_take (i:=33) (v:=undef) rfl Vf Vf Vf (fun _ _ _ h=>h) (dea ⟨by rfl,rfl⟩) Xf ?_)
     (try simp only[Uba,eea,Rda,dca,Vba,Xba,Yba]);first
      |(refine wpAnyH_take (i:=34) (v:=?_) rfl Vf Vf Vf (fun _ _ _ h=>h) (Tba ⟨by rfl,?_⟩) Xf ?_;rotate_left;(intro w0 A;(try dsimp only at A);go_simp;(try with_reducible rfl)))
      |(refine wpAnyH_take (i:=34) (v:=undef) rfl Vf Vf Vf (fun _ _ _ h=>h) (dea ⟨by rfl,rfl⟩) Xf ?_)
     (try simp only[Uba,eea,Rda,dca,Vba,Xba,Yba]);first
      |(refine wpAnyH_take (i:=32) (v:=undef) rfl Vf Vf Vf (fun _ _ _ h=>h) (dea ⟨by rfl,rfl⟩) Xf ?_)
      |(clear E;refine wpAnyH_ready (rs:=[32]) Vf Yf ?_;refine Wba rfl (fun K G=>?_) Zba;go_simp;go_at_call 197;(with_reducible refine(a9.out _ (Wo)).mono ?_);rintro e wF ⟨rfl,rfl⟩;dsimp only;refine G.out _ _ (HS.out _ (Wo)) (fun E=>?_);clear G K)
     (try simp only[Uba,eea,Rda,dca,Vba,Xba,Yba]);first
      |(refine wpAnyH_take (i:=35) (v:=undef) rfl Vf Vf Vf (fun _ _ _ h=>h) (dea ⟨by rfl,rfl⟩) Xf ?_)
      |(clear E;refine wpAnyH_ready (rs:=[35]) Vf Yf ?_;refine Wba rfl (fun K G=>?_) Zba;go_simp;go_at_call 200;(with_reducible refine(b2.out _ (Wo)).mono ?_);rintro e v4 ⟨rfl,H⟩;have h4:Below Y.heap.size Y v4:=bt (Wo) H;clear H;dsimp only;refine G.out _ _ (HS.out _ (Wo)) (fun E=>?_);clear G K)
     (try simp only[Uba,eea,Rda,dca,Vba,Xba,Yba]);first
      |(refine wpAnyH_take (i:=36) (v:=?_) rfl Vf Vf Vf (fun _ _ _ h=>h) (Tba ⟨by rfl,?_⟩) Xf ?_;rotate_left;(intro w0 A;(try dsimp only at A);go_simp;(try with_reducible rfl)))
      |(refine wpAnyH_take (i:=36) (v:=undef) rfl Vf Vf Vf (fun _ _ _ h=>h) (dea ⟨by rfl,rfl⟩) Xf ?_)
     (try simp only[Uba,eea,Rda,dca,Vba,Xba,Yba]);first
      |(refine wpAnyH_take (i:=37) (v:=?_) rfl Vf Vf Vf (fun _ _ _ h=>h) (Tba ⟨by rfl,?_⟩) Xf ?_;rotate_left;(intro w0 A;(try dsimp only at A);go_simp;(try with_reducible rfl)))
      |(refine wpAnyH_take (i:=37) (v:=undef) rfl Vf Vf Vf (fun _ _ _ h=>h) (dea ⟨by rfl,rfl⟩) Xf ?_)
     (try simp only[Uba,eea,Rda,dca,Vba,Xba,Yba]);first
      |(refine wpAnyH_take (i:=38) (v:=?_) rfl Vf Vf Vf (fun _ _ _ h=>h) (Tba ⟨by rfl,?_⟩) Xf ?_;rotate_left;(intro w0 A;(try dsimp only at A);go_simp;(try with_reducible rfl)))
      |(refine wpAnyH_take (i:=38) (v:=undef) rfl Vf Vf Vf (fun _ _ _ h=>h) (dea ⟨by rfl,rfl⟩) Xf ?_)
     (try simp only[Uba,eea,Rda,dca,Vba,Xba,Yba]);refine wpAnyH_done Vf ?_ _;go_wp2_with fail;go_ret;exact⟨Bh (by rw[J.out];rfl),bt I.out (by repeat (first|assumption|refine dk ?_ _|refine mo ?_))⟩
structure fQ (x:St):Prop where
 r:x.reg.length≤1000000
 nm:x.name.length≤1000000
 e:x.e.length≤100000
 f:x.f.length≤100000
 en:∀ y∈x.e,y.name.length≤1000000
 fn:∀ y∈x.f,y.name.length≤1000000
theorem yM(l:List Sv)(E:∀ x∈l,fQ x.s)(w:World)(H:∀ x∈l,Wh w x.ev x.s.e∧Wh w x.fv x.s.f)(I:Xj w):SO l w:=fun x A u G =>
 vO x.s x.ev x.fv u (E x A).r (E x A).nm (E x A).e (E x A).f (E x A).en (E x A).fn (aca (H x A).1 G) (aca (H x A).2 G) (I.below G)
theorem DG(l:List St):Jj l=(decide (l.length≤40)&&l.all Vl&&decide (0≤Ip false l)&&decide (Ip false l≤12)):=rfl
theorem all_map(pl:List Sv):(pl.map (·.s)).all Vl=pl.all (fun x=>Vl x.s):=by rw[List.all_map];rfl
theorem EC(pl:List Sv)(O:pl.length≤100000)(hB:∀ x∈pl,fQ x.s)(v:Value)(w:World)(A:Kp w v pl)(H:Xj w):Calls maa 112 #[v] w fun e w'=>e = .returned (.bool (Jj (pl.map (·.s))))∧Below w.heap.size w w':=by
 have hR:=DG (pl.map (·.s));rw[all_map,List.length_map]at hR;obtain⟨I,c0,rfl,M⟩:=A.shape;by_cases L:40<pl.length
 ·have HR:Hid (Jj (pl.map (·.s))=false):=by show _=_;rw[hR,decide_eq_false Tf];rfl
  have E:decide ((40:Int)<(pl.length:Int))=true:=by simp;omega
  clear H A hB hR;go_enter Tryz.func112,Tryz.ntmps112;exact ve
 ·have E:decide ((40:Int)<(pl.length:Int))=false:=by simp;omega
  have HC:=kaa (kC pl O _ w A (yM pl hB w A.2 H));have J:=uJ pl Tf (.slice I pl.length c0);rw[decide_eq_true (by omega:pl.length≤40)]at hR;have hge:=nu false (pl.map (·.s));have HD:Hid (∀ u,Below w.heap.size w u→Calls maa 158 #[.slice I pl.length c0,.int .i64 0] u fun e w'=>e = .returned (.int .i64 (Ip false (pl.map (·.s))))∧Below u.heap.size u w'):=fun u Y=>J u (A.below Y);clear H A hB J;generalize Ip false (pl.map (·.s))=d at hR HD hge;cases ha:pl.all (fun x=>Vl x.s);·rw[ha]at HC hR;have HR:Hid (Jj (pl.map (·.s))=false):=hR;clear hR ha HD;go_enter Tryz.func112,Tryz.ntmps112;go_wp2_with (go_at_call 156;(with_reducible refine(HC.out).mono ?_);rintro e w1 ⟨rfl,hb1⟩);go_ret;exact⟨Bh HR.out.symm,hb1⟩
  ·rw[ha]at HC hR;by_cases G:d = -1;·subst G;have HR:Hid (Jj (pl.map (·.s))=false):=hR;exact Ka
   ·have Q:(d != -1)=true:=by simpa using G
    rw[decide_eq_true (by omega:0≤d)]at hR;have HR:Hid (Jj (pl.map (·.s))=decide (d≤12)):=by show _=_;rw[hR];rfl
    exact Ka
end Go.Proofs.YtjcihcncljihoaaGreatDoor

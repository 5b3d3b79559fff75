/- Chapter 05 (programs), joined: PalL, DepA, LwA, StmB, StmD, StmE, SchOff, SchApp, SchN, StmG, StmH, StmPlB, LawPlain. -/
import Derived.Test.YtjcihcncljihoaaGreatDoorPb06
import Derived.LoopIn
import Derived.LoopNIn
import Derived.OwnWalkIn
import Derived.RangeFuncBound
import Derived.RangeFuncCalls
import Derived.RangeFuncLeaves
import Derived.RangeFuncNested
import Derived.RegionIn
import Derived.Shelf.Abstract
import Derived.Shelf.RegionOpen
import Derived.TacticsInMore
set_option maxRecDepth 100000
set_option maxHeartbeats 20000000
namespace Go.Proofs.YtjcihcncljihoaaGreatDoor
open Go Go.RowKit
set_option linter.unusedVariables false
open And renaming intro→Rba
open Go.Act renaming put→Uba
open Go.AllReadyH renaming cons→Wba,nil→Zba
open Go.Lib renaming hid→kaa
open Go.RowKit.Below renaming refl→Gaa
open Go.Value.slice renaming injEq→bca
open Go.World renaming cell?_setCell_far→Qba,cell?_setCell_other→fca,cell?_setCell_same'→gca,setCell→eca,size_alloc→gba
open Int renaming eq_ofNat_of_zero_le→Faa,natCast_nonneg→Sba
open Kh renaming cells→lba
open List renaming getElem_cons_zero→dca,getElem_mem→dba,length_append→xaa,length_cons→jaa,setIfInBounds_toArray→Vba,set_cons_succ→Yba,set_cons_zero→Xba
open Nat renaming le_of_lt→nba,le_refl→aaa,le_succ→sba,le_trans→yba,lt_of_lt_of_le→mba,zero_le→laa
open Or renaming inl→Tba
open Sl renaming nil→cca
open bi renaming below→aca
open Go.Proofs.Tryz renaming prog→maa
theorem ia{P:Prop}(h:P:=by
 clear hP hP2;generalize (tk l n).pos=ps at hps HP2;go_enter Tryz.func146,Tryz.ntmps146;go_wp2_with (first
  |(go_at_call 188;refine(HC.out).mono ?_;rintro e w1 ⟨hk1,A1,n1,c1,a1,e1,p1',rfl,hp1,hf1,hv1⟩;obtain⟨rfl,rfl,rfl,hnx⟩:=hv1;obtain⟨A2,c2,hV2,hcc2⟩:=hnx.shape;(simp only[Value.slice.injEq]at hV2);obtain⟨hA2,hn2,hc2⟩:=hV2;subst hA2 hc2 hn2;have hNX:=Lib.hid hnx;have HF1:=Lib.hid hf1;have hB1:=(al w _).trans (hk1.below (Nat.le_of_lt (by rw[World.size_alloc];omega)));have HP1:=Lib.hid hp1;obtain⟨pl,p0,p1,p2,p3,p4,_,_,_,_⟩:=hp1)
  |(go_at_call 117;refine(Wz x HOK.out (.slice A1 x.flat.length c1) w1 hNX.out.nods HLX.out).mono ?_;rintro r w3 ⟨rfl,hb3⟩;have hps3:=((hB1.trans (hb3.mono hB1.size)).cell (p:=⟨bt0,offt+n*4+3,none⟩) hbt).trans hps;have hHP3:=HP1.out.below hb3;obtain⟨rl,r0,r1,r2,r3,r4,_,_,_,_⟩:=hHP3))
 go_quiet (fail);go_wp2_with fail;refine bodyPost_ret (Oi rfl _ _ _) rfl ?_;exact rp HP2.out rfl rfl rfl (Sl.nil _ _ _) (dk (hB1.trans (hb3.mono hB1.size)) _) (ai _ _ _) (Bp.nil _ _ _)):P:=h
theorem ja{P:Prop}(h:P:=by
 clear hP hP2;generalize (tk l n).pos=ps at hps HP2;go_enter Tryz.func96,Tryz.ntmps96;go_wp2_with (first
  |(go_at_call 152;refine(HC.out).mono ?_;rintro e w1 ⟨hb1,A1,n1,c1,t1,e1,p1,rfl,hr1⟩;obtain⟨rfl,rfl,rfl,hnx,hfx⟩:=hr1;obtain⟨A2,c2,hV2,hcc2⟩:=hnx.shape;(simp only[Value.slice.injEq]at hV2);obtain⟨hA2,hn2,hc2⟩:=hV2;subst hA2 hc2 hn2;have hNX:=Lib.hid (hnx.below (al w1 (.cells #[.slice A1 x.flat.length c1,.int .i64 t,.int .i64 0,.int .i64 0] 164)));have hps1:=(hb1.cell (p:=⟨bt0,offt+n*4+3,none⟩) hbt).trans hps;have hbt1:=Nat.lt_of_lt_of_le hbt hb1.size)
  |(go_at_call 122;refine(yz x HOK.out (.slice A1 x.flat.length c1) (w1.alloc (.cells #[.slice A1 x.flat.length c1,.int .i64 t,.int .i64 0,.int .i64 0] 164)) hNX.out HLX.out).mono ?_;rintro r w' ⟨rfl,rfl⟩))
 go_quiet (fail);go_wp2_with fail;refine bodyPost_ret (Oi rfl _ _ _) rfl ?_;exact Kq HP2.out rfl rfl rfl (Sl.nil _ _ _) (dk (bt hb1 (al _ _)) _) (ai _ _ _)):P:=h
theorem Ta{P:Prop}(h:P:=by have e:=fun j y (hc:w.cell? ⟨b,j,none⟩=some y)=>(World.cell?_of_block (a:=⟨b,j,none⟩) hb).trans hc;exact⟨Nat.lt_of_lt_of_le h.lt hk.size,e _ _ h.c0,e _ _ h.c1,e _ _ h.c2,e _ _ h.c3,e _ _ h.c4,e _ _ h.c5,e _ _ h.c6,e _ _ h.c7,e _ _ h.c8,fun j=>(World.frozen?_of_block (a:=⟨b,j,none⟩) hb).trans (h.fr j)⟩):P:=h
theorem ib{P:Prop}(h:P:=by
 clear hnm;go_wp2_with fail;go_quiet (fail);go_wp2_with fail;go_roundw;case rel =>
  refine⟨dk HBW.out _,j+1,by omega,by go_num,fun j' h hlt=>?_⟩;by_cases hjj:j'<j;·exact HALL.out j' h hjj
  ·exact HT2.out j' h (by omega)
 case measure=>simp[intOf];omega):P:=h
theorem sc{P:Prop}(h:P:=by exact MC l hl g v i d (by omega) W hpW hi (kk+1) _ (fun u2 hk2 hp2=>IH (i+1) u2 hp2 ((hc.keep hk hp.lt).keep hk2 hpW.lt))):P:=h
theorem Gc{P:Prop}(h:P:=by go_wp2_with fail;go_quiet (fail);go_wp2_with fail;go_ret;exact⟨Bh (HF.out (by simp[Om, *])).symm,dk HBW.out _⟩):P:=h
theorem Rc{P:Prop}(h:P:=by clear hnm;go_wp2_with fail;go_quiet (fail);go_wp2_with fail;go_ret;exact⟨Bh HF2.out.symm,dk HBW.out _⟩):P:=h
theorem Zc{P:Prop}(h:P:=by
 rcases Nat.lt_or_ge q w.heap.size with hlt|hge;·exact hlt
 ·rw[Array.getElem?_eq_none hge]at hh;cases hh):P:=h
theorem gd{P:Prop}(h:P:=by rw[(ha.kid j hj).fin (e.ok_ks ho _ (List.getElem_mem hj)),← Jq i e.ks j hj]at this;exact this):P:=h
theorem se{P:Prop}(h:P:=by rw[VE (by omega)];exact wM l hl g v i _ u hp hc (by omega) _):P:=h
theorem te{P:Prop}(h:P:=by go_wp2_with fail;go_ret;exact⟨Bh HN.out.symm,Below.refl _ _⟩):P:=h
theorem ue{P:Prop}(h:P:=by refine⟨fun z t h=>?_,fun e p h=>by cases h⟩;cases h;exact hx):P:=h
theorem Fe{P:Prop}(h:P:=by intro w0 hSw;(try dsimp only at hSw);go_simp;(try with_reducible rfl)):P:=h
theorem Re{P:Prop}(h:P:=by go_wp2_with fail;go_ret;exact⟨Bh HY.out.symm,HBW.out⟩):P:=h
theorem Te{P:Prop}(h:P:=by rw[e];exact LJ l hl htx g v i _ u hp hc hi _ h33 h45 h40):P:=h
theorem Ue{P:Prop}(h:P:=by have h1:=(e.ks[j]).deep_le;have h2:=Ft.kid_lt j hj;omega):P:=h
theorem Kf{P:Prop}(h:P:=by rw[h1]at e;injection e with e;omega):P:=h
theorem Xf{P:Prop}(h:P:=by assumption):P:=h
theorem Ag{P:Prop}(h:P:=by simp;omega):P:=h
theorem Ng{P:Prop}(h:P:=by simp;omega):P:=h
structure FJ (l:List xh) (f:Nat→Dm) (n:Nat) (R:Dm) (i:Nat) (d:Int) (k g:Nat) (v:Value) (w:World) (x:Value) (wr:World):Prop where
 keep:uh g w wr
 box:wr.cell? ⟨w.heap.size,0,none⟩=some (.pointer (some ⟨g,0,none⟩))
 lt:w.heap.size < wr.heap.size
 cur:∃ (A:Option Addr) (m c:Nat) (a e p:Int) (r:Dm),x = .slice A m c∧Cj wr g v a d e p∧dj (w.heap.size+1) x∧ru l i k r wr x a e p ∧
  R=Xy f n l r∧(∀ y t,r = .inl (y,t)→i < t∧t≤l.length∧y.flat.length≤t - i)∧(∀ e p,r = .inr (e,p)→1≤e)
theorem xK(n:Nat)(L:n<5)(w:World):Calls maa 217 #[] w fun e w'=>∃ b A c,e = .returned (.slice (some ⟨b,0,none⟩) 5 5)∧b<w'.heap.size∧w.heap.size≤b∧dj w.heap.size (.slice A (cn n).length c)∧w'.cell? ⟨b,n,none⟩=some (.slice A (cn n).length c)∧Tr w' (.slice A (cn n).length c) (cn n)∧Below w.heap.size w w':=by
 go_enter Tryz.func217,Tryz.ntmps217
 go_wp2_with fail
 go_ret
 have J:=rk w 0 1 rfl
 have E:=rk (w.alloc (sO 0)) 1 1 rfl
 have G:=rk ((w.alloc (sO 0)).alloc (sO 1)) 2 4 rfl
 have H:=rk (((w.alloc (sO 0)).alloc (sO 1)).alloc (sO 2)) 3 2 rfl
 have I:=rk ((((w.alloc (sO 0)).alloc (sO 1)).alloc (sO 2)).alloc (sO 3)) 4 3 rfl
 simp only[gba]at E G H I
 refine⟨w.heap.size+1+1+1+1+1,?_⟩
 match n,L with
 |0,_=>exact⟨some ⟨w.heap.size,0,none⟩,1,rfl,by simp only[gba];omega,by omega,Mk _ _ _ _ _ Tf,by simp[go_sem,cn,Rh],(((((J.below (al _ _)).below (al _ _)).below (al _ _)).below (al _ _)).below (al _ _)),nL _ _ _ _ _ _ _⟩
 |1,_=>exact⟨some ⟨w.heap.size+1,0,none⟩,1,rfl,by simp only[gba];omega,by omega,Mk _ _ _ _ _ Tf,by simp[go_sem,cn,Rh],((((E.below (al _ _)).below (al _ _)).below (al _ _)).below (al _ _)),nL _ _ _ _ _ _ _⟩
 |2,_=>exact⟨some ⟨w.heap.size+1+1,0,none⟩,4,rfl,by simp only[gba];omega,by omega,Mk _ _ _ _ _ Tf,by simp[go_sem,cn,Rh],(((G.below (al _ _)).below (al _ _)).below (al _ _)),nL _ _ _ _ _ _ _⟩
 |3,_=>exact⟨some ⟨w.heap.size+1+1+1,0,none⟩,2,rfl,by simp only[gba];omega,by omega,Mk _ _ _ _ _ Tf,by simp[go_sem,cn,Rh],((H.below (al _ _)).below (al _ _)),nL _ _ _ _ _ _ _⟩
 |4,_=>exact⟨some ⟨w.heap.size+1+1+1+1,0,none⟩,3,rfl,by simp only[gba];omega,by omega,Mk _ _ _ _ _ Tf,by simp[go_sem,cn,Rh],(I.below (al _ _)),nL _ _ _ _ _ _ _⟩
theorem Zy(w:World){g b:Nat}(h:g≠b)(x y z q:Value)(o:Nat):((((w.setCell ⟨g,0,none⟩ x).setCell ⟨g,1,none⟩ y).setCell ⟨g,2,none⟩ z).setCell ⟨g,3,none⟩ q).cell? ⟨b,o,none⟩=w.cell? ⟨b,o,none⟩:=by rw[Qba _ _ _ _ h,Qba _ _ _ _ h,Qba _ _ _ _ h,Qba _ _ _ _ h]
theorem go{P:Program}{G:Array Oper}{Q:Exit→Act→World→Prop}{I:Region.Mode}{S S2:World→Prop}(E:∀ w,S2 w→S w):∀ (fuel:Nat) (A:Array Bool) (a:Act) (w:World),wpAnyH P I G Q S2 fuel A a w→wpAnyH P I G Q S fuel A a w
 |0,_,_,_,h=>h
 |fuel+1,_,_,_,h=>⟨h.1,fun i hi=>wpOp_mono (fun a' w' H=>⟨E _ H.1,go E fuel _ a' w' H.2⟩) (h.2 i hi)⟩
theorem kt(n:Nat):(cn n).length=(Rh n).length:=by unfold cn;simp
theorem dE(n j:Nat)(h:j<(cn n).length):(cn n)[j]=sg ((Rh n)[j]'(by rw[kt]at h;exact h)):=by exact List.getElem_map (l:=Rh n) sg
theorem ku{g:Nat}{a b:World}(h:uh g a b){bx:Nat}{u:Value}(E:bx≠g)(A:bx<a.heap.size)(G:a.cell? ⟨bx,0,none⟩=some u):b.cell? ⟨bx,0,none⟩=some u:=(h.cell (p:=⟨bx,0,none⟩) A E).trans G
theorem fH{w:World}{A:Nat}{v:Value}{nd:Kh}{E G:List Kh}(h:w.ownsRow A 46 4 v (1+E.length+G.length) ((lba nd++E.flatMap lba)++G.flatMap lba)):nk w v (nd::(E++G))∧dj A v:=by
 refine⟨⟨?_,Bp.own h⟩,dj.own h⟩;have h2:=Ti h;have e1:(nd::(E++G)).length=1+E.length+G.length:=by simp only[jaa,xaa];omega
 have e2:(nd::(E++G)).flatMap lba=(lba nd++E.flatMap lba)++G.flatMap lba:=by simp
 exact Jf
def Hu(nd:Kh)(x:Ex):Dm→Dm
 | .inl (y,t)=>.inl (.two nd x y,t)
 | .inr e=>.inr e
theorem pH{l:List xh}{i t k:Nat}{nd:Kh}{x:Ex}{r:Dm}{w5 H:World}{V E:Value}{a e p:Int}(O:i<t)(ht:t<l.length)(Z:x.flat.length≤t - i)(h:ru l (t+1) k r w5 V a e p){A:List Kh}(Q:A.length≤l.length - (t+1))(M:∀ y t,r = .inl (y,t)→A=y.flat)(G:nk H E (nd::(x.flat++A))):ru l i k (Hu nd x r) H E a e p:=by
 cases r with
 |inl q =>
  obtain⟨y,t2⟩:=q
  have Y:=M y t2 rfl
  subst Y
  exact⟨h.1,h.2.1,h.2.2.1,G⟩
 |inr q =>
  obtain⟨I,J,L,h4,_⟩:=h
  exact⟨I,J,L,by omega,_,G.nods,by simp only[jaa,xaa];omega⟩
theorem zO{f:Nat→Dm}{n:Nat}{l:List xh}{x:Ex}{t:Nat}(G:oL l f)(A:opAt n l t≠0)(H:n≠2):PD f n l x t=Xy f n l (Hu ⟨opAt n l t,0,[],(tk l t).pos⟩ x (f (t+1))):=by
 cases E:f (t+1)with
 |inl q =>
  obtain⟨y,I⟩:=q
  rw[Ws G A E,if_neg H];rfl
 |inr e=>rw[Jz A E];rfl
theorem BM{f:Nat→Dm}{n:Nat}{l:List xh}{x:Ex}{t:Nat}(G:oL l f)(A:opAt n l t≠0)(H:n=2):PD f n l x t=Hu ⟨opAt n l t,0,[],(tk l t).pos⟩ x (f (t+1)):=by
 cases E:f (t+1)with
 |inl q =>
  obtain⟨y,I⟩:=q
  rw[Ws G A E,if_pos H];rfl
 |inr e=>rw[Jz A E];rfl
theorem cE(l:List xh)(hl:l.length≤100000)(g:Nat)(v:Value)(i:Nat)(d:Int)(kk k m n:Nat)(hn:m+1+n=5)(w:World)(hp:Cj w g v i d 0 0)(hc:Jm g v l w)(Q8:∀ (i:Nat) u,Cj u g v i d 0 0→Jm g v l u→Calls maa 188 #[.pointer (some ⟨g,0,none⟩),.int .i64 ((n:Int)+1)] u (fk l g v i d k (Dj (ti l kk) l m i) u)):Calls maa 188 #[.pointer (some ⟨g,0,none⟩),.int .i64 n] w (fk l g v i d k (Dj (ti l kk) l (m+1) i) w):=by
 obtain⟨i0,S3,TV,TW,TX⟩:=info_parts dt;have SZ:oL l (Dj (ti l kk) l m):=Nk (Kk l kk) m;have L0:=kaa SZ;have HF:=kaa Q8;have N3:=kaa hp;have PV:=kaa hc;have HR:Hid (Dj (ti l kk) l (m+1) i=Xy (Dj (ti l kk) l m) n l (Dj (ti l kk) l m i)):=by
  have e:4 - m=n:=by omega
  show _=_
  rw[Dj,e]
  cases Dj (ti l kk) l m i with
  |inl r=>rfl
  |inr e=>rfl
 have XT:((n:Int)==5)=false:=by rw[beq_eq_false_iff_ne];omega
 have N0:Hid (∀ u:World,Calls maa 217 #[] u fun e w'=>∃ b A c,e = .returned (.slice (some ⟨b,0,none⟩) 5 5)∧b<w'.heap.size∧u.heap.size≤b∧dj u.heap.size (.slice A (cn n).length c)∧w'.cell? ⟨b,n,none⟩=some (.slice A (cn n).length c)∧Tr w' (.slice A (cn n).length c) (cn n)∧Below u.heap.size u w'):=fun u=>xK n Tf u;have VX:=hp.lt;clear Q8 SZ hp hc;generalize Dj (ti l kk) l (m+1) i=R at HR;go_enter Tryz.func188,Tryz.ntmps188;go_wp2_with (first
  |(go_at_call 217;refine(N0.out _).mono ?_;rintro e w1 ⟨b,A0,c0,rfl,W4,_,_,U2,U3,N7⟩;have hB:=bt (al _ _) N7;have K5:w1.cell? ⟨w.heap.size,0,none⟩=some (.pointer (some ⟨g,0,none⟩)):=(N7.cell (p:=⟨w.heap.size,0,none⟩) (by show w.heap.size<_;rw[gba];omega)).trans (Uh w _ _ 0 _ rfl);have MY:w.heap.size<w1.heap.size:=mba Ig N7.size)
  |(go_at_call 188;refine(HF.out i _ (N3.out.below hB) (PV.out.keep (uh.of hB) N3.out.lt)).mono ?_;rintro e w2 ⟨K4,A2,n2,c2,a2,e2,p2,rfl,S8,SY,TS⟩))
 go_loopw [5,6,7,8] (fun x _ _ _ wr=>FJ l (Dj (ti l kk) l m) n R i d k g v w x wr) (fun _ _ _ _ wr=>if intOf ((wr.cell? ⟨g,3,none⟩).getD (.int .i64 0))=0 then l.length+1 - (intOf ((wr.cell? ⟨g,1,none⟩).getD (.int .i64 0))).toNat else 0);case atStart =>exact⟨(uh.of hB).trans K4,ku K4 Tf MY K5,mba MY K4.size,A2,n2,c2,a2,e2,p2,_,rfl,S8,SY.mono MY,TS,HR.out,fun y t h=>(by have:=L0.out.good i y t h;exact⟨this.1,this.2.1,this.2.2.1⟩),fun e p h=>(L0.out.bad i e p h).1⟩
 case round =>
  obtain⟨N9,K5,K7,A,mm,c,a,e,p,r,rfl,OV,QZ,M1,MZ,M8,M5⟩:=hrel
  match r,M1,MZ,M8,M5 with
  | .inr (e2,p2),M1,MZ,M8,M5 =>
   obtain⟨rfl,rfl,UZ,U0,gl,U5,S0⟩:=M1;have W5:=M5 _ _ rfl;have W6:(e==0)=false:=by rw[beq_eq_false_iff_ne];omega
   have K8:=kaa OV;obtain⟨pl,p0,p1,p2,p3,p4,MS,MT,MU,MV⟩:=OV;go_wp2_with fail;go_ret;rw[MZ];exact⟨N9,A,mm,c,a,e,p,rfl,K8.out,QZ.mono (sba _),rfl,rfl,UZ,U0,gl,U5,S0⟩
  | .inl (x,t),M1,MZ,M8,M5 =>
   obtain⟨rfl,rfl,rfl,S7⟩:=M1;obtain⟨S4,VV,TU⟩:=M8 _ _ rfl;have K8:=kaa OV;have PY:=kaa N9;have PZ:=kaa S7;have PW:=kaa QZ;have N4:Hid (R=PD (Dj (ti l kk) l m) n l x t):=MZ;have NZ:Hid (Jm g v l wr):=PV.out.keep N9 N3.out.lt;have O7:(cn n).length≤1000:=by rw[kt];have:=xy n;omega
   have O6:0<(cn n).length:=by rw[kt];exact wy n Tf
   have N1:=kaa (Rba O7 O6);obtain⟨pl,p0,p1,p2,p3,p4,MS,MT,MU,MV⟩:=OV;clear MZ M8 M5 N9 S7 QZ M1 O7 O6 hB K4 S8 SY TS N7 U2 U3 MY;go_upto_region 6 with(first
    |(go_at_call 217;refine(N0.out _).mono ?_;rintro e w3 ⟨b3,A3,c3,rfl,O4,_,_,O2,M7,M0⟩;have L4:=(M0.cell (p:=⟨w.heap.size,0,none⟩) K7).trans K5;have O8:=mba K7 M0.size)
    |(go_at_call 155;refine(PM l hl g w.heap.size v t d (cn n) N1.out.1 N1.out.2 _ _ M7 (K8.out.below M0) (NZ.out.belowB (M0.mono (nba pl))) L4 O8).mono ?_;rintro e w4 ⟨R9,z,rfl,hz⟩))
   have LS:=bt M0 R9;rcases hz with⟨rfl,hno⟩|⟨j,rfl,hjl,hyes⟩
   ·have HZ:Hid (R = .inl (x,t)):=N4.out.trans (Vs (yy fun j' U8=>by
     have S5:j'<(cn n).length:=by rw[kt];exact U8
     have:=hno _ (dba S5);rw[dE n j' S5]at this;exact this))
    go_wp2_with fail;go_ret;rw[HZ.out];exact⟨PY.out.trans (uh.of LS),A,mm,c,t,0,0,rfl,K8.out.below LS,PW.out.mono (sba _),rfl,rfl,rfl,PZ.out.below LS⟩
   ·have Q0:j<(Rh n).length:=by rw[kt]at hjl;exact hjl
    rw[dE n j hjl]at hyes;have OU:=Mo n _ (dba Q0);have N2:Hid (opAt n l t=(Rh n)[j]):=Fz (dba Q0) hyes;have OS:=Zj hyes;have Q1:opAt n l t≠0:=by rw[N2.out];omega
    have P8:Hid ((cn n)[j]=sg ((Rh n)[j])):=dE n j hjl;generalize (Rh n)[j]=o at OU N2 P8;have Q4:∃ ps,Hid (ps=(tk l t).pos):=⟨_,rfl⟩;obtain⟨ps,RW⟩:=Q4;go_upto_region 7 with fail;go_cut [7] (fun s wx=>∃ hb:Nat,s = .pointer (some ⟨hb,0,none⟩)∧w4.heap.size≤hb∧Hj wx hb (.int .i64 o) (.int .i64 0) (.string ⟨#[]⟩) (.int .i64 ps)∧Below w4.heap.size w4 wx);case first =>
     have NW:=K8.out.below LS;obtain⟨L,G,ct,VW,U4,N8,O1⟩:=((NZ.out.belowB (LS.mono (nba K8.out.lt))).now NW.lt).at_ Tf;have Q5:=(O1 t OS).pos;rw[← rj OS,← RW.out]at Q5;subst VW;have O5:=(LS.cell (p:=⟨w.heap.size,0,none⟩) K7).trans K5;have O9:=NW.c0;have PT:=NW.c1;have MX:w.heap.size<w4.heap.size:=mba K7 LS.size;have LU:=NW.lt;have P9:Hid (∀ u:World,Calls maa 220 #[.string (vh (sg o))] u fun e w'=>e = .returned (.int .i64 o)∧Below u.heap.size u w'):=fun u=>cP o OU.1 OU.2 u;have RY:=kaa hjl;clear O1 U4 p0 p1 p2 p3 p4 MS MT MU MV pl NW O2 M7 O4 L4 K5 hyes Q1;have WW:(0:Int)≤(t:Int):=Sba _;have WY:(t:Int)<(l.length:Int):=by omega
     have V8:(0:Int)≤(n:Int):=Sba _;have V9:(n:Int)<5:=by omega
     have W8:(0:Int)≤(j:Int):=Sba _;have W9:(j:Int)<((cn n).length:Int):=by omega
     clear K7 OS S4 VV TU OU Q0 HF PV N3 K8 NZ PY PZ PW N4 N2 L0 HR;refine wp_region_held_drew (S:=fun w'=>w'.cell? ⟨w.heap.size,0,none⟩=some (.pointer (some ⟨g,0,none⟩))∧w'.cell? ⟨g,0,none⟩=some (.slice (some ⟨L,G,none⟩) l.length ct)∧w'.cell? ⟨g,1,none⟩=some (.int .i64 t)∧w'.cell? ⟨L,G+t*4+3,none⟩=some (.int .i64 ps)) Vf ⟨O5,O9,PT,Q5⟩ (fun O=>?_);refine wpAnyH_take (i:=1) (v:=?_) rfl Vf Vf Vf (fun _ _ _ h=>h) (Tba ⟨by rfl,?_⟩) Xf ?_;rotate_left;·exact Fe
     (try simp only[Uba,Vba]);refine wpAnyH_take (i:=4) (v:=?_) rfl Vf Vf Vf (fun _ _ _ h=>h) (Tba ⟨by rfl,?_⟩) Xf ?_;rotate_left;·exact Fe
     (try simp only[Uba]);refine wpAnyH_take (i:=8) (v:=?_) rfl Vf Vf Vf (fun _ _ _ h=>h) (Tba ⟨by rfl,?_⟩) Xf ?_;rotate_left;·exact Fe
     (try simp only[Uba]);refine wpAnyH_take (i:=9) (v:=?_) rfl Vf Vf Vf (fun _ _ _ h=>h) (Tba ⟨by rfl,?_⟩) Xf ?_;rotate_left;·exact Fe
     (try simp only[Uba]);refine wpAnyH_take (i:=10) (v:=?_) rfl Vf Vf Vf (fun _ _ _ h=>h) (Tba ⟨by rfl,?_⟩) Xf ?_;rotate_left;·exact Fe
     (try simp only[Uba]);refine wpAnyH_take (i:=11) (v:=?_) rfl Vf Vf Vf (fun _ _ _ h=>h) (Tba ⟨by rfl,?_⟩) Xf ?_;rotate_left;·exact Fe
     (try simp only[Uba]);refine wpAnyH_take (i:=12) (v:=?_) rfl Vf Vf Vf (fun _ _ _ h=>h) (Tba ⟨by rfl,?_⟩) Xf ?_;rotate_left;·exact Fe
     (try simp only[Uba]);refine wpAnyH_take (i:=13) (v:=?_) rfl Vf Vf Vf (fun _ _ _ h=>h) (Tba ⟨by rfl,?_⟩) Xf ?_;rotate_left;·exact Fe
     (try simp only[Uba]);refine wpAnyH_take (i:=14) (v:=?_) rfl Vf Vf Vf (fun _ _ _ h=>h) (Tba ⟨by rfl,?_⟩) Xf ?_;rotate_left;·exact Fe
     (try simp only[Uba]);refine wpAnyH_take (i:=15) (v:=?_) rfl Vf Vf Vf (fun _ _ _ h=>h) (Tba ⟨by rfl,?_⟩) Xf ?_;rotate_left;·exact Fe
     (try simp only[Uba]);refine wpAnyH_take (i:=16) (v:=?_) rfl Vf Vf Vf (fun _ _ _ h=>h) (Tba ⟨by rfl,?_⟩) Xf ?_;rotate_left;·exact Fe
     (try simp only[Uba]);refine wpAnyH_take (i:=17) (v:=?_) rfl Vf Vf Vf (fun _ _ _ h=>h) (Tba ⟨by rfl,?_⟩) Xf ?_;rotate_left;·exact Fe
     (try simp only[Uba]);refine wpAnyH_take (i:=18) (v:=?_) rfl Vf Vf Vf (fun _ _ _ h=>h) (Tba ⟨by rfl,?_⟩) Xf ?_;rotate_left;·exact Fe
     (try simp only[Uba]);refine wpAnyH_ready (rs:=[0,20]) Vf Yf ?_;refine Wba rfl (fun K hK=>?_) ?_
     ·go_simp;refine(N0.out _).mono ?_;rintro e w5 ⟨b5,A5,c5,rfl,K2,O3,NY,M4,LX,Y⟩;dsimp only;have It:w.heap.size<(w4.drew).heap.size:=MX;have L9:g<(w4.drew).heap.size:=LU;have NX:L<(w4.drew).heap.size:=N8;have L6:=(Y.cell (p:=⟨w.heap.size,0,none⟩) It).trans O.1;have K4:=(Y.cell (p:=⟨g,0,none⟩) L9).trans O.2.1;have L7:=(Y.cell (p:=⟨g,1,none⟩) L9).trans O.2.2.1;have L8:=(Y.cell (p:=⟨L,G+t*4+3,none⟩) NX).trans O.2.2.2;refine hK.out _ _ ⟨L6,K4,L7,L8⟩ (fun LV=>?_);obtain⟨bs,I,cs,QU,QY,K3,K6⟩:=LX.at_ N1.out.2;cases QU;have PU:=NY _ _ _ rfl;have NS:=K6 j RY.out;rw[P8.out]at NS;refine go (S2:=fun w'=>(w'.cell? ⟨w.heap.size,0,none⟩=some (.pointer (some ⟨g,0,none⟩))∧w'.cell? ⟨g,0,none⟩=some (.slice (some ⟨L,G,none⟩) l.length ct)∧w'.cell? ⟨g,1,none⟩=some (.int .i64 t)∧w'.cell? ⟨L,G+t*4+3,none⟩=some (.int .i64 ps))∧w'.cell? ⟨b5,n,none⟩=some (.slice (some ⟨bs,I,none⟩) (cn n).length c5)∧w'.cell? ⟨bs,I+j,none⟩=some (.string (vh (sg o)))) (fun w0 h=>h.1) _ _ _ _ ?_;have H:(fun w'=>(w'.cell? ⟨w.heap.size,0,none⟩=some (.pointer (some ⟨g,0,none⟩))∧w'.cell? ⟨g,0,none⟩=some (.slice (some ⟨L,G,none⟩) l.length ct)∧w'.cell? ⟨g,1,none⟩=some (.int .i64 t)∧w'.cell? ⟨L,G+t*4+3,none⟩=some (.int .i64 ps))∧w'.cell? ⟨b5,n,none⟩=some (.slice (some ⟨bs,I,none⟩) (cn n).length c5)∧w'.cell? ⟨bs,I+j,none⟩=some (.string (vh (sg o)))) w5:=⟨⟨L6,K4,L7,L8⟩,M4,NS⟩;have LY:=mba It Y.size;have K1:=mba L9 Y.size;have LZ:=mba NX Y.size;have U6:(Value.string (vh (sg o)))=Value.string (vh (sg o)):=rfl;clear hK K O LV L6 K4 L7 L8 K6 LX QY;(try simp only[Uba,Vba,Xba,Yba]);refine wpAnyH_take (i:=2) (v:=?_) rfl Vf Vf Vf (fun _ _ _ h=>h) (Tba ⟨by rfl,?_⟩) Xf ?_;rotate_left;·exact Fe
      (try simp only[Uba,Vba]);refine wpAnyH_take (i:=3) (v:=?_) rfl Vf Vf Vf (fun _ _ _ h=>h) (Tba ⟨by rfl,?_⟩) Xf ?_;rotate_left;·exact Fe
      (try simp only[Uba]);refine wpAnyH_take (i:=5) (v:=?_) rfl Vf Vf Vf (fun _ _ _ h=>h) (Tba ⟨by rfl,?_⟩) Xf ?_;rotate_left;·exact Fe
      (try simp only[Uba]);refine wpAnyH_take (i:=6) (v:=?_) rfl Vf Vf Vf (fun _ _ _ h=>h) (Tba ⟨by rfl,?_⟩) Xf ?_;rotate_left;·exact Fe
      (try simp only[Uba]);refine wpAnyH_ready (rs:=[7,20]) Vf Yf ?_;refine Wba rfl (fun K hK=>?_) ?_
      ·go_simp;refine(P9.out _).mono ?_;rintro e w6 ⟨rfl,J⟩;dsimp only;have E:(fun w'=>(w'.cell? ⟨w.heap.size,0,none⟩=some (.pointer (some ⟨g,0,none⟩))∧w'.cell? ⟨g,0,none⟩=some (.slice (some ⟨L,G,none⟩) l.length ct)∧w'.cell? ⟨g,1,none⟩=some (.int .i64 t)∧w'.cell? ⟨L,G+t*4+3,none⟩=some (.int .i64 ps))∧w'.cell? ⟨b5,n,none⟩=some (.slice (some ⟨bs,I,none⟩) (cn n).length c5)∧w'.cell? ⟨bs,I+j,none⟩=some (.string (vh (sg o)))) w6:=⟨⟨(J.cell (p:=⟨w.heap.size,0,none⟩) LY).trans H.1.1,(J.cell (p:=⟨g,0,none⟩) K1).trans H.1.2.1,(J.cell (p:=⟨g,1,none⟩) K1).trans H.1.2.2.1,(J.cell (p:=⟨L,G+t*4+3,none⟩) LZ).trans H.1.2.2.2⟩,(J.cell (p:=⟨b5,n,none⟩) K2).trans H.2.1,(J.cell (p:=⟨bs,I+j,none⟩) K3).trans H.2.2⟩;refine hK.out _ _ E (fun _=>?_);clear hK K;(try simp only[Uba,Vba,Xba,Yba]);refine wpAnyH_take (i:=19) (v:=?_) rfl Vf Vf Vf (fun _ _ _ h=>h) (Tba ⟨by rfl,?_⟩) Xf ?_;rotate_left;·exact Fe
       (try simp only[Uba,Vba]);refine wpAnyH_ready (rs:=[20]) Vf Yf ?_;refine Wba rfl (fun K hK=>?_) Zba;go_simp;have M:=al w6 (.cells #[.int .i64 0,.int .i64 0,.string ⟨#[]⟩,.int .i64 0] 46);have Q:(fun w'=>(w'.cell? ⟨w.heap.size,0,none⟩=some (.pointer (some ⟨g,0,none⟩))∧w'.cell? ⟨g,0,none⟩=some (.slice (some ⟨L,G,none⟩) l.length ct)∧w'.cell? ⟨g,1,none⟩=some (.int .i64 t)∧w'.cell? ⟨L,G+t*4+3,none⟩=some (.int .i64 ps))∧w'.cell? ⟨b5,n,none⟩=some (.slice (some ⟨bs,I,none⟩) (cn n).length c5)∧w'.cell? ⟨bs,I+j,none⟩=some (.string (vh (sg o)))) (w6.alloc (.cells #[.int .i64 0,.int .i64 0,.string ⟨#[]⟩,.int .i64 0] 46)):=⟨⟨(M.cell (p:=⟨w.heap.size,0,none⟩) (mba LY J.size)).trans E.1.1,(M.cell (p:=⟨g,0,none⟩) (mba K1 J.size)).trans E.1.2.1,(M.cell (p:=⟨g,1,none⟩) (mba K1 J.size)).trans E.1.2.2.1,(M.cell (p:=⟨L,G+t*4+3,none⟩) (mba LZ J.size)).trans E.1.2.2.2⟩,(M.cell (p:=⟨b5,n,none⟩) (mba K2 J.size)).trans E.2.1,(M.cell (p:=⟨bs,I+j,none⟩) (mba K3 J.size)).trans E.2.2⟩;refine hK.out _ _ Q (fun _=>?_);clear hK K;(try simp only[Uba,Vba,Xba,Yba]);refine wpAnyH_ready (rs:=[21]) Vf Yf ?_;refine Wba rfl (fun K hK=>?_) Zba;go_simp;have Z:=al w6 (.cells #[.int .i64 o,.int .i64 0,.string ⟨#[]⟩,.int .i64 ps] 46);have N6:(fun w'=>(w'.cell? ⟨w.heap.size,0,none⟩=some (.pointer (some ⟨g,0,none⟩))∧w'.cell? ⟨g,0,none⟩=some (.slice (some ⟨L,G,none⟩) l.length ct)∧w'.cell? ⟨g,1,none⟩=some (.int .i64 t)∧w'.cell? ⟨L,G+t*4+3,none⟩=some (.int .i64 ps))∧w'.cell? ⟨b5,n,none⟩=some (.slice (some ⟨bs,I,none⟩) (cn n).length c5)∧w'.cell? ⟨bs,I+j,none⟩=some (.string (vh (sg o)))) (w6.alloc (.cells #[.int .i64 o,.int .i64 0,.string ⟨#[]⟩,.int .i64 ps] 46)):=⟨⟨(Z.cell (p:=⟨w.heap.size,0,none⟩) (mba LY J.size)).trans E.1.1,(Z.cell (p:=⟨g,0,none⟩) (mba K1 J.size)).trans E.1.2.1,(Z.cell (p:=⟨g,1,none⟩) (mba K1 J.size)).trans E.1.2.2.1,(Z.cell (p:=⟨L,G+t*4+3,none⟩) (mba LZ J.size)).trans E.1.2.2.2⟩,(Z.cell (p:=⟨b5,n,none⟩) (mba K2 J.size)).trans E.2.1,(Z.cell (p:=⟨bs,I+j,none⟩) (mba K3 J.size)).trans E.2.2⟩;refine hK.out _ _ N6 (fun _=>?_);clear hK K;(try simp only[Uba,Vba,Xba,Yba]);refine wpAnyH_done Vf ?_ _;go_wp2_with fail;go_meet;exact⟨w6.heap.size,rfl,yba Y.size J.size,Hj.new _ _ _ _ _ _,bt (bt (mo (Gaa _ _)) Y) (bt J Z)⟩
      ·refine Wba rfl (fun K hK=>?_) Zba;go_simp;have M:=al w5 (.cells #[.int .i64 0,.int .i64 0,.string ⟨#[]⟩,.int .i64 0] 46);have Q:(fun w'=>(w'.cell? ⟨w.heap.size,0,none⟩=some (.pointer (some ⟨g,0,none⟩))∧w'.cell? ⟨g,0,none⟩=some (.slice (some ⟨L,G,none⟩) l.length ct)∧w'.cell? ⟨g,1,none⟩=some (.int .i64 t)∧w'.cell? ⟨L,G+t*4+3,none⟩=some (.int .i64 ps))∧w'.cell? ⟨b5,n,none⟩=some (.slice (some ⟨bs,I,none⟩) (cn n).length c5)∧w'.cell? ⟨bs,I+j,none⟩=some (.string (vh (sg o)))) (w5.alloc (.cells #[.int .i64 0,.int .i64 0,.string ⟨#[]⟩,.int .i64 0] 46)):=⟨⟨(M.cell (p:=⟨w.heap.size,0,none⟩) LY).trans H.1.1,(M.cell (p:=⟨g,0,none⟩) K1).trans H.1.2.1,(M.cell (p:=⟨g,1,none⟩) K1).trans H.1.2.2.1,(M.cell (p:=⟨L,G+t*4+3,none⟩) LZ).trans H.1.2.2.2⟩,(M.cell (p:=⟨b5,n,none⟩) K2).trans H.2.1,(M.cell (p:=⟨bs,I+j,none⟩) K3).trans H.2.2⟩;refine hK.out _ _ Q (fun _=>?_);clear hK K;(try simp only[Uba,Vba,Xba,Yba]);refine wpAnyH_ready (rs:=[7]) Vf Yf ?_;refine Wba rfl (fun K hK=>?_) Zba;go_simp;refine(P9.out _).mono ?_;rintro e w6 ⟨rfl,J⟩;dsimp only;have E:(fun w'=>(w'.cell? ⟨w.heap.size,0,none⟩=some (.pointer (some ⟨g,0,none⟩))∧w'.cell? ⟨g,0,none⟩=some (.slice (some ⟨L,G,none⟩) l.length ct)∧w'.cell? ⟨g,1,none⟩=some (.int .i64 t)∧w'.cell? ⟨L,G+t*4+3,none⟩=some (.int .i64 ps))∧w'.cell? ⟨b5,n,none⟩=some (.slice (some ⟨bs,I,none⟩) (cn n).length c5)∧w'.cell? ⟨bs,I+j,none⟩=some (.string (vh (sg o)))) w6:=⟨⟨(J.cell (p:=⟨w.heap.size,0,none⟩) (mba LY M.size)).trans Q.1.1,(J.cell (p:=⟨g,0,none⟩) (mba K1 M.size)).trans Q.1.2.1,(J.cell (p:=⟨g,1,none⟩) (mba K1 M.size)).trans Q.1.2.2.1,(J.cell (p:=⟨L,G+t*4+3,none⟩) (mba LZ M.size)).trans Q.1.2.2.2⟩,(J.cell (p:=⟨b5,n,none⟩) (mba K2 M.size)).trans Q.2.1,(J.cell (p:=⟨bs,I+j,none⟩) (mba K3 M.size)).trans Q.2.2⟩;refine hK.out _ _ E (fun _=>?_);clear hK K;(try simp only[Uba,Vba,Xba,Yba]);refine wpAnyH_take (i:=19) (v:=?_) rfl Vf Vf Vf (fun _ _ _ h=>h) (Tba ⟨by rfl,?_⟩) Xf ?_;rotate_left;·exact Fe
       (try simp only[Uba,Vba]);have hz:=(Hj.new w5 (.int .i64 0) (.int .i64 0) (.string ⟨#[]⟩) (.int .i64 0) 46).below J;have HZ:=kaa hz;obtain⟨zl,z0,z1,z2,z3,VY,VZ,V0,V5⟩:=hz;refine wpAnyH_ready (rs:=[21]) Vf Yf ?_;refine Wba rfl (fun K hK=>?_) Zba;go_simp;have Z:=ni (Gaa w5.heap.size w6) (aaa _) (.int .i64 o) (.int .i64 0) (.string ⟨#[]⟩) (.int .i64 ps);refine hK.out _ _ (⟨⟨(Z.cell (p:=⟨w.heap.size,0,none⟩) LY).trans E.1.1,(Z.cell (p:=⟨g,0,none⟩) K1).trans E.1.2.1,(Z.cell (p:=⟨g,1,none⟩) K1).trans E.1.2.2.1,(Z.cell (p:=⟨L,G+t*4+3,none⟩) LZ).trans E.1.2.2.2⟩,(Z.cell (p:=⟨b5,n,none⟩) K2).trans E.2.1,(Z.cell (p:=⟨bs,I+j,none⟩) K3).trans E.2.2⟩) (fun _=>?_);clear hK K;(try simp only[Uba,Vba,Xba,Yba]);refine wpAnyH_done Vf ?_ _;go_wp2_with fail;go_meet;exact⟨w5.heap.size,rfl,Y.size,HZ.out.set _ _ _ _,ni (bt (bt (mo (Gaa _ _)) Y) (bt M J)) Y.size _ _ _ _⟩
     ·refine Wba rfl (fun K hK=>?_) Zba;have M:Below w4.heap.size w4 ((w4.alloc (.cells #[.int .i64 0,.int .i64 0,.string ⟨#[]⟩,.int .i64 0] 46)).drew):=mo (al _ _);have XS:w4.heap.size<((w4.alloc (.cells #[.int .i64 0,.int .i64 0,.string ⟨#[]⟩,.int .i64 0] 46)).drew).heap.size:=by show _<(w4.alloc _).heap.size;rw[gba];omega
      have R8:Hj ((w4.alloc (.cells #[.int .i64 0,.int .i64 0,.string ⟨#[]⟩,.int .i64 0] 46)).drew) w4.heap.size (.int .i64 0) (.int .i64 0) (.string ⟨#[]⟩) (.int .i64 0):=(Hj.new w4 _ _ _ _ _).below (mo (Gaa _ _));have UY:=kaa R8;clear R8;have OX:=(M.cell (p:=⟨w.heap.size,0,none⟩) MX).trans O5;have OY:=(M.cell (p:=⟨g,0,none⟩) LU).trans O9;have OZ:=(M.cell (p:=⟨g,1,none⟩) LU).trans PT;have O0:=(M.cell (p:=⟨L,G+t*4+3,none⟩) N8).trans Q5;have Q9:=kaa (Rba OX (Rba OY (Rba OZ O0)));clear OX OY OZ O0;go_simp;refine hK.out _ _ Q9.out (fun _=>?_);clear hK K O;have O:=Q9.out;(try simp only[Uba,Vba,Xba,Yba]);refine wpAnyH_ready (rs:=[0]) Vf Yf ?_;refine Wba rfl (fun K hK=>?_) Zba;go_simp;refine(N0.out _).mono ?_;rintro e w5 ⟨b5,A5,c5,rfl,K2,O3,NY,M4,LX,Y⟩;dsimp only;have It:w.heap.size<((w4.alloc (.cells #[.int .i64 0,.int .i64 0,.string ⟨#[]⟩,.int .i64 0] 46)).drew).heap.size:=(mba MX M.size);have L9:g<((w4.alloc (.cells #[.int .i64 0,.int .i64 0,.string ⟨#[]⟩,.int .i64 0] 46)).drew).heap.size:=(mba LU M.size);have NX:L<((w4.alloc (.cells #[.int .i64 0,.int .i64 0,.string ⟨#[]⟩,.int .i64 0] 46)).drew).heap.size:=(mba N8 M.size);have L6:=(Y.cell (p:=⟨w.heap.size,0,none⟩) It).trans O.1;have K4:=(Y.cell (p:=⟨g,0,none⟩) L9).trans O.2.1;have L7:=(Y.cell (p:=⟨g,1,none⟩) L9).trans O.2.2.1;have L8:=(Y.cell (p:=⟨L,G+t*4+3,none⟩) NX).trans O.2.2.2;refine hK.out _ _ ⟨L6,K4,L7,L8⟩ (fun LV=>?_);obtain⟨bs,I,cs,QU,QY,K3,K6⟩:=LX.at_ N1.out.2;cases QU;have PU:=NY _ _ _ rfl;have NS:=K6 j RY.out;rw[P8.out]at NS;refine go (S2:=fun w'=>(w'.cell? ⟨w.heap.size,0,none⟩=some (.pointer (some ⟨g,0,none⟩))∧w'.cell? ⟨g,0,none⟩=some (.slice (some ⟨L,G,none⟩) l.length ct)∧w'.cell? ⟨g,1,none⟩=some (.int .i64 t)∧w'.cell? ⟨L,G+t*4+3,none⟩=some (.int .i64 ps))∧w'.cell? ⟨b5,n,none⟩=some (.slice (some ⟨bs,I,none⟩) (cn n).length c5)∧w'.cell? ⟨bs,I+j,none⟩=some (.string (vh (sg o)))) (fun w0 h=>h.1) _ _ _ _ ?_;have H:(fun w'=>(w'.cell? ⟨w.heap.size,0,none⟩=some (.pointer (some ⟨g,0,none⟩))∧w'.cell? ⟨g,0,none⟩=some (.slice (some ⟨L,G,none⟩) l.length ct)∧w'.cell? ⟨g,1,none⟩=some (.int .i64 t)∧w'.cell? ⟨L,G+t*4+3,none⟩=some (.int .i64 ps))∧w'.cell? ⟨b5,n,none⟩=some (.slice (some ⟨bs,I,none⟩) (cn n).length c5)∧w'.cell? ⟨bs,I+j,none⟩=some (.string (vh (sg o)))) w5:=⟨⟨L6,K4,L7,L8⟩,M4,NS⟩;have LY:=mba It Y.size;have K1:=mba L9 Y.size;have LZ:=mba NX Y.size;have U6:(Value.string (vh (sg o)))=Value.string (vh (sg o)):=rfl;clear hK K O LV L6 K4 L7 L8 K6 LX QY;(try simp only[Uba,Vba,Xba,Yba]);refine wpAnyH_take (i:=2) (v:=?_) rfl Vf Vf Vf (fun _ _ _ h=>h) (Tba ⟨by rfl,?_⟩) Xf ?_;rotate_left;·exact Fe
      (try simp only[Uba,Vba]);refine wpAnyH_take (i:=3) (v:=?_) rfl Vf Vf Vf (fun _ _ _ h=>h) (Tba ⟨by rfl,?_⟩) Xf ?_;rotate_left;·exact Fe
      (try simp only[Uba]);refine wpAnyH_take (i:=5) (v:=?_) rfl Vf Vf Vf (fun _ _ _ h=>h) (Tba ⟨by rfl,?_⟩) Xf ?_;rotate_left;·exact Fe
      (try simp only[Uba]);refine wpAnyH_take (i:=6) (v:=?_) rfl Vf Vf Vf (fun _ _ _ h=>h) (Tba ⟨by rfl,?_⟩) Xf ?_;rotate_left;·exact Fe
      (try simp only[Uba]);refine wpAnyH_ready (rs:=[7]) Vf Yf ?_;refine Wba rfl (fun K hK=>?_) Zba;go_simp;refine(P9.out _).mono ?_;rintro e w6 ⟨rfl,J⟩;dsimp only;have E:(fun w'=>(w'.cell? ⟨w.heap.size,0,none⟩=some (.pointer (some ⟨g,0,none⟩))∧w'.cell? ⟨g,0,none⟩=some (.slice (some ⟨L,G,none⟩) l.length ct)∧w'.cell? ⟨g,1,none⟩=some (.int .i64 t)∧w'.cell? ⟨L,G+t*4+3,none⟩=some (.int .i64 ps))∧w'.cell? ⟨b5,n,none⟩=some (.slice (some ⟨bs,I,none⟩) (cn n).length c5)∧w'.cell? ⟨bs,I+j,none⟩=some (.string (vh (sg o)))) w6:=⟨⟨(J.cell (p:=⟨w.heap.size,0,none⟩) LY).trans H.1.1,(J.cell (p:=⟨g,0,none⟩) K1).trans H.1.2.1,(J.cell (p:=⟨g,1,none⟩) K1).trans H.1.2.2.1,(J.cell (p:=⟨L,G+t*4+3,none⟩) LZ).trans H.1.2.2.2⟩,(J.cell (p:=⟨b5,n,none⟩) K2).trans H.2.1,(J.cell (p:=⟨bs,I+j,none⟩) K3).trans H.2.2⟩;refine hK.out _ _ E (fun _=>?_);clear hK K;(try simp only[Uba,Vba,Xba,Yba]);refine wpAnyH_take (i:=19) (v:=?_) rfl Vf Vf Vf (fun _ _ _ h=>h) (Tba ⟨by rfl,?_⟩) Xf ?_;rotate_left;·exact Fe
      (try simp only[Uba,Vba]);have hz:=(UY.out.below Y).below J;have HZ:=kaa hz;obtain⟨zl,z0,z1,z2,z3,VY,VZ,V0,V5⟩:=hz;have VT:w4.heap.size≠b5:=by have:((w4.alloc (.cells #[.int .i64 0,.int .i64 0,.string ⟨#[]⟩,.int .i64 0] 46)).drew).heap.size≤b5:=O3;omega
      have VU:w4.heap.size≠bs:=by have:((w4.alloc (.cells #[.int .i64 0,.int .i64 0,.string ⟨#[]⟩,.int .i64 0] 46)).drew).heap.size≤bs:=PU;omega
      refine wpAnyH_ready (rs:=[21]) Vf Yf ?_;refine Wba rfl (fun K hK=>?_) Zba;go_simp;have Z:=ni (Gaa w4.heap.size w6) (aaa _) (.int .i64 o) (.int .i64 0) (.string ⟨#[]⟩) (.int .i64 ps);refine hK.out _ _ (⟨⟨(Z.cell (p:=⟨w.heap.size,0,none⟩) MX).trans E.1.1,(Z.cell (p:=⟨g,0,none⟩) LU).trans E.1.2.1,(Z.cell (p:=⟨g,1,none⟩) LU).trans E.1.2.2.1,(Z.cell (p:=⟨L,G+t*4+3,none⟩) N8).trans E.1.2.2.2⟩,(Zy _ VT _ _ _ _ _).trans E.2.1,(Zy _ VU _ _ _ _ _).trans E.2.2⟩) (fun _=>?_);clear hK K;(try simp only[Uba,Vba,Xba,Yba]);refine wpAnyH_done Vf ?_ _;go_wp2_with fail;go_meet;have SU:Below w4.heap.size w4 w5:=bt M Y;exact⟨w4.heap.size,rfl,aaa _,HZ.out.set _ _ _ _,ni (bt SU J) (aaa _) _ _ _ _⟩
    case rest =>
     obtain⟨hb,rfl,U7,M6,SV⟩:=hcut;have L3:=bt LS SV;have P7:Hid (Cj wc g v t d 0 0):=K8.out.below L3;have Q7:Hid (Jm g v l wc):=NZ.out.belowB (L3.mono (nba pl));have UU:Hid (uh g w wc):=PY.out.trans (uh.of L3);have US:=kaa M6;have RV:Hid (Wh wc (.slice A mm c) x.flat):=aca PZ.out.nods L3;have PX:Hid (hb<wc.heap.size∧hb≠g):=⟨M6.lt,by have:=LS.size;omega⟩;have M2:Hid (w.heap.size≠g):=by show _≠_;omega
     have MW:Hid (w.heap.size<wc.heap.size∧wc.cell? ⟨w.heap.size,0,none⟩=some (.pointer (some ⟨g,0,none⟩))):=⟨mba K7 L3.size,(L3.cell (p:=⟨w.heap.size,0,none⟩) K7).trans K5⟩;have HY:Hid (∀ u,Cj u g v ((t:Int)+1) d 0 0→Jm g v l u→Calls maa 188 #[.pointer (some ⟨g,0,none⟩),.int .i64 ((n:Int)+1)] u (fk l g v (t+1) d k (Dj (ti l kk) l m (t+1)) u)):=fun u h1 h2=>HF.out (t+1) u h1 h2;have L5:=L0.out.good (t+1);have M3:=L0.out.bad (t+1);have UT:Hid (∀ y t2,Dj (ti l kk) l m (t+1) = .inl (y,t2)→y.flat.length≤l.length - (t+1)):=fun y t2 h=>by have:=L5 y t2 h;omega
     have RT:Hid (1+x.flat.length≤maxLen∧(1+x.flat.length)*40≤140737488355328):=by show _∧_;unfold maxLen;constructor<;>omega
     have RU:Hid (∀ q,q≤l.length - (t+1)→1+x.flat.length+q≤maxLen∧(1+x.flat.length+q)*40≤140737488355328):=fun q h=>by unfold maxLen;constructor<;>omega
     obtain⟨ql,q0,q1,q2,q3,TZ,T7,T8,T9⟩:=M6;have K5:=MW.out.2;clear p0 p1 p2 p3 p4 pl MS MT MU MV;obtain⟨pl,p0,p1,p2,p3,p4,MS,MT,MU,MV⟩:=P7.out;have WS:=PX.out.2;have WT:=Ne.symm PX.out.2;have WU:=M2.out;have WV:=Ne.symm M2.out;have XU:(t:Int)<100000:=by omega
     clear SV U7 L3 LS R9 M0 L4 O8 O2 M7 O4 hyes;go_upto_region 11 with(first
      |(go_at_call 188;refine(HY.out _ ((P7.out).set1 _) (Q7.out.keep ((uh.refl g wc).set _ _) P7.out.lt)).mono ?_;rintro e w5 ⟨U9,A5,n5,c5,a5,e5,TY,rfl,S9,W7,TT⟩;have UX:=kaa S9;have NT:uh g wc w5:=((uh.refl g wc).set 1 (.int .i64 ((t:Int)+1))).trans U9;have QW:=(US.out).keep NT PX.out.2;clear q0 q1 q2 q3 ql TZ T7 T8 T9;obtain⟨ql,q0,q1,q2,q3,TZ,T7,T8,T9⟩:=QW;have QX:=ku NT M2.out MW.out.1 MW.out.2;obtain⟨ny,VS,LW,Q3⟩:=TT.nods UT.out;clear p0 p1 p2 p3 p4 pl MS MT MU MV;obtain⟨pl,p0,p1,p2,p3,p4,MS,MT,MU,MV⟩:=S9)
      |(at_builtin;refine Gk rfl _ _ 42 rfl w5.heap.size 46 i0 _ 4 40 Tryz.underlying42 S3 TV TW TX rfl Uf (.slice (some ⟨w5.heap.size,0,none⟩) 1 1) 1 (lba ⟨o,0,[],ps⟩) rfl (Hw w5 ⟨o,0,[],ps⟩ _ w5.heap.size rfl (aaa _)) (.slice A mm c) x.flat.length (x.flat.flatMap lba) rfl ((bi.keep RV.out PW.out (Nat.lt_succ_of_lt VX) NT).below (al _ _)) (ol _) (RT.out).1 (RT.out).2 (al w5 _).size ?_;intro v6 w6 NU J;obtain⟨A6,c6,rfl⟩:=yh NU)
      |(at_builtin;refine Gk rfl _ _ 42 rfl w5.heap.size 46 i0 _ 4 40 Tryz.underlying42 S3 TV TW TX rfl Uf (.slice A6 (1+x.flat.length) c6) (1+x.flat.length) (lba ⟨o,0,[],ps⟩++x.flat.flatMap lba) rfl NU (.slice A5 n5 c5) ny.length (ny.flatMap lba) rfl (VS.below (nI (al _ _) J (aaa _))) (ol _) (RU.out _ LW).1 (RU.out _ LW).2 (yba (al w5 _).size J.size) ?_;intro v7 w7 NV U1;obtain⟨A7,c7,rfl⟩:=yh NV))
     have N5:Below w5.heap.size w5 w7:=nI (nI (al _ _) J (aaa _)) U1 (aaa _);have hz:=fH NV;have OW:w.heap.size<w5.heap.size:=mba MW.out.1 NT.size;have R7:uh g w w7:=(UU.out.trans NT).thenB (N5.mono (nba OW));have QS:=UX.out.below N5;have R6:=hz.2.mono OW;have OT:({ op:=(o:Int),n:=0,name:=[],pos:=ps }:Kh)=⟨opAt n l t,0,[],(tk l t).pos⟩:=by rw[N2.out,RW.out]
     have Q6:=pH (nd:=⟨o,0,[],ps⟩) S4 OS TU TT LW Q3 hz.1;cases S6:((n:Int)==2)
     ·have Q2:n≠2:=fun e=>by subst e;simp at S6
      have QT:Hid (R=Xy (Dj (ti l kk) l m) n l (Hu ⟨o,0,[],ps⟩ x (Dj (ti l kk) l m (t+1)))):=by show _=_;rw[OT];exact N4.out.trans (zO L0.out Q1 Q2)
      have WZ:=kaa OT;have RZ:=kaa Q6;have M9:Hid (∀ y t',Hu ⟨o,0,[],ps⟩ x (Dj (ti l kk) l m (t+1)) = .inl (y,t')→i<t'∧t'≤l.length∧y.flat.length≤t' - i∧t<t'):=fun y t' h=>by
       cases hy:Dj (ti l kk) l m (t+1)with
       |inl q =>obtain⟨y2,t3⟩:=q;rw[hy]at h;have:=L5 _ _ hy;cases h;refine⟨by omega,this.2.1,?_,by omega⟩;exact Qe
       |inr e=>rw[hy]at h;cases h
      have QV:Hid (∀ e p,Hu ⟨o,0,[],ps⟩ x (Dj (ti l kk) l m (t+1)) = .inr (e,p)→1≤e):=fun e p h=>by
       cases hy:Dj (ti l kk) l m (t+1)with
       |inl q=>rw[hy]at h;cases h
       |inr q =>obtain⟨e2,p2⟩:=q;rw[hy]at h;cases h;exact(M3 _ _ hy).1
      have P3:=kaa QS;have UV:Hid (wr.cell? ⟨g,1,none⟩=some (.int .i64 t)):=K8.out.c1;have UW:Hid (wr.cell? ⟨g,3,none⟩=some (.int .i64 0)):=K8.out.c3;clear Q6 OT L5 M3 QS p0 p1 p2 p3 p4 MS MT MU MV q0 q1 q2 q3;go_wp2_with fail;go_roundw;case rel =>exact⟨R7,(N5.cell (p:=⟨w.heap.size,0,none⟩) OW).trans QX,mba OW N5.size,A7,_,c7,a5,e5,TY,_,rfl,P3.out,R6,RZ.out,QT.out,fun y t' h=>⟨(M9.out y t' h).1,(M9.out y t' h).2.1,(M9.out y t' h).2.2.1⟩,QV.out⟩
      case measure =>
       rw[UV.out,UW.out,P3.out.c1,P3.out.c3]
       have hv:=RZ.out
       generalize hq:Hu ⟨o,0,[],ps⟩ x (Dj (ti l kk) l m (t+1))=q at hv M9 QV
       cases q with
       |inl z =>obtain⟨y,t'⟩:=z;obtain⟨ha,he,_,_⟩:=hv;have:=M9.out y t' rfl;subst ha he;simp[intOf];omega
       |inr z =>
        obtain⟨e2,p2⟩:=z;obtain⟨he,_⟩:=hv;have:=QV.out e2 p2 rfl;have h0:¬ e5=0:=by omega
        simp[intOf,h0];omega
     ·have Q2:n=2:=by have:=eq_of_beq S6;omega
      have QT:Hid (R=Hu ⟨o,0,[],ps⟩ x (Dj (ti l kk) l m (t+1))):=by show _=_;rw[OT];exact N4.out.trans (BM L0.out Q1 Q2)
      go_wp2_with fail;go_ret;rw[QT.out];exact⟨R7,A7,_,c7,a5,e5,TY,rfl,QS,R6.mono (sba _),Q6⟩
theorem tO(g I:Nat)(u:World)(J:u.cell? ⟨I,0,none⟩=some (.pointer (some ⟨g,0,none⟩))){l:List xh}{v:Value}{i:Nat}{d:Int}{k:Nat}{r:Dm}(G:Calls maa 188 #[.pointer (some ⟨g,0,none⟩),.int .i64 0] u (fk l g v i d k r u)):Calls maa 246 #[.pointer (some ⟨I,0,none⟩)] u (fk l g v i d k r u):=by have H:=kaa G;clear G;go_enter Tryz.func246,Tryz.ntmps246;go_wp2_with (go_at_call 188;refine(H.out).mono ?_;rintro e M ⟨E,A,n,c,a,e1,p1,rfl,L⟩);go_ret;exact⟨E,A,n,c,a,e1,p1,rfl,L⟩
theorem Qz(l:List xh)(J:l.length≤100000)(g:Nat)(v:Value)(d:Int)(kk k:Nat)
  (I:∀ (i:Nat) u,Cj u g v i d 0 0→Jm g v l u→Calls maa 218 #[.pointer (some ⟨g,0,none⟩)] u (fk l g v i d k (ti l kk i) u)) :
  ∀ (m n:Nat),m+n=5→∀ (i:Nat) u,Cj u g v i d 0 0→Jm g v l u→Calls maa 188 #[.pointer (some ⟨g,0,none⟩),.int .i64 n] u (fk l g v i d k (Dj (ti l kk) l m i) u)
 |0,n,L,i,u,H,G=>by
  obtain rfl:n=5:=by omega
  exact aE l g v i d kk k u H G (fun u A E=>I i u A E)
 |m+1,n,L,i,u,H,G =>
  cE l J g v i d kk k m n L u H G (fun i u A E=>Qz l J g v d kk k I m (n+1) Tf i u A E)
theorem NN(l:List xh)(hl:l.length≤100000)(htx:∀ t∈l,t.text.length≤1000000)(g:Nat)(v:Value) :
  ∀ (kk d:Nat),d+kk=12→∀ (i:Nat) u,Cj u g v i d 0 0→Jm g v l u→Calls maa 218 #[.pointer (some ⟨g,0,none⟩)] u (fk l g v i d (kk+1) (ti l kk i) u)
 |0,d,Q,i,u,hp,hc=>by
  obtain rfl:d=12:=by omega
  by_cases hi:i<l.length
  ·cases h33:Qh l i [33]
   ·cases h45:Qh l i [45]
    ·cases h40:Qh l i [40]
     ·have e:ti l 0 i=Fk l i:=by rw[ti,if_neg Tf,if_neg (by unfold Gt Nx;rw[h33,h45,h40];decide)]
      exact Te
     ·have e:ti l 0 i=Jw l (.inr (7,Ch l i)):=by rw[ti,if_neg Tf,if_pos (by unfold Gt Nx;rw[h33,h45,h40];decide)];rfl
      rw[e];exact AB l hl g v i _ u hp hc hi 1 0 Tf Tf h33 h45 h40 _ (fun _ _ h=>by cases h) (fun _ _ h=>by cases h;decide)
       (fun W hk hpW H=>Cv l hl g v i u.heap.size W hpW (hc.keep hk hp.lt) hi 0 (i+1))
    ·have e:ti l 0 i=YN ⟨if false then 4 else 3,0,[],(tk l i).pos⟩ (.inr (7,Ch l i)):=by rw[ti,if_neg Tf,if_pos (by unfold Gt Nx;rw[h33,h45];rfl)];rfl
     rw[e];exact Gz l hl g v i _ u hp hc hi 1 0 Tf false h33 h45 _ (fun _ _ h=>by cases h) (fun W hk hpW=>Dp l hl g v i W hpW (hc.keep hk hp.lt) hi 0 (i+1))
   ·have e:ti l 0 i=YN ⟨if true then 4 else 3,0,[],(tk l i).pos⟩ (.inr (7,Ch l i)):=by rw[ti,if_neg Tf,if_pos (by unfold Gt Nx;rw[h33];rfl)];rfl
    rw[e];exact Gz l hl g v i _ u hp hc hi 1 0 Tf true h33 (Zw h33).1 _ (fun _ _ h=>by cases h) (fun W hk hpW=>Dp l hl g v i W hpW (hc.keep hk hp.lt) hi 0 (i+1))
  ·exact se
 |kk+1,d,Q,i,u,hp,hc=>by
  have IH:=NN l hl htx g v kk (d+1) Tf;have E:=Kk l kk;have G:=Nk E 5;by_cases hi:i<l.length
  ·have A:∀ nd:Kh,(nd=⟨if (tk l i).text=[45]then 3 else 4,0,[],(tk l i).pos⟩)→Gt l i=true→ti l (kk+1) i=YN nd (ti l kk (i+1)):=fun nd J L=>by subst J;rw[ti,if_neg Tf,if_pos L];cases ti l kk (i+1)<;>rfl
   cases h33:Qh l i [33]
   ·cases h45:Qh l i [45]
    ·cases h40:Qh l i [40]
     ·have e:ti l (kk+1) i=Fk l i:=by rw[ti,if_neg Tf,if_neg fh,if_neg (by unfold Nx;rw[h40];decide)]
      exact Te
     ·have e:ti l (kk+1) i=Jw l (Dj (ti l kk) l 5 (i+1)):=by rw[ti,if_neg Tf,if_neg fh,if_pos (show Nx l i=true from h40)];cases Dj (ti l kk) l 5 (i+1)<;>rfl
      rw[e];refine AB l hl g v i _ u hp hc hi (kk+2) (kk+1) Tf Tf h33 h45 h40 _ (fun x t h=>(G.good _ _ _ h).2.1) (fun e p h=>(G.bad _ _ _ h).1) (fun W hk hpW H=>?_);have I:u.heap.size<W.heap.size:=World.block_lt_of_cell? W _ H;refine WF l hl g v i d Tf u.heap.size W hpW hi (kk+1) _ (fun u2 hk2 hp2=>?_);refine tO g u.heap.size u2 (ku hk2 (by have:=hp.lt;omega) I H) ?_;exact Qz l hl g v _ kk (kk+1) (fun i u M O=>IH i u M O) 5 0 rfl (i+1) u2 hp2 ((hc.keep hk hp.lt).keep hk2 hpW.lt)
    ·rw[A ⟨if false then 4 else 3,0,[],(tk l i).pos⟩ (by rw[(bj h45).1];rfl) (by unfold Gt;rw[h33,h45];rfl)];refine Gz l hl g v i _ u hp hc hi (kk+2) (kk+1) Tf false h33 h45 _ (fun x t h=>by have:=E.good _ _ _ h;omega) (fun W hk hpW=>?_);exact sc
   ·rw[A ⟨if true then 4 else 3,0,[],(tk l i).pos⟩ (by rw[(bj h33).1];rfl) (by unfold Gt;rw[h33];rfl)];refine Gz l hl g v i _ u hp hc hi (kk+2) (kk+1) Tf true h33 (Zw h33).1 _ (fun x t h=>by have:=E.good _ _ _ h;omega) (fun W hk hpW=>?_);exact sc
  ·exact se
theorem BJ(l:List xh)(E:l.length≤100000)(A:∀ t∈l,t.text.length≤1000000)(g:Nat)(v:Value)(i:Nat)(u:World)(J:Cj u g v i 0 0 0)(I:Jm g v l u) :
 Calls maa 188 #[.pointer (some ⟨g,0,none⟩),.int .i64 0] u (fk l g v i 0 13 (Dj (ti l 12) l 5 i) u) :=
 Qz l E g v 0 12 13 (fun i u G H=>NN l E A g v 12 0 rfl i u G H) 5 0 rfl i u J I
theorem JK(l:List Kh)(v:Value)(w:World)(h:Wh w v l)(hl:l.length≤100000):∀ (N:Nat) (e:Ex) (i:Nat),e.flat.length≤N→e.ok→Ft l i e →
  Calls maa 122 #[v,.int .i64 i] w fun r w'=>r = .returned (.int .i64 e.deep)∧w=w'
 |0,e,i,hN,ho,ha=>by have:=e.flat_pos;omega
 |N+1,e,i,hN,ho,ha=>by
  have L:=ha.lt;have XZ:=ha.le;have hd:=e.deep_le;have IH:Hid (∀ j (hj:j<e.ks.length),Calls maa 122 #[v,.int .i64 (rm i e.ks j)] w fun r w'=>r = .returned (.int .i64 ((e.ks[j]).deep:Int))∧w=w'):=fun j hj =>
   JK l v w h hl N (e.ks[j]) (rm i e.ks j) (by have:=Ft.kid_lt j hj;omega) (e.ok_ks ho _ (dba hj)) (ha.kid j hj)
  have HE:Hid (∀ j (hj:j<e.ks.length),Calls maa 121 #[v,.int .i64 (rm i e.ks j)] w fun r w'=>r = .returned (.int .i64 (rm i e.ks (j+1):Int))∧w=w'):=fun j hj=>by have:=pD l v w h hl (rm i e.ks j);exact gd
  have H:Hid (∀ j (hj:j<e.ks.length),(e.ks[j]).deep≤100000):=fun j hj=>by exact Ue
  obtain⟨b,off,c,rfl,hc,XV,E⟩:=h.at_ Tf;have ht:=(E i L).op;rw[ha.top]at ht;have hk:=e.kids_ks ho;have Q:Hid (∀ u,Calls maa 162 #[.int .i64 e.top.op] u fun r w'=>r = .returned (.int .i64 (e.ks.length:Int))∧u=w'):=fun u=>by rw[← hk];exact Ww _ u
  have M:=kaa e.deep_ks;have XY:=e.ks_len;have XW:e.deep≤100000:=by omega
  clear E h hk ho ha hd;go_enter Tryz.func122,Tryz.ntmps122;go_wp2_with fail;go_loop [5,6,7] (fun n a k=>∃ j:Nat,j≤e.ks.length∧n = .int .i64 (Ox e.ks j:Int)∧a = .int .i64 (rm i e.ks j:Int)∧k = .int .i64 j) (fun _ _ k=>2 - (intOf k).toNat);case atStart=>exact⟨0,laa _,rfl,by rw[qm];go_num,rfl⟩
  case round =>
   obtain⟨j,hj,rfl,rfl,rfl⟩:=hrel;by_cases A:j<e.ks.length
   ·have Y:=kaa (Hy e.ks j A);have O:=kaa (IH.out j A);have G:=kaa (HE.out j A);have I:=H.out j A;generalize J:(e.ks[j]).deep=dd at Y O I;clear J;go_wp2_with (first
     |(go_at_call 162;refine(Q.out _).mono ?_;rintro r w' ⟨rfl,rfl⟩)
     |(go_at_call 122;refine(O.out).mono ?_;rintro r w' ⟨rfl,rfl⟩)
     |(go_at_call 121;refine(G.out).mono ?_;rintro r w' ⟨rfl,rfl⟩))
    go_round;case rel =>refine⟨j+1,by omega,?_,rfl,by go_num⟩;rw[Y.out];congr 1;first|omega|(split<;>omega)
    case measure=>simp[intOf];omega
   ·have XX:j=e.ks.length:=by omega
    have Z:(Ox e.ks e.ks.length:Int)<100000:=by have:=M.out;omega
    go_wp2_with (go_at_call 162;refine(Q.out _).mono ?_;rintro r w' ⟨rfl,rfl⟩);go_ret;exact⟨ci (by rw[M.out];go_num),rfl⟩
theorem yz(e:Ex)(E:e.ok)(v:Value)(w:World)(h:Wh w v e.flat)(A:e.flat.length≤100000) :
 Calls maa 122 #[v,.int .i64 0] w fun r w'=>r = .returned (.int .i64 e.deep)∧w=w':=JK e.flat v w h A _ e 0 (aaa _) E (Ft.whole e)
theorem jK:(Tryz.prog.info? 3).map (fun i=>(i.zero,i.size,i.bytes))=some (some (.int .i64 0),1,8):=by kernel_rfl
theorem uI:Tryz.prog.underlying 175=some (.slice 3):=by kernel_rfl
theorem OM(l:List Nat):∀ u∈l.flatMap un,u.oneCell'=true:=by intro u E;obtain⟨x,_,A⟩:=List.mem_flatMap.1 E;simp only[un,List.mem_cons,List.not_mem_nil,or_false]at A;subst A;rfl
def Vt(i:Nat)(A:List Ex)(j:Nat):List Nat:=(List.range j).map (rm i A)
theorem Ut(i:Nat)(A:List Ex)(j:Nat):Vt i A (j+1)=Vt i A j++[rm i A j]:=by unfold Vt;rw[List.range_succ,List.map_append];rfl
theorem Io(i:Nat)(A:List Ex)(j:Nat):(Vt i A j).length=j:=by simp[Vt]
theorem iM(i:Nat)(A:List Ex)(c j:Nat)(h:j<(Vt i A c).length):(Vt i A c)[j]=rm i A j:=by simp[Vt]
theorem cF(w:World)(A:Nat)(e:TypeId)(size:Nat):w.ownsRow A e size (.slice none 0 0) 0 []:=⟨by simp,.inl ⟨rfl,rfl⟩⟩
theorem Iw(l:List Kh)(v:Value)(w:World)(h:Wh w v l)(hl:l.length≤100000)(e:Ex)(i:Nat)(ho:e.ok)(ha:Ft l i e):Calls maa 161 #[v,.int .i64 i] w fun r w'=>∃ A c,r = .returned (.slice A e.ks.length c)∧yE w' (.slice A e.ks.length c) (Vt i e.ks e.ks.length)∧Below w.heap.size w w':=by
 obtain⟨i0,Z,YV,YW,YX⟩:=info_parts jK;have YS:=ha.lt;have Y4:=ha.le;have HE:Hid (∀ j (hj:j<e.ks.length) u,Below w.heap.size w u→Calls maa 116 #[v,.int .i64 (rm i e.ks j)] u fun r w'=>r = .returned (.int .i64 (rm i e.ks (j+1):Int))∧u=w'):=fun j hj u hu=>by have:=QN l v u (h.below hu) hl (rm i e.ks j);exact gd
 obtain⟨b,off,c,rfl,hc,YY,L⟩:=h.at_ Tf;have ht:=(L i YS).op;rw[ha.top]at ht;have hk:=e.kids_ks ho;have HM:Hid (∀ u,Calls maa 160 #[.int .i64 e.top.op] u fun r w'=>r = .returned (.int .i64 (e.ks.length:Int))∧u=w'):=fun u=>by rw[← hk];exact Rw _ u
 have YZ:=e.ks_len;clear L h hk ho ha;go_enter Tryz.func161,Tryz.ntmps161;go_wp2_with (go_at_call 160;refine(HM.out _).mono ?_;rintro r w' ⟨rfl,rfl⟩);go_loopw [5,6,15] (fun out at_ k wr=>∃ j:Nat,j≤e.ks.length∧k = .int .i64 j∧at_ = .int .i64 (rm i e.ks j:Int)∧(∃ A c,out = .slice A j c)∧wr.ownsRow w.heap.size 3 1 out j ((Vt i e.ks j).flatMap un)∧Below w.heap.size w wr) (fun _ _ k _=>2 - (intOf k).toNat);case atStart=>exact⟨0,laa _,rfl,by rw[qm];go_num,⟨none,0,rfl⟩,cF _ _ _ _,Gaa _ _⟩
 case round =>
  obtain⟨j,hj,rfl,rfl,⟨A,O,rfl⟩,E,Q⟩:=hrel;by_cases YU:j<e.ks.length
  ·have M:=kaa (HE.out j YU);have HP:=kaa (Ut i e.ks j);have H:=kaa E;have HB:=kaa Q;clear E Q;have I:=kaa HB.out.size;have T1:Hid ((wr.alloc (.cells #[.int .i64 (rm i e.ks j)] 3)).ownsRow w.heap.size 3 1 (.slice A j O) j ((Vt i e.ks j).flatMap un)):=(Ih H.out (al _ _));have T2:Hid (bi (wr.alloc (.cells #[.int .i64 (rm i e.ks j)] 3)) (.slice (some ⟨wr.heap.size,0,none⟩) 1 1) 1 1 ([rm i e.ks j].flatMap un)):=(zk wr [.int .i64 (rm i e.ks j)] 3 1 1 1 rfl (aaa _));have T3:Hid (w.heap.size≤(wr.alloc (.cells #[.int .i64 (rm i e.ks j)] 3)).heap.size):=(yba I.out (al _ _).size);have T4:Hid (j+1≤maxLen∧(j+1)*8≤140737488355328):=by show _∧_;unfold maxLen;constructor<;>omega
   go_wp2_with (first
    |(at_builtin;refine Gk rfl _ _ 175 rfl w.heap.size 3 i0 _ 1 8 uI Z YV YW YX rfl Nat.zero_lt_one (.slice A j O) j ((Vt i e.ks j).flatMap un) rfl T1.out (.slice (some ⟨wr.heap.size,0,none⟩) 1 1) 1 ([rm i e.ks j].flatMap un) rfl T2.out (OM _) T4.out.1 T4.out.2 T3.out ?_;intro v6 w6 G Y;obtain⟨A6,c6,rfl⟩:=yh G;have J:=nI (nI HB.out (al wr _) I.out) Y (aaa _))
    |(go_at_call 116;refine(M.out _ J).mono ?_;rintro r w' ⟨rfl,rfl⟩))
   go_roundw;case rel =>refine⟨j+1,by omega,by go_num,rfl,⟨A6,c6,rfl⟩,?_,J⟩;rw[HP.out,List.flatMap_append];exact G
   case measure=>simp[intOf];omega
  ·have YT:j=e.ks.length:=by omega
   subst YT;go_wp2_with fail;go_ret;refine⟨A,O,rfl,?_,Q⟩;have:=Ti E;show bi _ _ 1 _ _;rw[Io];exact this
theorem GF(l:List Kh)(v:Value)(hl:l.length≤100000):∀ (N:Nat) (e:Ex) (i:Nat) (w:World),Wh w v l→e.flat.length≤N→e.ok→Ft l i e →
  Calls maa 117 #[v,.int .i64 i] w fun r w'=>r = .returned (.int .i64 e.deep)∧Below w.heap.size w w'
 |0,e,i,w,h,hN,Z,ha=>by have:=e.flat_pos;omega
 |N+1,e,i,w,h,hN,Z,ha=>by
  have ZY:=ha.lt;have Z1:=ha.le;have hd:=e.deep_le;have IH:Hid (∀ j (hj:j<e.ks.length) u,Below w.heap.size w u→Calls maa 117 #[v,.int .i64 (rm i e.ks j)] u fun r w'=>r = .returned (.int .i64 ((e.ks[j]).deep:Int))∧Below u.heap.size u w'):=fun j hj u hu =>
   GF l v hl N (e.ks[j]) (rm i e.ks j) u (h.below hu) (by have:=Ft.kid_lt j hj;omega) (e.ok_ks Z _ (dba hj)) (ha.kid j hj)
  have Y8:Hid (∀ j (hj:j<e.ks.length),(e.ks[j]).deep≤100000):=fun j hj=>by exact Ue
  have HO:=kaa (Iw l v w h hl e i Z ha);have HD:=kaa e.deep_ks;have Z0:=e.ks_len;have ZX:e.deep≤100000:=by omega
  obtain⟨A0,c0,rfl,ZW⟩:=h.shape;clear h Z ha hd;go_enter Tryz.func117,Tryz.ntmps117;go_wp2_with (go_at_call 161;refine(HO.out).mono ?_;rintro r w1 ⟨A,c,rfl,E,M⟩);have Y7:=kaa E;have I:e.ks.length≤c:=by obtain⟨_,A2,c2,hv,I,_⟩:=E;(simp only[bca,Io]at hv);obtain⟨_,_,rfl⟩:=hv;rw[Io]at I;exact I
  clear E;go_loopw [5,12] (fun n k wr=>∃ j:Nat,j≤e.ks.length∧n = .int .i64 (Ox e.ks j:Int)∧k = .int .i64 j∧Below w1.heap.size w1 wr) (fun _ k _=>2 - (intOf k).toNat);case atStart=>exact⟨0,laa _,rfl,rfl,Gaa _ _⟩
  case round =>
   obtain⟨j,hj,rfl,rfl,L⟩:=hrel;by_cases G:j<e.ks.length
   ·have HS:=kaa (Hy e.ks j G);have HI:=kaa (IH.out j G);have O:=Y8.out j G;generalize ZT:(e.ks[j]).deep=dd at HS HI O;clear ZT;obtain⟨b2,Y,c2,hV,ZS,Q,H⟩:=Y7.out.at_ (by rw[Io];omega);simp only[Io,bca]at hV;obtain⟨rfl,_,rfl⟩:=hV;have J:=(L.cell (p:=⟨b2,Y+j,none⟩) Q).trans (H j (by rw[Io];exact G));rw[iM]at J;have Y6:=kaa (bt M L);have Y5:=kaa L;clear L H ZS;have ZV:(j:Int)<(e.ks.length:Int):=by omega
    go_wp2_with (go_at_call 117;refine(HI.out _ Y6.out).mono ?_;rintro r w3 ⟨rfl,Y9⟩);go_roundw;case rel =>refine⟨j+1,by omega,?_,by go_num,bt Y5.out Y9⟩;rw[HS.out];congr 1;first|omega|(split<;>omega)
    case measure=>simp[intOf];omega
   ·have ZZ:j=e.ks.length:=by omega
    have ZU:(Ox e.ks e.ks.length:Int)<100000:=by have:=HD.out;omega
    go_wp2_with fail;go_ret;exact⟨ci (by rw[HD.out];go_num),bt M L⟩
theorem Wz(e:Ex)(E:e.ok)(v:Value)(w:World)(h:Wh w v e.flat)(A:e.flat.length≤100000) :
 Calls maa 117 #[v,.int .i64 0] w fun r w'=>r = .returned (.int .i64 e.deep)∧Below w.heap.size w w':=GF e.flat v A _ e 0 w h (aaa _) E (Ft.whole e)
theorem Oi{fn:Func}{x y z q:Tmp}(h:fn.results = #[.tmp x,.tmp y,.tmp z,.tmp q])(tmps:Array Value)(P:Program)(w:World):(results fn tmps).run P w = .ok (.tuple #[tmps.getD x undef,tmps.getD y undef,tmps.getD z undef,tmps.getD q undef]) w:=by simp[results,h]
def iz(l:List xh)(i:Int)(w:World)(e:Ending)(w':World):Prop :=
 ∃ V,e = .returned (.tuple #[V,.int .i64 (ij l i).2.1,.int .i64 (ij l i).2.2.1,.int .i64 (ij l i).2.2.2])∧Wh w' V (ij l i).1∧Below w.heap.size w w'∧dj w.heap.size V
theorem Kq{l:List xh}{i:Int}{R:List Kh × Int × Int × Int}(A:ij l i=R){w w':World}{V:Value}{a b c:Int}(ha:R.2.1=a)(G:R.2.2.1=b)(H:R.2.2.2=c)(E:Wh w' V R.1)(hB:Below w.heap.size w w')(hF:dj w.heap.size V):iz l i w (.returned (.tuple #[V,.int .i64 a,.int .i64 b,.int .i64 c])) w':=by subst A ha G H;exact⟨V,rfl,E,hB,hF⟩
theorem lP(l:List xh)(hl:l.length≤100000)(Z:∀ t∈l,t.text.length≤1000000)(v:Value)(i:Int)(w:World)(H:Vi w v l):Calls maa 96 #[v,.int .i64 i] w (iz l i w):=by
 obtain⟨Av,cv,Z2,Z3⟩:=H.shape;subst Z2;by_cases hi:i<0
 ·have hR:ij l i=([],0,1,0):=by unfold ij;rw[if_pos hi]
  have HR:=kaa hR;clear hR H;go_enter Tryz.func96,Tryz.ntmps96;go_wp2_with fail;refine bodyPost_ret (Oi rfl _ _ _) rfl ?_;exact Kq HR.out rfl rfl rfl (cca _ _ _) (Gaa _ _) (ai _ _ _)
 ·obtain⟨n,rfl⟩:=Faa (show 0≤i by omega);have Z9:decide ((n:Int)<0)=false:=by simp
  have HC:=kaa (YI l hl Z _ n w H);have A:=Nk (Kk l 12) 5;have hP:ij l n=match Dj (ti l 12) l 5 n with
   | .inr (e,p)=>([],0,e,p)
   | .inl (x,t)=>if 12<x.deep then ([],0,7,(tk l n).pos)else if 40<x.flat.length then ([],0,2,(tk l n).pos)else (x.flat,(t:Int),0,0):=by
   unfold ij;rw[if_neg Tf];rfl
  cases hr:Dj (ti l 12) l 5 n with
  |inr ep =>
   obtain⟨ey,py⟩:=ep;rw[hr]at hP HC;have HP:=kaa hP;have Z4:=(A.bad _ _ _ hr).1;have Z5:(ey==0)=false:=by rw[beq_eq_false_iff_ne];omega
   clear hP A hr H;go_enter Tryz.func96,Tryz.ntmps96;go_wp2_with (go_at_call 152;refine(HC.out).mono ?_;rintro e w1 ⟨hb1,A1,n1,c1,t1,e1,p1,rfl,hr1⟩;obtain⟨O,rfl,rfl,rfl⟩:=hr1;cases O);go_quiet (fail);go_wp2_with fail;refine bodyPost_ret (Oi rfl _ _ _) rfl ?_;exact Kq HP.out rfl rfl rfl (cca _ _ _) (dk (bt hb1 (al _ _)) _) (ai _ _ _)
  |inl xt =>
   obtain⟨x,t⟩:=xt;rw[hr]at hP HC;have HP:=kaa hP;have hg:=A.good _ _ _ hr;obtain⟨Z6,Z7,Z8,Y⟩:=hg;have HOK:Hid (x.ok):=Y;have HLX:Hid (x.flat.length≤100000):=by show _≤_;omega
   have M:n<l.length:=by omega
   have ad:(0:Int)≤(n:Int):=Sba _;have af:(n:Int)<(l.length:Int):=by omega
   obtain⟨bt0,offt,ct,hE,Q,hbt,E⟩:=H.at_ Tf;cases hE;have hps:=(E n M).pos;rw[← rj M]at hps;clear E Q A hr H;by_cases G:12<x.deep
   ·have hP2:ij l n=([],0,7,(tk l n).pos):=by rw[hP];exact if_pos G
    have HP2:=kaa hP2;have J:decide ((12:Int)<(x.deep:Int))=true:=by simp;omega
    exact ja
   ·have J:decide ((12:Int)<(x.deep:Int))=false:=by simp;omega
    by_cases I:40<x.flat.length
    ·have hP2:ij l n=([],0,2,(tk l n).pos):=by rw[hP];exact(if_neg G).trans (if_pos I)
     have HP2:=kaa hP2;have L:decide ((40:Int)<(x.flat.length:Int))=true:=by simp;omega
     exact ja
    ·have hP2:ij l n=(x.flat,(t:Int),0,0):=by rw[hP];exact(if_neg G).trans (if_neg I)
     have HP2:=kaa hP2;have L:decide ((40:Int)<(x.flat.length:Int))=false:=by simp;omega
     clear hP hP2;go_enter Tryz.func96,Tryz.ntmps96;go_wp2_with (first
      |(go_at_call 152;refine(HC.out).mono ?_;rintro e w1 ⟨hb1,A1,n1,c1,t1,e1,p1,rfl,hr1⟩;obtain⟨rfl,rfl,rfl,hnx,hfx⟩:=hr1;obtain⟨A2,c2,hV2,hcc2⟩:=hnx.shape;(simp only[bca]at hV2);obtain⟨hA2,hn2,hc2⟩:=hV2;subst hA2 hc2 hn2;have hNX:=kaa (hnx.below (al w1 (.cells #[.slice A1 x.flat.length c1,.int .i64 t,.int .i64 0,.int .i64 0] 164)));have hps1:=(hb1.cell (p:=⟨bt0,offt+n*4+3,none⟩) hbt).trans hps;have hbt1:=mba hbt hb1.size)
      |(go_at_call 122;refine(yz x HOK.out (.slice A1 x.flat.length c1) (w1.alloc (.cells #[.slice A1 x.flat.length c1,.int .i64 t,.int .i64 0,.int .i64 0] 164)) hNX.out HLX.out).mono ?_;rintro r w' ⟨rfl,rfl⟩))
     go_quiet (fail);go_wp2_with fail;refine bodyPost_ret (Oi rfl _ _ _) rfl ?_;exact Kq HP2.out rfl rfl rfl (hNX.out.below (dk (Gaa _ _) _)) (dk (bt hb1 (al _ _)) _) hfx
def Em(l:List xh)(i:Int)(w:World)(e:Ending)(w':World):Prop :=
 ∃ V,e = .returned (.tuple #[V,.int .i64 (ij l i).2.1,.int .i64 (ij l i).2.2.1,.int .i64 (ij l i).2.2.2])∧Wh w' V (ij l i).1∧Below w.heap.size w w'∧dj w.heap.size V∧Bp w' V
theorem rp{l:List xh}{i:Int}{R:List Kh × Int × Int × Int}(A:ij l i=R){w w':World}{V:Value}{a b c:Int}(ha:R.2.1=a)(H:R.2.2.1=b)(I:R.2.2.2=c)(G:Wh w' V R.1)(hB:Below w.heap.size w w')(hF:dj w.heap.size V)(E:Bp w' V):Em l i w (.returned (.tuple #[V,.int .i64 a,.int .i64 b,.int .i64 c])) w':=by subst A ha H I;exact⟨V,rfl,G,hB,hF,E⟩
theorem pM(w:World)(v:Value)(i:Int)(t:TypeId):Cj (w.alloc (.cells #[v,.int .i64 i,.int .i64 0,.int .i64 0,.int .i64 0] t)) w.heap.size v i 0 0 0:=by refine⟨by rw[gba];omega,Uh _ _ _ _ _ rfl,Uh _ _ _ _ _ rfl,Uh _ _ _ _ _ rfl,Uh _ _ _ _ _ rfl,Uh _ _ _ _ _ rfl,?_,?_,?_,?_⟩<;>simp
theorem FC(l:List xh)(hl:l.length≤100000)(ao:∀ t∈l,t.text.length≤1000000)(v:Value)(i:Int)(w:World)(I:Vi w v l)(E:Xj w):Calls maa 146 #[v,.int .i64 i] w (Em l i w):=by
 obtain⟨Y,Z,av,aW⟩:=I.shape;subst av;by_cases hi:i<0
 ·have hR:ij l i=([],0,1,0):=by unfold ij;rw[if_pos hi]
  have HR:=kaa hR;clear hR I E;go_enter Tryz.func146,Tryz.ntmps146;go_wp2_with fail;refine bodyPost_ret (Oi rfl _ _ _) rfl ?_;exact rp HR.out rfl rfl rfl (cca _ _ _) (Gaa _ _) (ai _ _ _) (Bp.nil _ _ _)
 ·obtain⟨n,rfl⟩:=Faa (show 0≤i by omega);have a4:decide ((n:Int)<0)=false:=by simp
  have L:Jm w.heap.size (.slice Y l.length Z) l (w.alloc (.cells #[.slice Y l.length Z,.int .i64 n,.int .i64 0,.int .i64 0,.int .i64 0] 198)):=⟨Sl.below I (al _ _),E.below (al _ _),E.hm,E.ht,E.hr⟩;have HC:=kaa (BJ l hl ao w.heap.size _ n _ (pM w (.slice Y l.length Z) n 198) L);have A:=Nk (Kk l 12) 5;have hP:ij l n=match Dj (ti l 12) l 5 n with
   | .inr (e,p)=>([],0,e,p)
   | .inl (x,t)=>if 12<x.deep then ([],0,7,(tk l n).pos)else if 40<x.flat.length then ([],0,2,(tk l n).pos)else (x.flat,(t:Int),0,0):=by
   unfold ij;rw[if_neg Tf];rfl
  clear L E;cases hr:Dj (ti l 12) l 5 n with
  |inr ep =>
   obtain⟨ey,py⟩:=ep;rw[hr]at hP HC;have HP:=kaa hP;have aX:=(A.bad _ _ _ hr).1;have aY:(ey==0)=false:=by rw[beq_eq_false_iff_ne];omega
   clear hP A hr I;go_enter Tryz.func146,Tryz.ntmps146;go_wp2_with (go_at_call 188;refine(HC.out).mono ?_;rintro e w1 ⟨hk1,A1,n1,c1,a1,e1,p1',rfl,hp1,hf1,hv1⟩;obtain⟨rfl,rfl,aU,aV,gl,a3,aT⟩:=hv1;have hB1:=(al w _).trans (hk1.below (nba Ig));have HP1:=kaa hp1;obtain⟨pl,p0,p1,p2,p3,p4,_,_,_,_⟩:=hp1);go_quiet (fail);go_wp2_with fail;refine bodyPost_ret (Oi rfl _ _ _) rfl ?_;exact rp HP.out rfl rfl rfl (cca _ _ _) (dk hB1 _) (ai _ _ _) (Bp.nil _ _ _)
  |inl xt =>
   obtain⟨x,t⟩:=xt;rw[hr]at hP HC;have hg:=A.good _ _ _ hr;obtain⟨aZ,a0,a2,af⟩:=hg;have HOK:Hid (x.ok):=af;have HLX:Hid (x.flat.length≤100000):=by show _≤_;omega
   have Q:n<l.length:=by omega
   have a5:(0:Int)≤(n:Int):=Sba _;have a6:(n:Int)<(l.length:Int):=by omega
   obtain⟨bt0,offt,ct,E,ad,hbt,G⟩:=I.at_ Tf;cases E;have hps:=(G n Q).pos;rw[← rj Q]at hps;clear G ad A hr I;by_cases H:12<x.deep
   ·have hP2:ij l n=([],0,7,(tk l n).pos):=by rw[hP];exact if_pos H
    have HP2:=kaa hP2;have M:decide ((12:Int)<(x.deep:Int))=true:=by simp;omega
    exact ia
   ·have M:decide ((12:Int)<(x.deep:Int))=false:=by simp;omega
    by_cases J:40<x.flat.length
    ·have hP2:ij l n=([],0,2,(tk l n).pos):=by rw[hP];exact(if_neg H).trans (if_pos J)
     have HP2:=kaa hP2;have O:decide ((40:Int)<(x.flat.length:Int))=true:=by simp;omega
     exact ia
    ·have hP2:ij l n=(x.flat,(t:Int),0,0):=by rw[hP];exact(if_neg H).trans (if_neg J)
     have HP2:=kaa hP2;have O:decide ((40:Int)<(x.flat.length:Int))=false:=by simp;omega
     clear hP hP2;go_enter Tryz.func146,Tryz.ntmps146;go_wp2_with (first
      |(go_at_call 188;refine(HC.out).mono ?_;rintro e w1 ⟨hk1,A1,n1,c1,a1,e1,p1',rfl,hp1,hf1,hv1⟩;obtain⟨rfl,rfl,rfl,hnx⟩:=hv1;obtain⟨A2,c2,hV2,hcc2⟩:=hnx.shape;(simp only[bca]at hV2);obtain⟨hA2,hn2,hc2⟩:=hV2;subst hA2 hc2 hn2;have hNX:=kaa hnx;have HF1:=kaa hf1;have hB1:=(al w _).trans (hk1.below (nba Ig));have HP1:=kaa hp1;obtain⟨pl,p0,p1,p2,p3,p4,_,_,_,_⟩:=hp1)
      |(go_at_call 117;refine(Wz x HOK.out (.slice A1 x.flat.length c1) w1 hNX.out.nods HLX.out).mono ?_;rintro r w3 ⟨rfl,hb3⟩;have hps3:=((hB1.trans (hb3.mono hB1.size)).cell (p:=⟨bt0,offt+n*4+3,none⟩) hbt).trans hps;have hHP3:=HP1.out.below hb3;obtain⟨rl,r0,r1,r2,r3,r4,_,_,_,_⟩:=hHP3))
     go_quiet (fail);go_wp2_with fail;refine bodyPost_ret (Oi rfl _ _ _) rfl ?_;exact rp HP2.out rfl rfl rfl (aca (aca hNX.out.nods hb3) (dk (Gaa _ _) _)) (dk (hB1.trans (hb3.mono hB1.size)) _) (HF1.out.mono Ig) ((hNX.out.unf.below hb3).below (dk (Gaa _ _) _))
def Om(pl:Bool)(x y:Kh):Bool:=!((x.op != y.op)||(x.n != y.n)||(x.name != y.name)||(pl&&(x.pos != y.pos)))
def tj(pl:Bool):List Kh→List Kh→Bool
 | [],[]=>true
 |x::a,y::b=>Om pl x y&&tj pl a b
 |_,_=>false
theorem Tt{pl:Bool}:∀ {a b:List Kh},a.length≠b.length→tj pl a b=false
 | [],[],h=>absurd rfl h
 | [],_::_,_=>rfl
 |_::_,[],_=>rfl
 |x::a,y::b,h=>by unfold tj;rw[Tt (a:=a) (b:=b) xg];simp
theorem Rt{pl:Bool}:∀ {a b:List Kh} (h:a.length=b.length),(∀ i (hi:i<a.length),Om pl a[i] (b[i]' Tf)=true)→tj pl a b=true
 | [],[],_,_=>rfl
 |x::a,y::b,h,A=>by unfold tj;have E:=A 0 Yf;have G:=Rt (pl:=pl) (a:=a) (b:=b) xg (fun i hi=>by have:=A (i+1) Ng;simpa using this);simp only[dca]at E;rw[E,G];rfl
theorem iw{pl:Bool}:∀ {a b:List Kh} (h:a.length=b.length) (i:Nat) (hi:i<a.length),Om pl a[i] (b[i]' Tf)=false→tj pl a b=false
 |x::a,y::b,h,0,_,A=>by unfold tj;simp only[dca]at A;rw[A];rfl
 |x::a,y::b,h,i+1,hi,A=>by unfold tj;rw[iw (a:=a) (b:=b) xg i (by simpa using hi) (by simpa using A)];simp
theorem xz(a b:List Kh)(ha:a.length≤100000)(hb:b.length≤100000)(va vb:Value)(pl:Bool)(w:World)(hA:Wh w va a)(hB:Wh w vb b):Calls maa 33 #[va,vb,.bool pl] w fun e w'=>e = .returned (.bool (tj pl a b))∧Below w.heap.size w w':=by
 obtain⟨A1,c1,rfl,a3⟩:=hA.shape;obtain⟨A2,c2,rfl,a4⟩:=hB.shape;by_cases hl:a.length=b.length
 ·have L:((a.length:Int)==(b.length:Int))=true:=by rw[beq_iff_eq];omega
  have aU:((a.length:Int) != (b.length:Int))=false:=by unfold bne;rw[L];rfl
  have HA:=kaa hA;have HB:=kaa hB;clear hA hB;go_enter Tryz.func33,Tryz.ntmps33;go_wp2_with fail;go_loopw [7] (fun k wr=>Below w.heap.size w wr∧∃ j:Nat,j≤a.length∧k = .int .i64 j∧∀ j' (h:j'<a.length),j'<j→Om pl a[j'] (b[j']' Tf)=true) (fun k _=>a.length - (intOf k).toNat);case atStart=>exact⟨Gaa _ _,0,laa _,rfl,fun j' _ h=>absurd h Tf⟩
  case round =>
   obtain⟨A,j,hj,rfl,H⟩:=hrel;have HBW:=kaa A;have HALL:=kaa H;clear H;by_cases M:j<a.length
   ·obtain⟨b1,o1,k1,av,a9,E,I⟩:=HA.out.at_ Tf;obtain⟨b2,o2,k2,aT,bb,G,J⟩:=HB.out.at_ Tf;cases av;cases aT;have O:=I j M;have Q:=J j Tf;have aV:=(A.cell (p:=⟨_,_,none⟩) E).trans O.op;have aW:=(A.cell (p:=⟨_,_,none⟩) E).trans O.n;have aX:=(A.cell (p:=⟨_,_,none⟩) E).trans O.name;have aY:=(A.cell (p:=⟨_,_,none⟩) E).trans O.pos;have aZ:=(A.cell (p:=⟨_,_,none⟩) G).trans Q.op;have a0:=(A.cell (p:=⟨_,_,none⟩) G).trans Q.n;have a1:=(A.cell (p:=⟨_,_,none⟩) G).trans Q.name;have a2:=(A.cell (p:=⟨_,_,none⟩) G).trans Q.pos;have HF:Hid (Om pl a[j] (b[j]' Tf)=false→tj pl a b=false):=fun h=>iw hl j M h;have Y:Hid (Om pl a[j] (b[j]' Tf)=true→∀ j' (h:j'<a.length),j'=j→Om pl a[j'] (b[j']' Tf)=true):=fun h j' a5 e=>by subst e;exact h
    have a6:(0:Int)≤(j:Int):=Sba _;have a7:(j:Int)<(a.length:Int):=by omega
    have a8:(j:Int)<(b.length:Int):=by omega
    clear I J O Q A;generalize a[j]=x at aV aW aX aY HF Y;generalize b[j]' Tf=y at aZ a0 a1 a2 HF Y;cases Z:(x.op==y.op)
    ·have ad:(x.op != y.op)=true:=by unfold bne;rw[Z];rfl
     exact Gc
    ·have ad:(x.op != y.op)=false:=by unfold bne;rw[Z];rfl
     cases h1:(x.n==y.n)
     ·have af:(x.n != y.n)=true:=by unfold bne;rw[h1];rfl
      exact Gc
     ·have af:(x.n != y.n)=false:=by unfold bne;rw[h1];rfl
      have hnm:(x.name==y.name)=((vh x.name).toList==(vh y.name).toList):=by rw[Ah,Ah]
      cases h2:((vh x.name).toList==(vh y.name).toList)
      ·have al:((vh x.name).toList != (vh y.name).toList)=true:=by unfold bne;rw[h2];rfl
       have HF2:Hid (tj pl a b=false):=HF.out (by rw[h2]at hnm;simp only[Om,bne,hnm];simp);exact Rc
      ·have al:((vh x.name).toList != (vh y.name).toList)=false:=by unfold bne;rw[h2];rfl
       rw[h2]at hnm;cases pl;·have HT2:=kaa (Y.out (by simp only[Om,bne,hnm,Z,h1];simp));exact ib
       ·cases h3:(x.pos==y.pos)
        ·have ao:(x.pos != y.pos)=true:=by unfold bne;rw[h3];rfl
         have HF2:Hid (tj true a b=false):=HF.out (by simp only[Om,bne,h3];simp);exact Rc
        ·have ao:(x.pos != y.pos)=false:=by unfold bne;rw[h3];rfl
         have HT2:=kaa (Y.out (by simp only[Om,bne,hnm,Z,h1,h3];simp));exact ib
   ·have HY:=kaa (Rt (pl:=pl) hl (fun i hi=>HALL.out i hi Tf));exact Re
 ·have L:((a.length:Int)==(b.length:Int))=false:=by rw[beq_eq_false_iff_ne];omega
  have aU:((a.length:Int) != (b.length:Int))=true:=by unfold bne;rw[L];rfl
  have HN:=kaa (Tt (pl:=pl) hl);go_enter Tryz.func33,Tryz.ntmps33;exact te
theorem DC{α:Type}{p:Int}{i:Nat}{r:RS α}{x:α}{j:Nat}{d:α}(h:r = .inl (x,j)):ri 0 p i r d=(x,j,0,p):=by subst h;rfl
theorem Bm{α:Type}{p:Int}{i:Nat}{r:RS α}{l:List xh}{k:Int}{d:α}(h:r = .inr (cj l i k)):ri 0 p i r d=(d,i,wE l i 0 k,wP l i 0 p):=by subst h;rfl
def AP(w:World)(x:Value)(s:List UInt8):Prop:=x = .string (vh s)
def BP(w:World)(x:Value)(n:Int):Prop:=x = .int .i64 n
theorem Jm.at_{g:Nat}{v:Value}{l:List xh}{w:World}(h:Jm g v l w)(J:0<l.length):∃ b off c,v = .slice (some ⟨b,off,none⟩) l.length c∧l.length≤c∧b<g∧∀ u,Below g w u→∀ i (hi:i<l.length),VN u b (off+i*4) l[i]:=by obtain⟨_,A,c,hv,M,O⟩:=h.toks;obtain⟨b,off,L,G,E⟩:=O J;subst L;refine⟨b,off,c,hv,M,G,fun u Z i hi=>?_⟩;have H:=fun k Y=>ei xh.cells 4 xh.cells_len l i k hi Y;have I:=fun j x (Q:(l.flatMap xh.cells)[j]? = some x)=>(Z.cell (p:=⟨b,off+j,none⟩) G).trans (E j x Q);exact⟨I _ _ (H 0 Tf),I _ _ (H 1 Tf),I _ _ (H 2 Tf),I _ _ (H 3 Tf)⟩
theorem AK{l:List xh}{i:Nat}{x:List Kh}{j:Nat}(h:Ri l i = .inl (x,j)):ij l i=(x,(j:Int),0,0):=by
 obtain⟨_,_,e,_,H,hr,A,E⟩:=Mj h;have G:ij l i=match Dj (ti l 12) l 5 i with
   | .inr (e,p)=>([],0,e,p)
   | .inl (x,t)=>if 12<x.deep then ([],0,7,(tk l i).pos)else if 40<x.flat.length then ([],0,2,(tk l i).pos)else (x.flat,(t:Int),0,0):=by
  unfold ij;rw[if_neg Tf];rfl
 rw[G,hr,H];simp only;rw[if_neg Tf,if_neg Tf]
theorem LH{l:List xh}{i:Nat}{e p:Int}(h:Ri l i = .inr (e,p)):¬ e=0∧∃ a b,ij l i=(a,b,e,p):=by obtain⟨A,E,G⟩:=Wq h;refine⟨A,(ij l i).1,(ij l i).2.1,?_⟩;rw[← E,← G]
def YC(x:St)(ev fv:Value):Value:=.agg #[.int .i64 x.kind,.string (vh x.reg),.string (vh x.name),ev,fv,.int .i64 x.n,.int .i64 x.body,.int .i64 x.els,.int .i64 x.pos]
structure SB (w:World) (b:Nat) (x:St) (ev fv:Value):Prop where
 lt:b < w.heap.size
 c0:w.cell? ⟨b,0,none⟩=some (.int .i64 x.kind)
 c1:w.cell? ⟨b,1,none⟩=some (.string (vh x.reg))
 c2:w.cell? ⟨b,2,none⟩=some (.string (vh x.name))
 c3:w.cell? ⟨b,3,none⟩=some (ev)
 c4:w.cell? ⟨b,4,none⟩=some (fv)
 c5:w.cell? ⟨b,5,none⟩=some (.int .i64 x.n)
 c6:w.cell? ⟨b,6,none⟩=some (.int .i64 x.body)
 c7:w.cell? ⟨b,7,none⟩=some (.int .i64 x.els)
 c8:w.cell? ⟨b,8,none⟩=some (.int .i64 x.pos)
 fr:∀ j,w.frozen? ⟨b,j,none⟩=false
theorem SB.keep{w w':World}{b g:Nat}{x:St}{ev fv:Value}(h:SB w b x ev fv)(hk:uh g w w')(A:b≠g):SB w' b x ev fv:=by have hb:=hk.block b h.lt A;exact Ta
theorem SB.drewN{w:World}{b:Nat}{x:St}{ev fv:Value}(h:SB w b x ev fv)(n:Nat):SB (w.drewN n) b x ev fv:=h.keep ((uh.refl (b+1) w).drewN n) Tf
theorem vl(w:World)(x:St)(ev fv:Value):SB (w.alloc (.cells #[.int .i64 x.kind,.string (vh x.reg),.string (vh x.name),ev,fv,.int .i64 x.n,.int .i64 x.body,.int .i64 x.els,.int .i64 x.pos] 44)) w.heap.size x ev fv :=
 ⟨by rw[gba];omega,Uh _ _ _ _ _ rfl,Uh _ _ _ _ _ rfl,Uh _ _ _ _ _ rfl,Uh _ _ _ _ _ rfl,Uh _ _ _ _ _ rfl,Uh _ _ _ _ _ rfl,Uh _ _ _ _ _ rfl,Uh _ _ _ _ _ rfl,Uh _ _ _ _ _ rfl,fun j=>by simp⟩
theorem SB.setReg{w:World}{b:Nat}{x:St}{ev fv:Value}(h:SB w b x ev fv)(s:List UInt8):SB (w.setCell ⟨b,1,none⟩ (.string (vh s))) b { x with reg:=s } ev fv :=
 ⟨by simpa[eca]using h.lt,by simp[fca];exact h.c0,by simp[gca,h.c1],by simp[fca];exact h.c2,by simp[fca];exact h.c3,by simp[fca];exact h.c4,by simp[fca];exact h.c5,by simp[fca];exact h.c6,by simp[fca];exact h.c7,by simp[fca];exact h.c8,fun j=>by simpa using h.fr j⟩
theorem SB.setName{w:World}{b:Nat}{x:St}{ev fv:Value}(h:SB w b x ev fv)(s:List UInt8):SB (w.setCell ⟨b,2,none⟩ (.string (vh s))) b { x with name:=s } ev fv :=
 ⟨by simpa[eca]using h.lt,by simp[fca];exact h.c0,by simp[fca];exact h.c1,by simp[gca,h.c2],by simp[fca];exact h.c3,by simp[fca];exact h.c4,by simp[fca];exact h.c5,by simp[fca];exact h.c6,by simp[fca];exact h.c7,by simp[fca];exact h.c8,fun j=>by simpa using h.fr j⟩
theorem SB.setE{w:World}{b:Nat}{x:St}{ev fv:Value}(h:SB w b x ev fv)(l:List Kh)(u:Value):SB (w.setCell ⟨b,3,none⟩ u) b { x with e:=l } u fv :=
 ⟨by simpa[eca]using h.lt,by simp[fca];exact h.c0,by simp[fca];exact h.c1,by simp[fca];exact h.c2,by simp[gca,h.c3],by simp[fca];exact h.c4,by simp[fca];exact h.c5,by simp[fca];exact h.c6,by simp[fca];exact h.c7,by simp[fca];exact h.c8,fun j=>by simpa using h.fr j⟩
theorem SB.setF{w:World}{b:Nat}{x:St}{ev fv:Value}(h:SB w b x ev fv)(l:List Kh)(u:Value):SB (w.setCell ⟨b,4,none⟩ u) b { x with f:=l } ev u :=
 ⟨by simpa[eca]using h.lt,by simp[fca];exact h.c0,by simp[fca];exact h.c1,by simp[fca];exact h.c2,by simp[fca];exact h.c3,by simp[gca,h.c4],by simp[fca];exact h.c5,by simp[fca];exact h.c6,by simp[fca];exact h.c7,by simp[fca];exact h.c8,fun j=>by simpa using h.fr j⟩
theorem SB.setN{w:World}{b:Nat}{x:St}{ev fv:Value}(h:SB w b x ev fv)(n:Int):SB (w.setCell ⟨b,5,none⟩ (.int .i64 n)) b { x with n:=n } ev fv :=
 ⟨by simpa[eca]using h.lt,by simp[fca];exact h.c0,by simp[fca];exact h.c1,by simp[fca];exact h.c2,by simp[fca];exact h.c3,by simp[fca];exact h.c4,by simp[gca,h.c5],by simp[fca];exact h.c6,by simp[fca];exact h.c7,by simp[fca];exact h.c8,fun j=>by simpa using h.fr j⟩
def Ok(S:Nat→Prop)(w:World)(Q:World→Prop):Prop:=∀ w':World,w.heap.size≤w'.heap.size→(∀ k,k<w.heap.size→¬ S k→w'.heap[k]? = w.heap[k]?)→Q w'
theorem Ok.now{S:Nat→Prop}{w:World}{Q:World→Prop}(h:Ok S w Q):Q w:=h w (aaa _) (fun _ _ _=>rfl)
theorem Ok.step{S S':Nat→Prop}{w w':World}{Q:World→Prop}(h:Ok S w Q)(M:w.heap.size≤w'.heap.size)(L:∀ k,k<w.heap.size→¬ S k→w'.heap[k]? = w.heap[k]?)(J:∀ k,k<w.heap.size→S' k→S k):Ok S' w' Q :=
 fun E H I=>h E (yba M H) (fun k A G=>(I k Tf (fun e=>G (J k A e))).trans (L k A G))
theorem Ok.below{S:Nat→Prop}{w w':World}{Q:World→Prop}(h:Ok S w Q)(A:Below w.heap.size w w'):Ok S w' Q :=
 h.step A.size (fun k E _=>A.block k E) (fun _ _ e=>e)
theorem Ok.mono{S S':Nat→Prop}{w:World}{Q:World→Prop}(h:Ok S w Q)(A:∀ k,k<w.heap.size→S' k→S k):Ok S' w Q :=
 h.step (aaa _) (fun _ _ _=>rfl) A
theorem Ok.imp{S:Nat→Prop}{w:World}{Q A:World→Prop}(h:Ok S w Q)(hi:∀ u,Q u→A u):Ok S w A:=fun w' E G=>hi _ (h w' E G)
theorem Ok.setCell{S:Nat→Prop}{w:World}{Q:World→Prop}(h:Ok S w Q)(p:Addr)(E:S p.block)(u:Value):Ok S (w.setCell p u) Q :=
 h.step (by simp[eca]) (fun k _ A=>Below.heap_setCell _ _ _ _ (fun e=>A (by rw[e];exact E))) (fun _ _ e=>e)
theorem Ok.drew{S:Nat→Prop}{w:World}{Q:World→Prop}(h:Ok S w Q):Ok S w.drew Q:=h.step (aaa _) (fun _ _ _=>rfl) (fun _ _ e=>e)
theorem Gm{S:Nat→Prop}{w:World}{G:Nat}{e:TypeId}{v:Value}{size n:Nat}{L:List Value}(h:w.ownsRow G e size v n L)(Y:∀ k,v.ownBlock=some k→¬ S k):Ok S w (fun u=>bi u v size n L):=fun w' O Q=>by
 have hs:=Ti h;obtain⟨hl,A,c,J,hc,hf⟩:=hs;refine⟨hl,A,c,J,hc,fun M=>?_⟩;obtain⟨b,off,I,H,E⟩:=hf M;refine⟨b,off,I,mba H O,fun j u hj=>?_⟩;have Z:v.ownBlock=some b:=by rw[J,I];rfl
 exact(World.cell?_of_block (a:=⟨b,off+j,none⟩) (Q b H (Y b Z))).trans (E j u hj)
def iL(n:Nat):Nat→Prop:=fun k=>k<n
def qP(v:Value):Nat→Prop:=fun k=>v.ownBlock=some k
theorem Wk{P:Program}{w:World}{O:Array Oper}{rest:List Oper}{o:Oper}{a:Act}{Q:Exit→Act→World→Prop}(Z:o.guard=none)(s x:Operand)(t:TypeId)(ho:o.op = .call { callee:=.builtin .append,args:=#[s,x],argTypes:=#[t,t] })(E:Nat)(e:TypeId)(i:TypeInfo)(z:Value)(size bytes:Nat)(ht:P.underlying t=some (.slice e))(hi:P.info? e=some i)(hz:i.zero=some z)(M:i.size=size)(ao:i.bytes=bytes)(aT:z.cells.size=size)(av:0<size)(v:Value)(n:Nat)(xs:List Value)(hs:a.eval s=v)(H:w.ownsRow E e size v n xs)(u:Value)(m:Nat)(G:List Value)(hx:a.eval x=u)(hu:bi w u size m G)(h1:∀ u∈G,u.oneCell'=true)(al:n+m≤maxLen)(J:(n+m)*bytes≤140737488355328)(I:E≤w.heap.size)(h:∀ v' w',w'.ownsRow E e size v' (n+m) (xs++G)→Below E w w'→w.grownBy w' v.ownBlock→(v'.ownBlock=v.ownBlock∨v'.ownBlock=some w.heap.size)→wpList P O Q rest (a.put o.dst v') w'):wpList P O Q (o::rest) a w:=by
 obtain⟨hl,A,c,rfl,hc,hf⟩:=hu;have hgo:∀ (Y:Addr),A=some Y→(∀ j x,G[j]? = some x→w.cell? (Y.add j)=some x)→wpList P O Q (o::rest) a w:=fun Y hA L=>by subst hA;refine wpList_append_own_at w Z s x t ho E e i z size bytes ht hi hz M ao aT av v n xs hs H Y m c G hx hl L h1 al J I ?_;intro v' w' h2 h3 _ h5;exact h v' w' h2 ((Gaa _ _).grown h3 I (fun g hg=>(H.lt g hg).1)) h3 h5
 by_cases hm:0<m;·exact zb
 ·obtain rfl:m=0:=by omega
  obtain rfl:G=[]:=List.eq_nil_of_length_eq_zero (by rw[hl];omega);cases A with
  |some Y=>exact hgo Y rfl Yf
  |none =>refine wpList_plain Z fun K hK=>?_;have af:=qn (P:=P) w E t o.type e i size ht hi v n c xs H;unfold Oper.wp;simp[execOp,ho,resolve,invoke,builtin,hs,hx,af,Result.andThen];refine hK _ _ (h v w ?_ (Gaa _ _) ⟨rfl,rfl,rfl,aaa _,fun _ _ _=>rfl⟩ (.inl rfl));simpa using H
theorem Ok.app{v v':Value}{w w':World}{Q:World→Prop}(h:Ok (qP v) w Q)(G:w.grownBy w' v.ownBlock)(E:v'.ownBlock=v.ownBlock∨v'.ownBlock=some w.heap.size):Ok (qP v') w' Q :=
 h.step G.size (fun k H I=>G.block k H (fun e=>I e.symm)) (fun k H (e:v'.ownBlock=some k)=>by
  rcases E with A|A;·exact A.symm.trans e
  ·rw[A]at e;injection e with e;omega)
theorem Ok.app2{T:Nat→Prop}{v v':Value}{w w':World}{Q:World→Prop}(h:Ok (fun k=>v.ownBlock=some k∨T k) w Q)(E:w.grownBy w' v.ownBlock)(A:v'.ownBlock=v.ownBlock∨v'.ownBlock=some w.heap.size):Ok (fun k=>v'.ownBlock=some k∨T k) w' Q :=
 h.step E.size (fun k G H=>E.block k G (fun e=>H (.inl e.symm))) (fun k G e=>by
  rcases e with e|e
  ·rcases A with h1|h1;·exact .inl (h1.symm.trans e)
   ·exact Kf
  ·exact .inr e)
end Go.Proofs.YtjcihcncljihoaaGreatDoor
namespace Go.Proofs.YtjcihcncljihoaaGreatDoor
open Go Go.RowKit Go.Shelf
set_option linter.unusedVariables false
open Go.Fence renaming wide→jca
open Go.Lib renaming hid→kaa,indexByte→ica
open Go.World renaming cell?_setCell_same'→gca,frozen?_setCell→mca
open List renaming append_nil→Maa,cons_append→Kaa,length_append→xaa,length_cons→jaa,length_pos_iff→kca,nil_append→Yaa,prefix_refl→lca
attribute [local go_sem] Oper.semAt_some
theorem CF(s:ByteArray)(a b:Nat):s.extract a b=vh ((s.data.toList.drop a).take (b - a)):=by rw[← oz (s.extract a b)];congr 1;rw[← ByteArray.toList_eq,Wl]
theorem fN(s:ByteArray)(a:Nat):s.extract a s.size=vh (s.data.toList.drop a):=by rw[CF,List.take_of_length_le];rw[List.length_drop,Array.length_toList];show s.size - a≤_;omega
def Sk:List UInt8→List UInt8→List (List UInt8)
 |cur,[]=>if cur=[]then []else [cur]
 |cur,c::r=>if c=10 then (cur++[10])::Sk [] r else Sk (cur++[c]) r
def Kj(s:List UInt8):List (List UInt8):=Sk [] s
theorem Pr:∀ (y cur r:List UInt8),10 ∉ y→Sk cur (y++10::r)=(cur++y++[10])::Sk [] r
 | [],cur,r,_=>by rw[Yaa,Maa,Sk,if_pos rfl]
 |c::y,cur,r,h=>by have A:¬ c=10:=fun e=>h (by simp[e]);have E:10 ∉ y:=fun e=>h (by simp[e]);rw[Kaa,Sk,if_neg A,Pr y (cur++[c]) r E];simp
theorem Lu:∀ (y cur:List UInt8),10 ∉ y→Sk cur y=if cur++y=[]then []else [cur++y]
 | [],cur,_=>by rw[Sk,Maa]
 |c::y,cur,h=>by have A:¬ c=10:=fun e=>h (by simp[e]);have E:10 ∉ y:=fun e=>h (by simp[e]);rw[Sk,if_neg A,Lu y (cur++[c]) E];simp
theorem vF:∀ s:List UInt8,(ica s 10 = -1∧10 ∉ s)∨∃ a b,s=a++10::b∧10 ∉ a∧ica s 10=(a.length:Int)
 | []=>.inl ⟨by unfold ica;rfl,by simp⟩
 |c::l=>by
  by_cases A:c=10;·subst A;exact .inr ⟨[],l,rfl,by simp,by unfold ica;simp⟩
  ·rcases vF l with⟨G,E⟩|⟨a,b,rfl,E,h3⟩;·refine .inl ⟨?_,by simp;exact⟨fun e=>A e.symm,E⟩⟩;unfold ica;rw[G];simp[A]
   ·refine .inr ⟨c::a,b,rfl,by simp;exact⟨fun e=>A e.symm,E⟩,?_⟩;unfold ica;rw[h3];have:¬ ((a.length:Int) = -1):=by omega
    simp[A,this]
def pF(w:World)(b:Nat):Nat:=match w.cell? ⟨b,0,none⟩with
 |some (.string s)=>s.size
 |_=>0
theorem Zs{w:World}{b:Nat}{s:ByteArray}(h:w.cell? ⟨b,0,none⟩=some (.string s)):pF w b=s.size:=by unfold pF;rw[h]
theorem tH(n:Nat)(hn:1≤n)(l Bs:Nat)(s:List UInt8)(hs:s.length≤1000000)(J Jx:List (List UInt8)→World→Prop)
 (hJ:∀ A W u,J A W→J A (W.setCell ⟨Bs,0,none⟩ u)) (a7:∀ A W,J A W→J A W.drew)
 (hY:∀ A x W,(A++[x]) <+: Kj s→J A W→YieldAt jca (n - 1) Tryz.prog l #[.string (vh x)] W fun e W' =>
  (e = .returned (.bool true)∧J (A++[x]) W'∧W'.cell? ⟨Bs,0,none⟩=W.cell? ⟨Bs,0,none⟩∧W'.frozen? ⟨Bs,0,none⟩=W.frozen? ⟨Bs,0,none⟩)∨(e = .returned (.bool false)∧Jx (A++[x]) W'))
 (W:World) (hc:W.cell? ⟨Bs,0,none⟩=some (.string (vh s))) (hf:W.frozen? ⟨Bs,0,none⟩=false) (h0:J [] W) :
 CallsIn jca n Tryz.prog 169 #[.func (.yield l) #[] #[],.pointer (some ⟨Bs,0,none⟩)] W fun e W'=>(∃ v,e = .returned v) ∧
  (J (Kj s) W'∨∃ A,A <+: Kj s∧Jx A W'):=by
 refine callsIn_of_wp Tryz.func169 rfl trivial ?_ rfl
 simp only[Tryz.ntmps169,List.size_toArray,jaa,List.length_nil,Nat.reduceAdd,Nat.reduceSub,Array.replicate_succ,Array.replicate_zero,List.push_toArray,List.append_toArray,Yaa,Kaa]
 gi_wp2
 gi_loopw [3] (fun _ wr=>∃ (A:List (List UInt8)) (rest:List UInt8),Kj s=A++Kj rest∧rest.length≤1000000∧wr.cell? ⟨Bs,0,none⟩=some (.string (vh rest))∧wr.frozen? ⟨Bs,0,none⟩=false∧J A wr) (fun _ wr=>pF wr Bs)
 case atStart=>exact⟨[],s,rfl,hs,hc,hf,h0⟩
 case round =>
  obtain⟨A,rest,af,G,H,aX,a0⟩:=hrel;have E:=kaa af;have Z:=kaa a0;clear hc hf h0 af a0;by_cases O:rest=[];·subst O;gi_wp2;go_end0;refine⟨⟨_,rfl⟩,.inl ?_⟩;have:=E.out;rw[show Kj []=[]from rfl,Maa]at this;rw[this];exact Z.out
  ·have bf:0<(vh rest).size:=by rw[Dh];exact kca.2 O
   rcases vF rest with⟨hi,Q⟩|⟨a,b,rfl,Q,hi⟩
   ·have HL:Hid (Kj rest=[rest]):=by show Sk [] rest=_;rw[Lu _ _ Q,Yaa,if_neg O]
    obtain⟨fn,tmps,ad,body,hy,hR⟩:=hY A rest (wr.setCell ⟨Bs,0,none⟩ (.string ⟨#[]⟩)) (by rw[E.out,HL.out];exact lca _) (hJ _ _ _ Z.out);have ao:=kaa hR;clear hR hY;have M:ica (vh rest).data.toList (10:Int).toNat.toUInt8 = -1:=by rw[Yi];exact hi
    have Y:Hid (∀ u,CallsIn jca (n - 1) Tryz.prog 170 #[.string (vh rest),.int .u8 10] u fun e w'=>e = .returned (.int .i64 (-1))∧w'=u):=fun u=>by have:=Tryz.strings_IndexByte (vh rest) 10 u;rw[M]at this;exact callsIn_wide.2 this
    clear hi Q M;gi_wp2_with (refine⟨trivial,?_⟩;gi_at_call 170;refine(Y.out _).mono ?_;rintro e w' ⟨rfl,rfl⟩);refine ao.out.mono ?_;rintro e W3 (⟨rfl,aT,aU,aV⟩|⟨rfl,I⟩)
    ·have L:W3.cell? ⟨Bs,0,none⟩=some (.string (vh [])):=aU.trans (gca _ _ _ (by rw[H];rfl));have aW:W3.frozen? ⟨Bs,0,none⟩=false:=by rw[aV,mca];exact aX
     have HE:Hid (Kj s=(A++[rest])++Kj []):=by show _=_;rw[E.out,HL.out];show _=_++[];rw[Maa]
     gi_wp2;go_roundw;case rel=>exact⟨A++[rest],[],HE.out,Nat.zero_le _,L,aW,aT⟩
     case measure=>rw[Zs L,Zs H,Dh,Dh];exact kca.2 O
    ·gi_wp2;refine bodyPost_ret (results_none rfl _ _ _) rfl ?_;exact⟨⟨_,rfl⟩,.inr ⟨A++[rest],by rw[E.out,HL.out];exact lca _,I⟩⟩
   ·have HL:Hid (Kj (a++10::b)=(a++[10])::Kj b):=by show Sk [] _=_;rw[Pr _ _ _ Q,Yaa];rfl
    have a2:(vh (a++10::b)).extract 0 (a.length+1)=vh (a++[10]):=by rw[CF,Yi,List.drop_zero,Nat.sub_zero];congr 1;rw[show a++10::b=(a++[10])++b by simp,List.take_left' Yf]
    have bg:(vh (a++10::b)).extract (a.length+1) (vh (a++10::b)).size=vh b:=by rw[fN,Yi];congr 1;rw[show a++10::b=(a++[10])++b by simp,List.drop_left' Yf]
    have bb:b.length≤1000000:=by simp only[xaa,jaa]at G;omega
    have aY:(vh b).size<(vh (a++10::b)).size:=by rw[Dh,Dh];simp only[xaa,jaa];omega
    have a9:(a.length:Int)+1≤((vh (a++10::b)).size:Int):=by rw[Dh];simp only[xaa,jaa];omega
    have bk:(0:Int)≤(a.length:Int):=Int.natCast_nonneg _;have a8:(a.length:Int)<((vh (a++10::b)).size:Int):=by omega
    have bh:(a.length:Int)≤1000000:=by simp only[xaa,jaa]at G;omega
    have bs:(0:Int)≤(a.length:Int)+1:=by omega
    have bt:a.length≤1000000:=by simp only[xaa,jaa]at G;omega
    have aZ:=fun(U:World) (hU:J A U)=>hY A (a++[10]) U (by rw[E.out,HL.out];exact⟨Kj b,by simp⟩) hU;have av:=kaa aZ;have M:ica (vh (a++10::b)).data.toList (10:Int).toNat.toUInt8=(a.length:Int):=by rw[Yi];exact hi
    have Y:Hid (∀ u,CallsIn jca (n - 1) Tryz.prog 170 #[.string (vh (a++10::b)),.int .u8 10] u fun e w'=>e = .returned (.int .i64 (a.length:Int))∧w'=u):=fun u=>by have:=Tryz.strings_IndexByte (vh (a++10::b)) 10 u;rw[M]at this;exact callsIn_wide.2 this
    have al:Hid (Kj s=(A++[a++[10]])++Kj b):=by show _=_;rw[E.out,HL.out];simp
    clear hi Q M G hY aZ O HL E;generalize vh (a++10::b)=S at H bf a2 bg aY a9 a8 Y;generalize a++[10]=X at a2 av al;gi_wp2_with (refine⟨trivial,?_⟩;gi_at_call 170;refine(Y.out _).mono ?_;rintro e w' ⟨rfl,rfl⟩);refine wpIn_wide.2 ?_;go_region;have a3:Hid ((w'.setCell ⟨Bs,0,none⟩ (.string (vh b))).drew.cell? ⟨Bs,0,none⟩=some (.string (vh b))):=gca _ _ _ (by rw[H];rfl);have a4:Hid ((w'.setCell ⟨Bs,0,none⟩ (.string (vh b))).drew.frozen? ⟨Bs,0,none⟩=false):=by show(w'.setCell ⟨Bs,0,none⟩ (.string (vh b))).frozen? ⟨Bs,0,none⟩=false;rw[mca];exact aX
    obtain⟨fn,tmps,ad,body,hy,hR⟩:=av.out _ (a7 _ _ (hJ _ _ (.string (vh b)) Z.out));have ao:=kaa hR;have a1:pF w' Bs=S.size:=Zs H;have a6:=kaa a1;have a5:=kaa aY;clear hR H aX a1 aY Z av;gi_wp2;refine ao.out.mono ?_;rintro e W3 (⟨rfl,aT,aU,aV⟩|⟨rfl,I⟩)
    ·have L:W3.cell? ⟨Bs,0,none⟩=some (.string (vh b)):=aU.trans a3.out;have aW:W3.frozen? ⟨Bs,0,none⟩=false:=aV.trans a4.out;gi_wp2;go_roundw;case rel=>exact⟨A++[X],b,al.out,bb,L,aW,aT⟩
     case measure=>rw[Zs L,a6.out];exact a5.out
    ·gi_wp2;refine bodyPost_ret (results_none rfl _ _ _) rfl ?_;exact⟨⟨_,rfl⟩,.inr ⟨A++[X],by rw[al.out];exact List.prefix_append _ _,I⟩⟩
end Go.Proofs.YtjcihcncljihoaaGreatDoor
namespace Go.Proofs.YtjcihcncljihoaaGreatDoor
open Go Go.RowKit
set_option linter.unusedVariables false
open Int renaming toNat_natCast→saa
open List renaming getElem_mem→dba,length_append→xaa,length_cons→jaa,length_drop→vaa,length_take→nca,mem_cons→Aaa,take_append_drop→Baa
theorem uh.above{g q:Nat}{a b:World}(h:uh g a b)(hq:a.heap.size≤q)(o:Nat)(u:Value):uh g a (b.setCell ⟨q,o,none⟩ u) :=
 ⟨h.os,h.tape,h.output,by rw[World.size_setCell];exact h.size,fun k E A=>(Below.heap_setCell _ _ _ _ (fun e=>by simp only at e;omega)).trans (h.block k E A)⟩
theorem Im{α:Type}{e p:Int}{i:Nat}{r:RS α}{d:α}{n:Nat}(hi:i≤n)(hr:∀ x j,r = .inl (x,j)→j≤n):(ri e p i r d).2.1≤n:=by
 unfold ri;split
 ·split;·exact hr _ _ rfl
  ·exact hi
 ·exact hi
theorem KD{l:List xh}{s:List UInt8}{i:Nat}{e p:Int}:(mI l s i e,mE l s i e,mP l s i e p)=(ri e p i (Oh l s i) ()).2:=by
 unfold mI mE mP ri Oh;by_cases A:e=0
 ·subst A;by_cases E:Qh l i s=true;·simp[E]
  ·simp[E,wE,wP,cj]
 ·simp[A,wE,wP]
structure Sv where
 s:St
 ev:Value
 fv:Value
def Sv.cells(x:Sv):List Value:=[.int .i64 x.s.kind,.string (vh x.s.reg),.string (vh x.s.name),x.ev,x.fv,.int .i64 x.s.n,.int .i64 x.s.body,.int .i64 x.s.els,.int .i64 x.s.pos]
theorem Sv.cells_len(x:Sv):x.cells.length=9:=rfl
theorem Es{g:Nat}{w w':World}{B:Nat}{e:TypeId}{size:Nat}{v:Value}{n:Nat}{H:List Value}(h:w.ownsRow B e size v n H)(E:v.ownBlock≠some g)(J:∀ k,k<w.heap.size→k≠g→w'.heap[k]? = w.heap[k]?):w'.ownsRow B e size v n H:=by
 refine⟨h.1,?_⟩;rcases h.2 with I|⟨q,A,cur,G,hq,hh,r⟩;·exact .inl I
 ·refine .inr ⟨q,A,cur,G,hq,?_,r⟩;have hlt:q<w.heap.size:=by exact Zc
  exact(J q hlt (fun e=>E (by rw[G,← e];rfl))).trans hh
theorem vm:(Tryz.prog.info? 44).map (fun i=>(i.zero,i.size,i.bytes))=some (some (.agg #[.int .i64 0,.string ⟨#[]⟩,.string ⟨#[]⟩,.slice none 0 0,.slice none 0 0,.int .i64 0,.int .i64 0,.int .i64 0,.int .i64 0]),9,120):=by kernel_rfl
theorem Ns{w:World}{B:Nat}{e:TypeId}{size:Nat}{v:Value}{n:Nat}{G:List Value}(h:w.ownsRow B e size v n G){g:Nat}(A:v.ownBlock=some g)(o:Nat)(H:o<n*size)(u:Value):(w.setCell ⟨g,o,none⟩ u).ownsRow B e size v n (G.set o u):=by
 refine⟨by rw[List.length_set];exact h.1,?_⟩;rcases h.2 with⟨rfl,_⟩|⟨q,cap,cur,hv,hq,hh,hn,hc,hs,ht⟩;·cases A
 ·have E:q=g:=by rw[hv]at A;injection A
  subst E;have hlt:q<w.heap.size:=by exact Zc
  refine .inr ⟨q,cap,cur.setIfInBounds o u,hv,hq,?_,hn,hc,by simpa using hs,?_⟩;·unfold World.setCell;simp only[Array.getElem?_modify,hh,Option.isSome_none];simp
  ·rw[← ht];simp only[Array.toList_setIfInBounds];rw[List.take_set]
inductive Rd:Bool→List St→Nat→Prop where
 | nil {b:Bool}:Rd b [] 0
 | leaf {b:Bool} {x:St} {r:List St} {d:Nat} (h11:x.kind≠11) (h12:x.kind≠12) (hb:x.body=0) (he:x.els=0) (h13:x.kind=13→b=true) (hr:Rd b r d):Rd b (x :: r) d
 | ifs {b:Bool} {x:St} {y z r:List St} {d1 d2 d:Nat} (h11:x.kind=11) (hb:x.body=(y.length:Nat)) (he:x.els=(z.length:Nat)) (hy:Rd b y d1) (hz:Rd b z d2) (hr:Rd b r d):Rd b (x :: (y++(z++r))) (max d (max (d1+1) (d2+1)))
 | loop {b:Bool} {x:St} {y r:List St} {d1 d:Nat} (h12:x.kind=12) (hb:x.body=(y.length:Nat)) (he:x.els=0) (hy:Rd true y d1) (hr:Rd b r d):Rd b (x :: (y++r)) (max d (d1+1))
theorem Rd.app{b:Bool}{l:List St}{d:Nat}(h:Rd b l d):∀ {m:List St} {A:Nat},Rd b m A→Rd b (l++m) (max d A):=by
 induction h with
 |nil=>intro m A hm;simpa using hm
 |leaf E G J L O hr ih=>intro m A hm;exact .leaf E G J L O (ih hm)
 | @ifs b x y z r H A d E J L Q Y hr _ _ ih =>
  intro m I hm
  have:=Rd.ifs E J L Q Y (ih hm)
  have e1:x::(y++(z++r))++m=x::(y++(z++(r++m))):=by simp
  have M:max (max d (max (H+1) (A+1))) I=max (max d I) (max (H+1) (A+1)):=by omega
  rw[e1,M];exact this
 | @loop b x y r H d G J L Q hr _ ih =>
  intro m I hm
  have:=Rd.loop G J L Q (ih hm)
  have e1:x::(y++r)++m=x::(y++(r++m)):=by simp
  have M:max (max d (H+1)) I=max (max d I) (H+1):=by omega
  rw[e1,M];exact this
theorem Rd.weak{b:Bool}{l:List St}{d:Nat}(h:Rd b l d):Rd true l d:=by
 induction h with
 |nil=>exact .nil
 |leaf A E G H L hr ih=>exact .leaf A E G H (fun _=>rfl) ih
 |ifs A G H M Q hr I J O=>exact .ifs A G H I J O
 |loop E G H M hr I J=>exact .loop E G H I J
def vi:Nat→Bool→List St→Int
 |_,_,[]=>0
 |0,_,_::_=>-1
 |f+1,b,x::r =>
  if x.body<0∨x.els<0∨(r.length:Int)<x.body+x.els then -1
  else if (x.kind≠11∧x.kind≠12∧0<x.body)∨(x.kind≠11∧0<x.els)∨(x.kind=13∧b=false)then -1
  else if x.kind=11∨x.kind=12 then
   if vi f (b||decide (x.kind=12)) (r.take x.body.toNat)<0∨vi f (b||decide (x.kind=12)) ((r.drop x.body.toNat).take x.els.toNat)<0 then -1
   else if vi f b (r.drop (x.body.toNat+x.els.toNat))<0 then -1
   else max (vi f b (r.drop (x.body.toNat+x.els.toNat))) (max (vi f (b||decide (x.kind=12)) (r.take x.body.toNat)+1) (vi f (b||decide (x.kind=12)) ((r.drop x.body.toNat).take x.els.toNat)+1))
  else vi f b r
theorem xw{b:Bool}{l:List St}{d:Nat}(h:Rd b l d):∀ f,l.length≤f→vi f b l=(d:Int):=by
 induction h with
 |nil=>intro f _;unfold vi;cases f<;>rfl
 | @leaf b x r d E G H I O hr ih =>
  intro f A
  cases f with
  |zero=>simp at A
  |succ f =>
   unfold vi
   rw[if_neg Tf,if_neg (by
    rintro(h|h|h);·omega
    ·omega
    ·rw[O h.1]at h;exact absurd h.2 Uf),if_neg Tf]
   exact ih f (by simpa using A)
 | @ifs b x y z r Z d2 d E H I hy hz hr Q Y i3 =>
  intro f A
  cases f with
  |zero=>simp at A
  |succ f =>
   simp only[jaa,xaa]at A
   have e1:(y++(z++r)).take x.body.toNat=y:=by rw[H,saa];simp
   have J:((y++(z++r)).drop x.body.toNat).take x.els.toNat=z:=by rw[H,I,saa,saa];simp
   have L:(y++(z++r)).drop (x.body.toNat+x.els.toNat)=r:=by rw[H,I,saa,saa,← List.append_assoc,← xaa];simp
   have M:(b||decide (x.kind=12))=b:=by rw[E];simp
   unfold vi
   rw[if_neg Zg,if_neg Tf,if_pos (.inl E),e1,J,L,M,Q f Tf,Y f Tf,i3 f Tf,if_neg Tf,if_neg Tf]
   omega
 | @loop b x y r Z d G H I hy hr Q Y =>
  intro f A
  cases f with
  |zero=>simp at A
  |succ f =>
   simp only[jaa,xaa]at A
   have e1:(y++r).take x.body.toNat=y:=by rw[H,saa];simp
   have J:((y++r).drop x.body.toNat).take x.els.toNat=[]:=by rw[I];simp
   have L:(y++r).drop (x.body.toNat+x.els.toNat)=r:=by rw[H,I,saa];simp
   have M:(b||decide (x.kind=12))=true:=by rw[G];simp
   have e5:vi f true []=0:=by unfold vi;cases f<;>rfl
   unfold vi
   rw[if_neg Zg,if_neg Tf,if_pos (.inr G),e1,J,L,M,Q f Tf,Y f Tf,e5,if_neg Tf,if_neg Tf]
   omega
theorem Rm:∀ (f:Nat) (b:Bool) (l:List St),l.length≤f→0≤vi f b l→Rd b l (vi f b l).toNat
 |f,b,[],_,_=>by
  have:vi f b []=0:=by unfold vi;cases f<;>rfl
  rw[this];exact .nil
 |0,b,x::r,h,_=>by simp at h
 |f+1,b,x::r,Z,h=>by
  simp only[jaa]at Z;unfold vi at h ⊢;by_cases c1:x.body<0∨x.els<0∨(r.length:Int)<x.body+x.els;·rw[if_pos c1]at h;omega
  ·rw[if_neg c1]at h ⊢;by_cases c2:(x.kind≠11∧x.kind≠12∧0<x.body)∨(x.kind≠11∧0<x.els)∨(x.kind=13∧b=false);·rw[if_pos c2]at h;omega
   ·rw[if_neg c2]at h ⊢;by_cases c3:x.kind=11∨x.kind=12
    ·rw[if_pos c3]at h ⊢;by_cases c4:vi f (b||decide (x.kind=12)) (r.take x.body.toNat)<0∨vi f (b||decide (x.kind=12)) ((r.drop x.body.toNat).take x.els.toNat)<0;·rw[if_pos c4]at h;omega
     ·rw[if_neg c4]at h ⊢;by_cases c5:vi f b (r.drop (x.body.toNat+x.els.toNat))<0;·rw[if_pos c5]at h;omega
      ·rw[if_neg c5];have Y:(r.take x.body.toNat).length=x.body.toNat:=by rw[nca];omega
       have l2:((r.drop x.body.toNat).take x.els.toNat).length=x.els.toNat:=by rw[nca,vaa];omega
       have H:=Rm f (b||decide (x.kind=12)) (r.take x.body.toNat) Tf Tf;have M:=Rm f (b||decide (x.kind=12)) ((r.drop x.body.toNat).take x.els.toNat) Tf Tf;have G:=Rm f b (r.drop (x.body.toNat+x.els.toNat)) (by rw[vaa];omega) Tf;have hr:r=r.take x.body.toNat++((r.drop x.body.toNat).take x.els.toNat++r.drop (x.body.toNat+x.els.toNat)):=by rw[← List.drop_drop,Baa,Baa]
       rcases c3 with A|E
       ·have J:(b||decide (x.kind=12))=b:=by rw[A];simp
        rw[J]at H M c4 ⊢;have:=Rd.ifs (x:=x) A (by rw[Y];omega) (by rw[l2];omega) H M G;rw[← hr]at this;have e:(max (vi f b (r.drop (x.body.toNat+x.els.toNat))) (max (vi f b (r.take x.body.toNat)+1) (vi f b ((r.drop x.body.toNat).take x.els.toNat)+1))).toNat=max (vi f b (r.drop (x.body.toNat+x.els.toNat))).toNat (max ((vi f b (r.take x.body.toNat)).toNat+1) ((vi f b ((r.drop x.body.toNat).take x.els.toNat)).toNat+1)):=by omega
        rw[e];exact this
       ·have J:(b||decide (x.kind=12))=true:=by rw[E];simp
        have Q:x.els=0:=by omega
        rw[J]at H M c4 ⊢;have I:(r.drop x.body.toNat).take x.els.toNat=[]:=by rw[Q];simp
        have O:vi f true []=0:=by unfold vi;cases f<;>rfl
        have L:x.body.toNat+x.els.toNat=x.body.toNat:=by omega
        rw[I,List.nil_append,L]at hr;rw[I,O]at c4;rw[I,O,L];rw[L]at G c5;have:=Rd.loop (x:=x) E (by rw[Y];omega) Q H G;rw[← hr]at this;have e:(max (vi f b (r.drop x.body.toNat)) (max (vi f true (r.take x.body.toNat)+1) (0+1))).toNat=max (vi f b (r.drop x.body.toNat)).toNat ((vi f true (r.take x.body.toNat)).toNat+1):=by omega
        rw[e];exact this
    ·rw[if_neg c3]at h ⊢;have G:=Rm f b r Tf h;exact .leaf (fun e=>c3 (.inl e)) (fun e=>c3 (.inr e)) Tf Tf (fun e=>by
      cases b with
      |true=>rfl
      |false=>exact absurd (.inr (.inr ⟨e,rfl⟩)) c2) G
theorem ym:∀ (f:Nat) (b:Bool) (l:List St),-1≤vi f b l
 |f,b,[]=>by
  have:vi f b []=0:=by unfold vi;cases f<;>rfl
  omega
 |0,b,x::r=>by unfold vi;exact Int.le_refl _
 |f+1,b,x::r=>by
  have A:=ym f (b||decide (x.kind=12)) (r.take x.body.toNat);have E:=ym f (b||decide (x.kind=12)) ((r.drop x.body.toNat).take x.els.toNat);have G:=ym f b (r.drop (x.body.toNat+x.els.toNat));have H:=ym f b r;unfold vi;repeat' split
  all_goals omega
theorem np:∀ (a b:List Kh),a.map qi=b.map qi→tj false a b=true
 | [],[],_=>rfl
 | [],y::b,h=>by simp at h
 |x::a,[],h=>by simp at h
 |x::a,y::b,h=>by simp only[List.map_cons,List.cons.injEq]at h;unfold tj;rw[np a b h.2];have A:=h.1;unfold qi at A;simp only[Kh.mk.injEq]at A;unfold Om;rw[A.1,A.2.1,A.2.2.1];simp
structure IN (l:List xh) (f:Nat→Dm):Prop where
 may:∀ i x tt,f i = .inl (x,tt)→x.may
 place:∀ i e p,f i = .inr (e,p)→∃ j:Nat,p=Ch l j
theorem XJ{x:Kh}{a b:Ex}(G:Ci x=true)(ha:a.may)(E:b.may):(Ex.two x a b).may:=fun y A=>by
 simp only[Ex.flat,Aaa,List.mem_append]at A;rcases A with rfl|A|A;·exact G
 ·exact ha y A
 ·exact E y A
theorem YJ{x:Kh}{a:Ex}(E:Ci x=true)(ha:a.may):(Ex.one x a).may:=fun y A=>by
 simp only[Ex.flat,Aaa]at A;rcases A with rfl|A;·exact E
 ·exact ha y A
theorem Fy{x:Kh}(E:Ci x=true):(Ex.leaf x).may:=fun y A=>by simp only[Ex.flat,Aaa,List.not_mem_nil,or_false]at A;subst A;exact E
theorem Gy{op pos:Int}(A:op≠1)(E:op≠2)(G:0≤pos)(H:pos≤4000):Ci ⟨op,0,[],pos⟩=true:=by unfold Ci;rw[if_neg Ag,if_neg A,if_neg E];rfl
theorem LN{l:List xh}{n:Nat}(h:∀ t∈l,Fi n t){i:Nat}(hi:i<l.length):Fi n (tk l i):=by rw[rj hi];exact h _ (dba hi)
theorem Aw{l:List xh}{n:Nat}(h:∀ t∈l,Fi n t){i:Nat}(hi:i<l.length):0≤(tk l i).pos∧(tk l i).pos≤n:=by have:=LN h hi;have A:=this.pos0;have E:=this.pos1;omega
theorem Ap{l:List xh}{n:Nat}(h:∀ t∈l,Fi n t)(J:n≤4000){i:Nat}(hi:i<l.length):(∀ x I,Fk l i = .inl (x,I)→x.may)∧(∀ e p,Fk l i = .inr (e,p)→∃ j:Nat,p=Ch l j):=by
 have L:=Aw h hi;have ht:=LN h hi;unfold Fk;split;·refine⟨fun z t A=>?_,fun e p A=>by cases A⟩;cases A;apply Fy;unfold Ci;have E:=ht.num0;have G:=ht.num1;rw[if_neg Ag,if_pos rfl];show(decide (0≤(tk l i).n)&&decide ((tk l i).n≤4294967296)&&true)=true;rw[decide_eq_true E,decide_eq_true G];rfl
 ·split;·rename_i H;refine⟨fun z t A=>?_,fun e p A=>by cases A⟩;cases A;apply Fy;unfold Ci;rw[if_neg Ag,if_neg (show ¬ ((2:Int)=1) by decide),if_pos rfl];show(true&&Hh (tk l i).text)=true;rw[H.2];rfl
  ·refine⟨fun z t A=>(by cases A),fun e p A=>?_⟩;cases A;exact⟨i,rfl⟩
theorem Iz{f:Nat→Dm}{n m:Nat}{l:List xh}(h:∀ t∈l,Fi m t)(hm:m≤4000)(H:IN l f):∀ (g:Nat) (x:Ex) (A:Nat),x.may →
  (∀ z t,lp f n l g x A = .inl (z,t)→z.may)∧(∀ e p,lp f n l g x A = .inr (e,p)→∃ j:Nat,p=Ch l j)
 |0,x,A,hx=>by unfold lp;exact ue
 |g+1,x,A,hx=>by
  unfold lp;by_cases G:opAt n l A=0;·rw[if_pos G];exact ue
  ·rw[if_neg G];have L:=Mo _ _ (Lk G).1;have M:=Aw h (Mq G);cases J:f (A+1)with
   |inr e =>refine⟨fun z t h=>Gg,fun e p h=>?_⟩;cases h;exact H.place _ _ _ J
   |inl r =>
    obtain⟨y,I⟩:=r;have E:(Ex.two ⟨opAt n l A,0,[],(tk l A).pos⟩ x y).may:=XJ (Gy Tf Tf M.1 Tf) hx (H.may _ _ _ J);simp only;split;·refine⟨fun z t h=>?_,fun e p h=>by cases h⟩;cases h;exact E
    ·exact Iz h hm H g _ I E
theorem nt{pr:Nat→Dm}{l:List xh}{m:Nat}(h:∀ t∈l,Fi m t)(hm:m≤4000)(H:IN l pr):∀ k,IN l (Dj pr l k)
 |0=>H
 |k+1=>by
  have ih:=nt h hm H k;constructor
  ·intro i x J A;unfold Dj at A;cases E:Dj pr l k i with
   |inr e=>rw[E]at A;cases A
   |inl r =>obtain⟨y,G⟩:=r;rw[E]at A;exact(Iz h hm ih _ y G (ih.may _ _ _ E)).1 _ _ A
  ·intro i e p A;unfold Dj at A;cases E:Dj pr l k i with
   |inr I=>rw[E]at A;cases A;exact ih.place _ _ _ E
   |inl r =>obtain⟨y,G⟩:=r;rw[E]at A;exact(Iz h hm ih _ y G (ih.may _ _ _ E)).2 _ _ A
theorem yw{l:List xh}{m:Nat}(h:∀ t∈l,Fi m t)(hm:m≤4000):∀ k,IN l (ti l k)
 |0=>by
  constructor
  ·intro i x J A;unfold ti at A;split at A;·cases A
   ·split at A;·cases A
    ·exact(Ap h hm Tf).1 _ _ A
  ·intro i e p A;unfold ti at A;split at A;·cases A;exact⟨i,rfl⟩
   ·split at A;·cases A;exact⟨i,rfl⟩
    ·exact(Ap h hm Tf).2 _ _ A
 |k+1=>by
  have ih:=yw h hm k;have H:=nt h hm ih 5;constructor
  ·intro i x J A;unfold ti at A;split at A;·cases A
   ·rename_i hi;have I:=Aw h (show i<l.length by omega);split at A
    ·cases E:ti l k (i+1)with
     |inr e=>rw[E]at A;cases A
     |inl r =>obtain⟨y,G⟩:=r;rw[E]at A;cases A;exact YJ (Gy (by split<;>decide) (by split<;>decide) I.1 Tf) (ih.may _ _ _ E)
    ·split at A
     ·cases E:Dj (ti l k) l 5 (i+1)with
      |inr e=>rw[E]at A;cases A
      |inl r =>
       obtain⟨y,G⟩:=r;rw[E]at A;simp only at A;split at A;·cases A;exact H.may _ _ _ E
       ·cases A
     ·exact(Ap h hm Tf).1 _ _ A
  ·intro i e p A;unfold ti at A;split at A;·cases A;exact⟨i,rfl⟩
   ·split at A
    ·cases E:ti l k (i+1)with
     |inr e =>rw[E]at A;cases A;exact ih.place _ _ _ E
     |inl r=>obtain⟨y,G⟩:=r;rw[E]at A;cases A
    ·split at A
     ·cases E:Dj (ti l k) l 5 (i+1)with
      |inr e =>rw[E]at A;cases A;exact H.place _ _ _ E
      |inl r =>
       obtain⟨y,G⟩:=r;rw[E]at A;simp only at A;split at A;·cases A
       ·cases A;exact⟨G,rfl⟩
     ·exact(Ap h hm Tf).2 _ _ A
theorem SF{z:Int}(A:0≤z)(E:z≤4000):wrap64 z=z:=by unfold wrap64;omega
theorem pp{l:List xh}{n:Nat}(h:∀ t∈l,Fi n t)(I:n≤4000)(j:Nat):0≤Ch l j∧Ch l j≤n:=by
 by_cases A:j<l.length;·rw[Wt A];have:=h _ (dba A);have G:=this.pos0;have H:=this.pos1;omega
 ·by_cases E:l.length=0;·rw[Lr E];omega
  ·obtain⟨m,hm⟩:∃ m,l.length=m+1:=⟨l.length - 1,by omega⟩;rw[Kr Tf hm];have:=h _ (dba (show m<l.length by omega));have G:=this.pos0;have H:=this.pos1;rw[SF Tf Tf];omega
theorem aJ{e:Ex}(A:e.ok)(hm:e.may)(E:e.deep≤12)(G:e.flat.length≤40):Fh e.flat=true∧Ej e.flat=e.show∧ou e.flat=e.deep:=by
 have hr:Fh e.flat=true:=by rw[Xp e A];have:e.flat.all Ci=true:=List.all_eq_true.2 hm;rw[this,decide_eq_true G,decide_eq_true E];rfl
 exact⟨hr,by unfold Ej;rw[if_pos hr,Cn e A],by unfold ou;rw[if_pos hr,Cn e A]⟩
end Go.Proofs.YtjcihcncljihoaaGreatDoor

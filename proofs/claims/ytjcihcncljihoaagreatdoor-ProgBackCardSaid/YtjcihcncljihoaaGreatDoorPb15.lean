/- Chapter 05 (programs), joined: CloA, StQO, StmP, StQP, PrgC. -/
import Derived.Test.YtjcihcncljihoaaGreatDoorPb13
set_option maxRecDepth 100000
set_option maxHeartbeats 4000000
namespace Go.Proofs.YtjcihcncljihoaaGreatDoor
open Go Go.RowKit
set_option linter.unusedVariables false
open Go.Lib renaming hid→kaa,run_eql_slice_nil→ada
open Go.RowKit.Below renaming refl→Gaa
open Go.World renaming alloc→Fba,drewN→Eba,ownsRow_made→bda,ownsRow_nil→Lca
open Int renaming toNat_natCast→saa
open List renaming eq_nil_of_length_eq_zero→pca,length_append→xaa,nil_append→Yaa
open Nat renaming le_refl→aaa,le_trans→yba,zero_le→laa
open bi renaming below→aca
open Go.Proofs.Tryz renaming prog→maa
theorem Nb{P:Prop}(h:P:=by go_quiet (fail);go_wp2_with fail;refine bodyPost_ret (Oi rfl _ _ _) rfl ?_;exact Rn HPS.out rfl rfl rfl (⟨[],rfl,Pv _ _ _⟩) (Hn HBB.out _)):P:=h
theorem Vc{P:Prop}(h:P:=by rw[show Gh 1=[114,101] by decide];unfold Hi zm;simp only[if_true];unfold Rk;rw[if_pos rfl,hn]):P:=h
theorem Ad{P:Prop}(h:P:=by
 rcases Nat.eq_zero_or_pos n with h|h;·exact h
 ·obtain⟨b,off,hA,_⟩:=hf h;cases hA):P:=h
theorem Jd{P:Prop}(h:P:=by go_wp2_with fail;go_ret;exact⟨none,0,rfl,World.ownsRow_nil _ _ _ _,Below.refl _ _⟩):P:=h
theorem oe{P:Prop}(h:P:=by unfold ej;rw[hk,if_neg (fun h=>absurd h.1 (by decide)),if_pos rfl,hp]):P:=h
theorem Ge{P:Prop}(h:P:=by go_ret;refine⟨A',c',rfl,?_,((al _ _).trans hb)⟩;simpa using hown):P:=h
theorem Oe{P:Prop}(h:P:=by
 refine⟨_,hP,h0,?_⟩;split;·exact h6 (by assumption)
 ·rfl):P:=h
theorem We{P:Prop}(h:P:=by rw[if_neg he];exact wJ l hl g T v o i e p pl _ n w h he):P:=h
theorem PH:(Tryz.prog.info? 66).map (fun i=>(i.zero,i.size,i.bytes))=some (some (.agg #[.int .i64 0,.string ⟨#[]⟩,.int .i64 0,.int .i64 0]),4,40):=by kernel_rfl
theorem MK(v:Value)(n:Nat)(cs:List Value)(w:World)(Q:bi w v 4 n cs)(hn:n≤1000000)(O:∀ u∈cs,u.oneCell'=true):Calls maa 186 #[v] w fun e w'=>∃ A c,e = .returned (.slice A n c)∧w'.ownsRow w.heap.size 66 4 (.slice A n c) n cs∧Below w.heap.size w w':=by
 obtain⟨i0,E,G,H,I⟩:=info_parts PH
 have M:=kaa Q
 obtain⟨hl,A,c,rfl,hc,hf⟩:=Q
 have q:∀ (w:World) (a:Option Addr) (n c J c':Nat),(binOp .eql 53 (.slice a n c) (.slice none J c')).run maa w = .ok (.bool a.isNone) w:=fun w a n c J c'=>ada w _ _ a n c J c' Tryz.underlying53
 cases A with
 |none =>
  have Z:n=0:=by exact Ad
  subst Z
  obtain rfl:cs=[]:=pca Tf
  clear M hf
  go_enter Tryz.func186,Tryz.ntmps186
  exact Jd
 |some a =>
  have L:Hid (0+n≤maxLen∧(0+n)*40≤140737488355328):=by show _∧_;unfold maxLen;constructor<;>omega
  have Y:=kaa O
  clear hf hl O hn
  go_enter Tryz.func186,Tryz.ntmps186
  go_wp2_with (at_builtin;refine Wk rfl _ _ 53 rfl w.heap.size 66 i0 _ 4 40 Tryz.underlying53 E G H I rfl Uf _ 0 [] rfl (bda w #[] 0 (aaa _) (laa _) Yf) (.slice (some a) n c) n cs rfl (aca M.out (al _ _)) Y.out L.out.1 L.out.2 Yf ?_;intro v' w' hown hb hg ad;obtain⟨A',c',rfl⟩:=yh hown)
  exact Ge
theorem UH:(Tryz.prog.info? 48).map (fun i=>(i.zero,i.size,i.bytes))=some (some (.agg #[.string ⟨#[]⟩,.int .i64 0,.int .i64 0]),3,32):=by kernel_rfl
theorem RK(v:Value)(n:Nat)(cs:List Value)(w:World)(Q:bi w v 3 n cs)(hn:n≤1000000)(O:∀ u∈cs,u.oneCell'=true):Calls maa 100 #[v] w fun e w'=>∃ A c,e = .returned (.slice A n c)∧w'.ownsRow w.heap.size 48 3 (.slice A n c) n cs∧Below w.heap.size w w':=by
 obtain⟨i0,E,G,H,I⟩:=info_parts UH
 have M:=kaa Q
 obtain⟨hl,A,c,rfl,hc,hf⟩:=Q
 have q:∀ (w:World) (a:Option Addr) (n c J c':Nat),(binOp .eql 23 (.slice a n c) (.slice none J c')).run maa w = .ok (.bool a.isNone) w:=fun w a n c J c'=>ada w _ _ a n c J c' Tryz.underlying23
 cases A with
 |none =>
  have Z:n=0:=by exact Ad
  subst Z
  obtain rfl:cs=[]:=pca Tf
  clear M hf
  go_enter Tryz.func100,Tryz.ntmps100
  exact Jd
 |some a =>
  have L:Hid (0+n≤maxLen∧(0+n)*32≤140737488355328):=by show _∧_;unfold maxLen;constructor<;>omega
  have Y:=kaa O
  clear hf hl O hn
  go_enter Tryz.func100,Tryz.ntmps100
  go_wp2_with (at_builtin;refine Wk rfl _ _ 23 rfl w.heap.size 48 i0 _ 3 32 Tryz.underlying23 E G H I rfl Uf _ 0 [] rfl (bda w #[] 0 (aaa _) (laa _) Yf) (.slice (some a) n c) n cs rfl (aca M.out (al _ _)) Y.out L.out.1 L.out.2 Yf ?_;intro v' w' hown hb hg ad;obtain⟨A',c',rfl⟩:=yh hown)
  exact Ge
theorem QH:(Tryz.prog.info? 44).map (fun i=>(i.zero,i.size,i.bytes))=some (some (.agg #[.int .i64 0,.string ⟨#[]⟩,.string ⟨#[]⟩,.slice none 0 0,.slice none 0 0,.int .i64 0,.int .i64 0,.int .i64 0,.int .i64 0]),9,120):=by kernel_rfl
theorem NK(v:Value)(n:Nat)(cs:List Value)(w:World)(Q:bi w v 9 n cs)(hn:n≤1000000)(O:∀ u∈cs,u.oneCell'=true):Calls maa 101 #[v] w fun e w'=>∃ A c,e = .returned (.slice A n c)∧w'.ownsRow w.heap.size 44 9 (.slice A n c) n cs∧Below w.heap.size w w':=by
 obtain⟨i0,E,G,H,I⟩:=info_parts QH
 have M:=kaa Q
 obtain⟨hl,A,c,rfl,hc,hf⟩:=Q
 have q:∀ (w:World) (a:Option Addr) (n c J c':Nat),(binOp .eql 39 (.slice a n c) (.slice none J c')).run maa w = .ok (.bool a.isNone) w:=fun w a n c J c'=>ada w _ _ a n c J c' Tryz.underlying39
 cases A with
 |none =>
  have Z:n=0:=by exact Ad
  subst Z
  obtain rfl:cs=[]:=pca Tf
  clear M hf
  go_enter Tryz.func101,Tryz.ntmps101
  exact Jd
 |some a =>
  have L:Hid (0+n≤maxLen∧(0+n)*120≤140737488355328):=by show _∧_;unfold maxLen;constructor<;>omega
  have Y:=kaa O
  clear hf hl O hn
  go_enter Tryz.func101,Tryz.ntmps101
  go_wp2_with (at_builtin;refine Wk rfl _ _ 39 rfl w.heap.size 44 i0 _ 9 120 Tryz.underlying39 E G H I rfl Uf _ 0 [] rfl (bda w #[] 0 (aaa _) (laa _) Yf) (.slice (some a) n c) n cs rfl (aca M.out (al _ _)) Y.out L.out.1 L.out.2 Yf ?_;intro v' w' hown hb hg ad;obtain⟨A',c',rfl⟩:=yh hown)
  exact Ge
theorem TH:(Tryz.prog.info? 46).map (fun i=>(i.zero,i.size,i.bytes))=some (some (.agg #[.int .i64 0,.int .i64 0,.string ⟨#[]⟩,.int .i64 0]),4,40):=by kernel_rfl
theorem QK(v:Value)(n:Nat)(cs:List Value)(w:World)(Q:bi w v 4 n cs)(hn:n≤1000000)(O:∀ u∈cs,u.oneCell'=true):Calls maa 103 #[v] w fun e w'=>∃ A c,e = .returned (.slice A n c)∧w'.ownsRow w.heap.size 46 4 (.slice A n c) n cs∧Below w.heap.size w w':=by
 obtain⟨i0,E,G,H,I⟩:=info_parts TH
 have M:=kaa Q
 obtain⟨hl,A,c,rfl,hc,hf⟩:=Q
 have q:∀ (w:World) (a:Option Addr) (n c J c':Nat),(binOp .eql 42 (.slice a n c) (.slice none J c')).run maa w = .ok (.bool a.isNone) w:=fun w a n c J c'=>ada w _ _ a n c J c' Tryz.underlying42
 cases A with
 |none =>
  have Z:n=0:=by exact Ad
  subst Z
  obtain rfl:cs=[]:=pca Tf
  clear M hf
  go_enter Tryz.func103,Tryz.ntmps103
  exact Jd
 |some a =>
  have L:Hid (0+n≤maxLen∧(0+n)*40≤140737488355328):=by show _∧_;unfold maxLen;constructor<;>omega
  have Y:=kaa O
  clear hf hl O hn
  go_enter Tryz.func103,Tryz.ntmps103
  go_wp2_with (at_builtin;refine Wk rfl _ _ 42 rfl w.heap.size 46 i0 _ 4 40 Tryz.underlying42 E G H I rfl Uf _ 0 [] rfl (bda w #[] 0 (aaa _) (laa _) Yf) (.slice (some a) n c) n cs rfl (aca M.out (al _ _)) Y.out L.out.1 L.out.2 Yf ?_;intro v' w' hown hb hg ad;obtain⟨A',c',rfl⟩:=yh hown)
  exact Ge
theorem RH:(Tryz.prog.info? 9).map (fun i=>(i.zero,i.size,i.bytes))=some (some (.string ⟨#[]⟩),1,16):=by kernel_rfl
theorem PK(v:Value)(n:Nat)(cs:List Value)(w:World)(Q:bi w v 1 n cs)(hn:n≤1000000)(O:∀ u∈cs,u.oneCell'=true):Calls maa 102 #[v] w fun e w'=>∃ A c,e = .returned (.slice A n c)∧w'.ownsRow w.heap.size 9 1 (.slice A n c) n cs∧Below w.heap.size w w':=by
 obtain⟨i0,E,G,H,I⟩:=info_parts RH
 have M:=kaa Q
 obtain⟨hl,A,c,rfl,hc,hf⟩:=Q
 have q:∀ (w:World) (a:Option Addr) (n c J c':Nat),(binOp .eql 38 (.slice a n c) (.slice none J c')).run maa w = .ok (.bool a.isNone) w:=fun w a n c J c'=>ada w _ _ a n c J c' Tryz.underlying38
 cases A with
 |none =>
  have Z:n=0:=by exact Ad
  subst Z
  obtain rfl:cs=[]:=pca Tf
  clear M hf
  go_enter Tryz.func102,Tryz.ntmps102
  exact Jd
 |some a =>
  have L:Hid (0+n≤maxLen∧(0+n)*16≤140737488355328):=by show _∧_;unfold maxLen;constructor<;>omega
  have Y:=kaa O
  clear hf hl O hn
  go_enter Tryz.func102,Tryz.ntmps102
  go_wp2_with (at_builtin;refine Wk rfl _ _ 38 rfl w.heap.size 9 i0 _ 1 16 Tryz.underlying38 E G H I rfl Uf _ 0 [] rfl (bda w #[] 0 (aaa _) (laa _) Yf) (.slice (some a) n c) n cs rfl (aca M.out (al _ _)) Y.out L.out.1 L.out.2 Yf ?_;intro v' w' hown hb hg ad;obtain⟨A',c',rfl⟩:=yh hown)
  exact Ge
def oF(l:List xh)(g:Nat)(w:World):Nat:=match w.cell? ⟨g,3,none⟩with
 |some (.int .i64 e)=>if e=0 then (match w.cell? ⟨g,1,none⟩with|some (.int .i64 i)=>l.length+2 - i.toNat|_=>0)else 0
 |_=>0
theorem LB{n:Nat}{l:List xh}{g:Nat}{v o:Value}{w:World}{i:Nat}{e p:Int}(h:PS (n:Int) w g v i e p o):oF l g w=if e=0 then l.length+2 - i else 0:=by unfold oF;rw[h.c3];simp only;rw[h.c1];simp only[saa]
theorem MG(l:List xh)(hl:l.length≤100000)(bf:∀ t∈l,t.text.length≤1000000)(d:Nat)(hd:d≤12)(HB:Uu l d)(g:Nat)(T:Nat→Prop)(v o:Value)(i:Nat)(p:Int)(pl:List Sv)(n:Nat)(w:World)(hn:n+1+d≤100)(h:RX (n:Int) l g T v o w i 0 p pl)(hD:decide ((12:Int)<12 - (d:Int))=false):Calls maa 216 #[.pointer (some ⟨g,0,none⟩),.int .i64 (12 - (d:Int))] w (Lx (n:Int) l (mi l (d+1) (decide (0<n)) i) g T v o p pl w):=by
 have a2:=kaa h;have ad:Hid (∀ (o:Value) (j:Nat) (p:Int) (pl:List Sv) u,RX (n:Int) l g T v o u j 0 p pl→Calls maa 243 #[.pointer (some ⟨g,0,none⟩),.int .i64 (12 - (d:Int))] u (Cp (n:Int) l (ej (mi l d) (decide (0<n)) l j) g T v o p pl u)):=fun o j p pl u hu=>rO l hl bf d hd HB g T v o j p pl n u hn hu;obtain⟨A,c,bg,bs⟩:=(h.ctx.now h.pq.lt).shape;subst bg;obtain⟨Ao,co,bb⟩:=yh h.row.own;subst bb;obtain⟨M,p0,p1,p2,p3,p4,p5,pf⟩:=h.pq;clear h HB;generalize hb:decide (0<n)=b at ad ⊢;clear hb;obtain⟨R,HR⟩:∃ R:RS (List St),Hid (mi l (d+1) b i=ME l R∧((Qh l i [123]=true∧R=Ij (ej (mi l d) b l) l (l.length+1 - (i+1)) (i+1))∨(Qh l i [123]=false∧R = .inr (cj l i 5)))):=by
  cases hs:Qh l i [123];·exact⟨.inr (cj l i 5),by rw[vC hs];rfl,.inr ⟨rfl,rfl⟩⟩
  ·exact⟨_,by rw[YK hs];rfl,.inl ⟨rfl,rfl⟩⟩
 rw[HR.out.1];go_enter Tryz.func216,Tryz.ntmps216;go_upto_region 2 with fail;go_quiet (fail);have O:=kaa (a2.out.drewN nq);have aV:=kaa ((uh.refl g w).drewN nq);clear M p0 p1 p2 p3 p4 p5 pf;generalize Eba _ _=X at O aV ⊢;go_upto_region 5 with(go_at_call 242;refine(Sj l hl [123] g _ _ i (yba O.out.im Uf) 0 p _ O.out.pq O.out.ctx).mono ?_;rintro r w2 ⟨rfl,av,aZ⟩);have aX:=kaa (O.out.keep av aZ (Sw _ _ _ _) (iq hl _ O.out.im _) Qq);have aW:=kaa (KR.of (.slice Ao pl.length co) (aV.out.trans av));have ao:Hid (Rest (ej (mi l d) b l) l R p (mI l [123] i 0) (mE l [123] i 0) (mP l [123] i 0 p) []∧(mE l [123] i 0=0→mI l [123] i 0≤l.length)):=by
  rcases HR.out.2 with⟨hs,hR⟩|⟨hs,hR⟩;·have h1:(0:Int)=0∧Qh l i [123]=true:=⟨rfl,hs⟩;have a7:=Zj hs;show Rest _ _ _ _ _ _ _ _∧_;unfold mI mE mP;rw[if_pos h1,if_pos h1,if_pos h1,hR];exact⟨nD _ _ _ _,fun _=>a7⟩
  ·have h1:¬ ((0:Int)=0∧Qh l i [123]=true):=fun h=>by rw[hs]at h;exact absurd h.2 Uf
   show Rest _ _ _ _ _ _ _ _∧_;unfold mI mE mP wE wP;have aY:¬ (if l.length≤i then (6:Int)else 5)=0:=by split<;>decide
   rw[if_neg h1,if_neg h1,if_neg h1,if_pos rfl,if_pos rfl];exact⟨.inr ⟨aY,hR⟩,fun h=>absurd h aY⟩
 clear av aZ;go_loopw [] (fun wr=>∃ (j:Nat) (e q:Int) (o':Value) (G:List Sv),RX (n:Int) l g T (.slice A l.length c) o' wr j e q (pl++G)∧KR g (.slice Ao pl.length co) o' w wr∧Rest (ej (mi l d) b l) l R p j e q (G.map (·.s))∧(e=0→j≤l.length)) (fun wr=>oF l g wr);case atStart=>exact⟨_,_,_,_,[],by rw[List.append_nil];exact aX.out,aW.out,ao.out.1,ao.out.2⟩
 case round =>
  obtain⟨j,e,q,o',G,hr,hk,Q,hj⟩:=hrel;have E:=kaa (hr);have H:=kaa (hk);have al:=kaa Q;have aU:=kaa hj;obtain⟨A3,c3,a9⟩:=dF hr.row.own;subst a9;clear hr hk Q hj aX aW ao;obtain⟨N,HN⟩:∃ N:Nat,Hid (N=pl.length+G.length):=⟨_,rfl⟩;have J:(pl++G).length=N:=by rw[xaa];exact HN.out.symm
  obtain⟨M,p0,p1,p2,p3,p4,p5,pf⟩:=E.out.pq;rw[J]at p5;clear J;by_cases he:e=0
  ·subst he;cases hs:Qh l j [125];all_goals have aT:Hid (∀ u,Below wr.heap.size wr u→Calls maa 23 #[.slice A l.length c,.int .i64 j,.string (vh [125])] u fun r w'=>r = .returned (.bool (Qh l j [125]))∧u=w'):=fun u hu=>Tu l Tf j [125] _ u ((E.out.below hu).ctx.now (E.out.below hu).pq.lt);have HS:=kaa hs;rw[hs]at aT;clear hs;go_upto_region 5 with fail;go_quiet (first|(go_at_call 23;refine(aT.out _ ?_).mono ?_;(repeat (first|exact Gaa _ _|refine Hn ?_ _|refine dm ?_));rintro e w' ⟨he,hw⟩;exact⟨he,_,hw.symm⟩));have a1:=kaa (LB (l:=l) E.out.pq);replace E:=kaa (E.out.drewN nq);replace H:=kaa (H.out.drewN nq);clear M p0 p1 p2 p3 p4 p5 pf;generalize Eba _ _=Y at E H ⊢
   ·go_wp2_with (go_at_call 243;refine(ad.out _ _ _ _ _ E.out).mono ?_;rintro r w4 ⟨j2,e2,p2,o2,bh,rfl,Z,L,a5⟩);have Q:=EG al.out (aU.out Mg) HS.out a5;go_roundw;case rel=>exact⟨j2,e2,p2,o2,G++bh,by rw[← List.append_assoc];exact Z,H.out.trans L,by rw[List.map_append];exact Q.1,fun h=>(Q.2 h).2⟩
    case measure =>
     have a8:oF l g wr=l.length+2 - j:=by rw[a1.out];simp
     rw[a8,LB Z.pq];have h3:=aU.out Mg;split;·rename_i h;have:=Q.2 h;omega
     ·omega
   ·obtain⟨M,p0,p1,p2,p3,p4,p5,pf⟩:=E.out.pq;go_upto_region 8 with(go_at_call 242;refine(Sj l hl [125] g _ _ j (yba E.out.im Uf) 0 q _ E.out.pq E.out.ctx).mono ?_;rintro r w4 ⟨rfl,L,a0⟩);have I:=kaa (E.out.keep L a0 (Sw _ _ _ _) (iq hl _ E.out.im _) Qq);have af:=kaa (H.out.trans (KR.of _ L));clear L a0 M p0 p1 p2 p3 p4 pf;obtain⟨M,p0,p1,p2,p3,p4,p5,pf⟩:=I.out.pq;have J:(pl++G).length=N:=by rw[xaa];exact HN.out.symm
    rw[J]at p5;have a3:(pl.length:Int)≤(N:Int):=by have:=HN.out;omega
    have a4:(N:Int)≤2000000:=by have:=I.out.n1;have:=I.out.im;omega
    clear J;go_wp2_with fail;go_ret;exact⟨_,_,_,_,G,ci (by have:=HN.out;omega),I.out,af.out,ML al.out HS.out⟩
  ·have HE:=kaa he;have a6:(e==0)=false:=by simpa using he
   have bk:(e != 0)=true:=by rw[bne,a6];rfl
   clear he;go_upto_region 5 with fail;go_quiet (fail);replace E:=kaa (E.out.drewN nq);replace H:=kaa (H.out.drewN nq);clear M p0 p1 p2 p3 p4 p5 pf;generalize Eba _ _=Y at E H ⊢;go_upto_region 8 with(go_at_call 242;refine(yo l hl [125] HE.out E.out).mono ?_;rintro r w4 ⟨rfl,L,Z⟩);have I:=kaa Z;have af:=kaa (H.out.trans (KR.of _ L));clear Z L;obtain⟨M,p0,p1,p2,p3,p4,p5,pf⟩:=I.out.pq;have J:(pl++G).length=N:=by rw[xaa];exact HN.out.symm
   rw[J]at p5;have a3:(pl.length:Int)≤(N:Int):=by have:=HN.out;omega
   have a4:(N:Int)≤2000000:=by have:=I.out.n1;have:=I.out.im;omega
   clear J;go_wp2_with fail;go_ret;exact⟨_,_,_,_,G,ci (by have:=HN.out;omega),I.out,af.out,NI al.out HE.out⟩
theorem xJ(l:List xh)(hl:l.length≤100000)(E:∀ t∈l,t.text.length≤1000000):∀ d,d≤13→Uu l d
 |0,_=>fun g T v o i e p pl n w H h=>by
  have A:(13 - ((0:Nat):Int))=13:=by omega
  rw[A];by_cases he:e=0
  ·subst he;rw[if_pos rfl];cases G:Qh l i [123];·exact zD l hl g T v o i p pl n w h _ G
   ·exact yD l hl g T v o i p pl n w h _ G
  ·exact We
 |d+1,I=>fun g T v o i e p pl n w H h=>by
  have A:(13 - ((d+1:Nat):Int))=12 - (d:Int):=by omega
  rw[A];by_cases he:e=0;·subst he;rw[if_pos rfl];exact MG l hl E d Tf (xJ l hl E d Tf) g T v o i p pl n w Tf h (by rw[decide_eq_false_iff_not];omega)
  ·exact We
theorem KR.belowB{B g:Nat}{o o':Value}{w0 w w':World}(h:KR g o o' w w')(A:Below B w0 w)(H:B≤g)(hB:B≤w.heap.size)(G:∀ k,o.ownBlock=some k→B≤k):Below B w0 w' :=
 ⟨h.os.trans A.os,h.tape.trans A.tape,h.output.trans A.output,yba A.size h.size,fun k E=>(h.block k Tf Tf (fun e=>by have:=G k e;omega)).trans (A.block k E)⟩
theorem tB{l:List xh}{n:Nat}{e p:Int}(h:mi l 13 false n = .inr (e,p)):sp l n=([],0,e,p):=by unfold sp;rw[if_neg Tf,saa,h]
theorem CJ{l:List xh}{n t:Nat}{x:List St}(h:mi l 13 false n = .inl (x,t))(A:40<x.length):sp l n=([],0,2,(tk l n).pos):=by unfold sp;rw[if_neg Tf,saa,h];simp only;rw[if_pos A]
theorem qM{l:List xh}{n t:Nat}{x:List St}(h:mi l 13 false n = .inl (x,t))(A:¬ 40<x.length):sp l n=(x,(t:Int),0,0):=by unfold sp;rw[if_neg Tf,saa,h];simp only;rw[if_neg A]
theorem AN{l:List xh}{n:Nat}(h:l.length≤n):mi l 13 false n = .inr (6,Ch l n):=by rw[vC (sn h [123])];unfold cj;rw[if_pos h]
theorem ry{n:Nat}(l:List xh)(hl:l.length≤100000)(s:List UInt8)(g:Nat)(v o:Value)(i:Nat)(E:l.length≤i)(e p:Int)(w:World)(J:PS (n:Int) w g v i e p o)(H:Jm g v l w):Calls maa 242 #[.pointer (some ⟨g,0,none⟩),.string (vh s)] w fun r w'=>r = .returned (.tuple #[])∧uh g w w'∧PS (n:Int) w' g v i (wE l i e 5) (wP l i e p) o:=by
 have G:=H.now J.lt;obtain⟨A,c,L,Q⟩:=G.shape;subst L;have HPA:=kaa J;have M:=kaa H;have HBD:Hid (∀ u,uh g w u→PS (n:Int) u g (.slice A l.length c) i e p o→Calls maa 241 #[.pointer (some ⟨g,0,none⟩),.int .i64 5] u fun r w'=>r = .returned (.tuple #[])∧uh g u w'∧PS (n:Int) w' g (.slice A l.length c) i (wE l i e 5) (wP l i e p) o):=fun u Z hq=>Fo l hl g _ o i e 5 p u hq (M.out.keep Z HPA.out.lt);have HIS2:Hid (∀ u:World,uh g w u→Calls maa 23 #[.slice A l.length c,.int .i64 i,.string (vh s)] u fun r w'=>r = .returned (.bool false)∧u=w'):=fun u O=>by have I:=Tu l Tf i s _ u ((M.out.keep O HPA.out.lt).now (Nat.lt_of_lt_of_le HPA.out.lt O.size));unfold Vk at I;rw[sn E]at I;exact I
 obtain⟨pl,p0,p1,p2,p3,p4,p5,pf⟩:=J;clear H G E;by_cases he:e=0;·subst he;exact Ba
 ·have Y:(e==0)=false:=by simpa using he
  exact Ia
theorem vJ{n:Nat}(l:List xh)(hl:l.length≤100000)(g:Nat)(v:Value)(i:Nat)(H:l.length≤i)(p:Int)(w:World)(hp:PS (n:Int) w g v i 0 p (.slice none 0 0))(hc:Jm g v l w):Calls maa 216 #[.pointer (some ⟨g,0,none⟩),.int .i64 0] w fun z w'=>z = .returned (.int .i64 0)∧uh g w w'∧PS (n:Int) w' g v i 6 (Ch l i) (.slice none 0 0):=by
 have L:=kaa hp;have HC:=kaa hc;have HF:=kaa H;have al:Hid (wE l i 0 5=6):=by show _=_;unfold wE;rw[if_pos rfl,if_pos H]
 have av:Hid (wP l i 0 p=Ch l i):=by show _=_;unfold wP;rw[if_pos rfl]
 have Q:Hid (∀ q,wE l i 6 5=6∧wP l i 6 q=q):=fun q=>by unfold wE wP;rw[if_neg Uf,if_neg Uf];exact⟨rfl,rfl⟩
 obtain⟨A,c,aU,aV⟩:=(hc.now hp.lt).shape;subst aU;obtain⟨I,p0,p1,p2,p3,p4,p5,pf⟩:=hp;clear hc H;go_enter Tryz.func216,Tryz.ntmps216;go_upto_region 2 with fail;go_quiet (fail);have Z:=kaa (L.out.drewN nq);have J:=kaa ((uh.refl g w).drewN nq);clear I p0 p1 p2 p3 p4 p5 pf;generalize Eba _ _=X at Z J ⊢;go_upto_region 5 with(go_at_call 242;refine(ry l hl [123] g _ _ i HF.out 0 p _ Z.out (HC.out.keep J.out L.out.lt)).mono ?_;rintro r w2 ⟨rfl,ad,M⟩);rw[al.out,av.out]at M;have aT:=kaa M;have ao:=kaa (J.out.trans ad);clear M ad;go_loopw [] (fun wr=>PS (n:Int) wr g (.slice A l.length c) i 6 (Ch l i) (.slice none 0 0)∧uh g w wr) (fun _=>0);case atStart=>exact⟨aT.out,ao.out⟩
 case round =>obtain⟨hr,hk⟩:=hrel;have G:=kaa (hr);have E:=kaa (hk);clear hr hk;obtain⟨I,p0,p1,p2,p3,p4,p5,pf⟩:=G.out;go_upto_region 5 with fail;go_quiet (fail);replace G:=kaa (G.out.drewN nq);replace E:=kaa (E.out.drewN nq);clear I p0 p1 p2 p3 p4 p5 pf;generalize Eba _ _=Y at G E ⊢;go_upto_region 8 with(go_at_call 242;refine(ry l hl [125] g _ _ i HF.out 6 _ _ G.out (HC.out.keep E.out L.out.lt)).mono ?_;rintro r w4 ⟨rfl,af,O⟩);rw[(Q.out 0).1,(Q.out _).2]at O;have HR4:=kaa O;have HK4:=kaa (E.out.trans af);clear O af;obtain⟨I,p0,p1,p2,p3,p4,p5,pf⟩:=HR4.out;exact Be
theorem oO(w:World)(v:Value)(i:Int)(t:TypeId):PS 0 (w.alloc (.cells #[v,.int .i64 i,.int .i64 0,.int .i64 0,.int .i64 0,.slice none 0 0] t)) w.heap.size v i 0 0 (.slice none 0 0):=by refine⟨by rw[World.size_alloc];omega,Uh _ _ _ _ _ rfl,Uh _ _ _ _ _ rfl,Uh _ _ _ _ _ rfl,Uh _ _ _ _ _ rfl,Uh _ _ _ _ _ rfl,Uh _ _ _ _ _ rfl,fun j=>by simp⟩
theorem Lo{w:World}{B E:Nat}{e:TypeId}{size:Nat}{v:Value}{n:Nat}{G:List Value}(h:w.ownsRow B e size v n G)(J:E≤B):w.ownsRow E e size v n G:=by
 refine⟨h.1,?_⟩;rcases h.2 with H|⟨q,A,cur,I,hq,r⟩;·exact .inl H
 ·exact .inr ⟨q,A,cur,I,by omega,r⟩
theorem ll.old{g:Nat}{w:World}{v:Value}{pl:List Sv}(h:ll (fun k=>k<g+1) (g+1) w v pl):ll (fun k=>k<g) g w v pl :=
 ⟨Lo h.own (Nat.le_succ _),fun x A=>(h.nods x A).mono (fun k _ e=>e.elim .inl (fun e=>.inr (Nat.lt_succ_of_lt e)))⟩
theorem Pv(T:Nat→Prop)(B:Nat)(w:World):ll T B w (.slice none 0 0) []:=⟨Lca _ _ _ _,fun x A=>by cases A⟩
def aA(l:List xh)(i:Int)(w:World)(e:Ending)(w':World):Prop :=
 ∃ V,e = .returned (.tuple #[V,.int .i64 (sp l i).2.1,.int .i64 (sp l i).2.2.1,.int .i64 (sp l i).2.2.2])∧(∃ pl:List Sv,pl.map (·.s)=(sp l i).1∧ll (fun k=>k<w.heap.size) w.heap.size w' V pl)∧Below w.heap.size w w'
theorem Rn{l:List xh}{i:Int}{R:List St × Int × Int × Int}(A:sp l i=R){w w':World}{V:Value}{a b c:Int}(ha:R.2.1=a)(G:R.2.2.1=b)(H:R.2.2.2=c)(E:∃ pl:List Sv,pl.map (·.s)=R.1∧ll (fun k=>k<w.heap.size) w.heap.size w' V pl)(hB:Below w.heap.size w w'):aA l i w (.returned (.tuple #[V,.int .i64 a,.int .i64 b,.int .i64 c])) w':=by subst A ha G H;exact⟨V,rfl,E,hB⟩
theorem fL(l:List xh)(hl:l.length≤100000)(a7:∀ t∈l,t.text.length≤1000000)(v:Value)(i:Int)(w:World)(hv:Vi w v l)(hE:Xj w):Calls maa 187 #[v,.int .i64 i] w (aA l i w):=by
 obtain⟨Av,cv,a8,bf⟩:=hv.shape;subst a8;by_cases hi:i<0
 ·have hR:sp l i=([],0,1,0):=by unfold sp;rw[if_pos hi]
  have HR:=kaa hR;clear hR hv;go_enter Tryz.func187,Tryz.ntmps187;go_wp2_with fail;refine bodyPost_ret (Oi rfl _ _ _) rfl ?_;exact Rn HR.out rfl rfl rfl (⟨[],rfl,Pv _ _ _⟩) (Gaa _ _)
 ·obtain⟨n,rfl⟩:=Int.eq_ofNat_of_zero_le (show 0≤i by omega);have bg:decide ((n:Int)<0)=false:=by simp
  have I:Hid (Jm w.heap.size (.slice Av l.length cv) l (w.alloc (.cells #[.slice Av l.length cv,.int .i64 n,.int .i64 0,.int .i64 0,.int .i64 0,.slice none 0 0] 217))):=⟨Sl.below hv (al _ _),hE.below (al _ _),hE.hm,hE.ht,hE.hr⟩;have H:=kaa (oO w (.slice Av l.length cv) n 217);have E:=kaa (al w (.cells #[.slice Av l.length cv,.int .i64 n,.int .i64 0,.int .i64 0,.int .i64 0,.slice none 0 0] 217));by_cases A:l.length≤n;·have HPS:=kaa (tB (AN A));have HF:=kaa A;clear hv hi A;go_enter Tryz.func187,Tryz.ntmps187;go_upto_region 4 with fail;generalize Fba w _=X at I H E ⊢;go_upto_region 6 with(go_at_call 216;refine(vJ (n:=0) l hl w.heap.size _ n HF.out 0 _ H.out I.out).mono ?_;rintro r w2 ⟨rfl,J,G⟩;obtain⟨a9,p0,p1,p2,p3,p4,p5,pf⟩:=G);go_quiet (fail);go_wp2_with fail;refine bodyPost_ret (Oi rfl _ _ _) rfl ?_;exact Rn HPS.out rfl rfl rfl (⟨[],rfl,Pv _ _ _⟩) (Hn ((KR.of (.slice none 0 0) J).belowB E.out (aaa _) E.out.size (fun k e=>by cases e)) _)
  ·have aT:Hid (RX (0:Int) l w.heap.size (fun k=>k<w.heap.size+1) (.slice Av l.length cv) (.slice none 0 0) (w.alloc (.cells #[.slice Av l.length cv,.int .i64 n,.int .i64 0,.int .i64 0,.int .i64 0,.slice none 0 0] 217)) n 0 0 []) :=
    ⟨H.out,⟨Lca _ _ _ _,fun x hx=>by cases hx⟩,I.out,fun _=>laa _,laa _,by omega,Nat.lt_succ_self _,fun k hk=>by have:=H.out.lt;omega⟩
   have a0:=kaa (xJ l hl a7 13 (aaa _));have aY:n<l.length:=by omega
   have bh:(0:Int)≤(n:Int):=Int.natCast_nonneg _;have bk:(n:Int)<(l.length:Int):=by omega
   obtain⟨aU,Z,ct,a2,a4,a3,O⟩:=hv.at_ Tf;cases a2;have Y:Hid (∀ u,Below w.heap.size w u→u.cell? ⟨aU,Z+n*4+3,none⟩=some (.int .i64 (tk l n).pos)):=fun u hu=>by have L:=(O n aY).pos;rw[← rj aY]at L;exact(hu.cell (p:=⟨aU,Z+n*4+3,none⟩) a3).trans L
   clear O a4 hv hi A;go_enter Tryz.func187,Tryz.ntmps187;go_upto_region 4 with fail;generalize Fba w _=X at I H E aT ⊢;go_upto_region 5 with(go_at_call 216;refine(Yz a0.out (n:=0) Tf Tf Tf aT.out).mono ?_;rintro r w2 ⟨j,e,p,o,pl,rfl,G,J,aW⟩);have ad:=(J.belowB E.out (aaa _) E.out.size (fun k e=>by cases e));have aZ:=kaa aW;have HBB:=kaa ad;have av:=kaa G;have L:=Y.out w2 ad;obtain⟨A3,c3,a6⟩:=dF G.row.own;subst a6;rw[Yaa]at av;obtain⟨a9,p0,p1,p2,p3,p4,p5,pf⟩:=G.pq;have af:Hid (mi l 13 false n = .inr (e,p)∧¬ e=0∨e=0∧∃ x,mi l 13 false n = .inl (x,j)∧pl.map (·.s)=x):=by
    have hb:=aZ.out
    show _∨_
    cases h:mi l 13 (decide (0<0)) n with
    |inr q =>obtain⟨a,c⟩:=q;rw[h]at hb;obtain⟨rfl,rfl,h3⟩:=hb;exact .inl ⟨h,h3⟩
    |inl q =>obtain⟨x,t⟩:=q;rw[h]at hb;obtain⟨rfl,h2,h3,h4⟩:=hb;exact .inr ⟨h2,x,h,h4⟩
   clear G J aW ad Y;rw[Yaa]at p5;obtain⟨ps,ao⟩:∃ ps,Hid ((tk l n).pos=ps):=⟨_,rfl⟩;rw[ao.out]at L;by_cases he:e=0
   ·subst he;obtain⟨x,hx,M⟩:∃ x,mi l 13 false n = .inl (x,j)∧pl.map (·.s)=x:=af.out.elim (fun h=>absurd rfl h.2) (fun h=>h.2);have Q:x.length=pl.length:=by rw[← M,List.length_map]
    by_cases aV:40<pl.length
    ·have HPS:Hid (sp l n=([],0,2,ps)):=(CJ hx Tf).trans (by rw[ao.out]);have aX:decide ((40:Int)<(pl.length:Int))=true:=by simp;omega
     clear hx Q aV M;go_upto_region 8 with fail;exact Nb
    ·have HPS:=kaa (qM hx Tf);have aX:decide ((40:Int)<(pl.length:Int))=false:=by simp;omega
     have a1:=kaa M;clear hx Q aV M;go_upto_region 9 with fail;go_quiet (fail);go_wp2_with fail;refine bodyPost_ret (Oi rfl _ _ _) rfl ?_;exact Rn HPS.out rfl rfl rfl ⟨pl,a1.out,(av.out.drewN nq).row.old⟩ (Hn HBB.out _)
   ·have HPS:=kaa (tB (af.out.elim (fun h=>h.1) (fun h=>absurd h.1 he)));have a5:(e==0)=false:=by simpa using he
    have bb:(e != 0)=true:=by rw[bne,a5];rfl
    clear he;go_upto_region 6 with fail;exact Nb
theorem iF{l:List xh}{A:Bool→Nat→RS (List St)}{b:Bool}{i:Nat}(h:l.length≤i):ej A b l i = .inr (6,Ch l l.length):=by
 have hk:Nh l i=1:=by
  by_cases E:Nh l i=1;·exact E
  ·have:=Po E;rw[sn h]at this;cases this
 have hn:Th l i = .inr (6,Ch l l.length):=by unfold Th cj;rw[if_neg Tf,if_pos h,Mr h]
 have hp:∀ x,Hi l (Gh 1) 0 x i = .inr (6,Ch l l.length):=fun x=>by exact Vc
 exact oe
theorem QL{l:List xh}{k:Nat}{x:xh}(E:1≤k)(A:k<l.length):Um k l (l.set (k - 1) x) :=
 ⟨by simp,A,fun i hi=>by rw[List.getElem?_set_ne Tf]⟩
theorem eH{l:List xh}{o k:Nat}(h1:1≤k)(hk:k≤l.length)(ho:Qh l o [123]=true):(∀ x t,Yl l o k = .inl (x,t)→sp (l.set (k - 1) (tk l o)) ((k - 1:Nat):Int)=(x,(t:Int),0,0))∧(∀ e p,Yl l o k = .inr (e,p)→∃ H,sp (l.set (k - 1) (tk l o)) ((k - 1:Nat):Int)=([],0,e,H)∧¬ e=0∧p=if e=6 then Ch l l.length else H):=by
 have L:k - 1<(l.set (k - 1) (tk l o)).length:=by simp;omega
 have E:(l.set (k - 1) (tk l o))[k - 1]=tk l o:=by simp
 have Q:=bj ho;have hs:Qh (l.set (k - 1) (tk l o)) ((k - 1:Nat):Int) [123]=true:=by rw[ax L,E,Q.1];rcases Q.2 with h|h<;>rw[h]<;>rfl
 have hS:Oh (l.set (k - 1) (tk l o)) [123] (k - 1) = .inl ((),k):=by unfold Oh;rw[if_pos hs,show k - 1+1=k by omega]
 have hB:mi (l.set (k - 1) (tk l o)) 13 false (k - 1)=match Ij (ej (mi (l.set (k - 1) (tk l o)) 12) false (l.set (k - 1) (tk l o))) (l.set (k - 1) (tk l o)) ((l.set (k - 1) (tk l o)).length+1 - k) k with
   | .inr e=>.inr e
   | .inl (x,j2)=>match Oh (l.set (k - 1) (tk l o)) [125] j2 with
    | .inr e=>.inr e
    | .inl (_,j3)=>.inl (x,j3):=by
  rw[mi,hS];rfl
 have O:(tk (l.set (k - 1) (tk l o)) (k - 1)).pos=(tk l o).pos:=by rw[rj L,E]
 have hP:sp (l.set (k - 1) (tk l o)) ((k - 1:Nat):Int)=match mi (l.set (k - 1) (tk l o)) 13 false (k - 1)with
   | .inr (e,p)=>([],0,e,p)
   | .inl (x,t)=>if 40<x.length then ([],0,2,(tk l o).pos)else (x,t,0,0):=by
  unfold sp;rw[if_neg Tf,saa,O];rfl
 rcases Nat.lt_or_ge k l.length with M|al
 ·have A:=QL (x:=tk l o) h1 M;have Y:=A.stsL (A.oneA (A.blkA 12) false);have L2:=A.signA [125];have e1:=Y.eq k (aaa _);rw[hB,e1]at hP;unfold Yl;cases hr:Ij (ej (mi l 12) false l) l (l.length+1 - k) k with
  |inr q =>obtain⟨e,p⟩:=q;rw[hr]at hP;refine⟨fun x t h=>Gg,fun I p2 h=>?_⟩;cases h;obtain⟨h0,h6⟩:=Y.six _ _ _ hr;exact Oe
  |inl q =>
   obtain⟨x,j⟩:=q
   have I:=L2.eq j (Y.fw _ _ _ hr)
   rw[hr]at hP
   simp only at hP ⊢
   rw[I]at hP
   cases G:Oh l [125] j with
   |inr q =>obtain⟨e,p⟩:=q;rw[G]at hP;refine⟨fun x t h=>Gg,fun I p2 h=>?_⟩;cases h;obtain⟨h0,h6⟩:=L2.six _ _ _ G;exact Oe
   |inl q =>
    obtain⟨u,t⟩:=q;rw[G]at hP;simp only at hP ⊢;by_cases J:40<x.length;·rw[if_pos J]at hP ⊢;refine⟨fun x t h=>Gg,fun I p2 h=>?_⟩;cases h;exact⟨_,hP,by decide,rfl⟩
    ·rw[if_neg J]at hP ⊢;refine⟨fun y s h=>?_,fun I p2 h=>Gg⟩;cases h;exact hP
 ·have ad:k=l.length:=by omega
  subst ad;have hb:Yl l o l.length = .inr (6,Ch l l.length):=by unfold Yl;rw[show l.length+1 - l.length=0+1 by omega,Ij,if_neg (by rw[sn (aaa _)];decide),iF (aaa _)]
  have Z:∃ H,sp (l.set (l.length - 1) (tk l o)) ((l.length - 1:Nat):Int)=([],0,6,H):=by rw[hP,hB,show(l.set (l.length - 1) (tk l o)).length+1 - l.length=0+1 by simp,Ij,if_neg (by rw[sn Yf];decide),iF Yf];exact⟨_,rfl⟩
  rw[hb];refine⟨fun x t h=>Gg,fun e p h=>?_⟩;cases h;obtain⟨H,af⟩:=Z;exact⟨H,af,by decide,rfl⟩
end Go.Proofs.YtjcihcncljihoaaGreatDoor

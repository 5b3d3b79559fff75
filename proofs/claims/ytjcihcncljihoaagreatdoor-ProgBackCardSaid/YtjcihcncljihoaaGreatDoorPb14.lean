/- Chapter 05 (programs), joined: PgpC, PgpD, PgpE. -/
import Derived.Test.YtjcihcncljihoaaGreatDoorPb10
import Derived.IntWalk
import Derived.StillTailTactics
set_option maxRecDepth 100000
set_option maxHeartbeats 8000000
namespace Go.Proofs.YtjcihcncljihoaaGreatDoor
open Go Go.RowKit
set_option linter.unusedVariables false
open Go.Lib renaming hid→kaa
open Go.Oper renaming wp→Mca
open Go.Region renaming wanted→xba
open Go.RowKit.Below renaming heap_setCell→xca
open Go.World renaming ownsRow_nil→Lca,setCell→eca
open Nat renaming le_of_lt→nba,le_refl→aaa,le_trans→yba,lt_of_lt_of_le→mba,zero_le→laa
open Xh renaming cells→Kca
open uh renaming refl→Aba
theorem Ae{P:Prop}(h:P:=by exact(HR5.deep.imp (fun u hu=>⟨hu.lines,hu.thrs,hu.rcv,hu.clms⟩))):P:=h
theorem zg{P:Prop}(h:P:=by rcases List.mem_append.1 hx with hx|hx;exact hu.1.lines x hx;rw[List.mem_singleton.1 hx];exact hu.2):P:=h
theorem Cg{P:Prop}(h:P:=by simp[Value.oneCell']):P:=h
theorem Tg{P:Prop}(h:P:=by simpa[qj.n,qj.cs,CK,lI]using hown6):P:=h
theorem dh{P:Prop}(h:P:=by rw[hO];exact hat6):P:=h
theorem lh{P:Prop}(h:P:=by rw[hO];exact hg6):P:=h
def lJ(cs:List Xh)(R:RS (List Xh)):RS (List Xh):=match R with
 | .inr e=>.inr e
 | .inl (r,t)=>.inl (cs++r,t)
def UN(cs:List Xh)(R:RS Unit):RS (List Xh):=match R with
 | .inr e=>.inr e
 | .inl (_,t)=>.inl (cs,t)
structure qI (l:List xh) (b:Bool) (i:Nat) (cs:List Xh) (j:Nat) (e p:Int) (mb:Bool):Prop where
 yes:mb=true→e=0∧p=0∧fl b l i=lJ cs (Oj b l (l.length+1 - j) j)∧cs.length≤j
 no:mb=false→e=0→p=0∧fl b l i=UN cs (Oh l [59] j)
 bad:¬ e=0→fl b l i = .inr (e,p)
 le:j≤l.length
 cnt:cs.length≤l.length+1
theorem FB{l:List xh}{j:Nat}{e p:Int}(h:Th l j = .inr (e,p)):¬ e=0:=by
 have A:=Zl l j 5 Uf;unfold Th at h;split at h;·cases h
 ·cases h;omega
theorem Yq{b:Bool}{l:List xh}{j j2:Nat}{c:Xh}(h:il b l j = .inl (c,j2)):j<j2∧j2≤l.length:=by
 unfold il at h
 cases A:Th l j with
 |inr e=>rw[A]at h;cases h
 |inl q =>
  obtain⟨s,k⟩:=q
  rw[A]at h
  obtain⟨E,_,_,_,rfl⟩:=Si A
  simp only at h
  split at h
  ·split at h;·cases h;omega
   ·cases h
  ·cases h;omega
theorem VK{l:List xh}{b:Bool}{j j2:Nat}{s:List UInt8}{A e p:Int}(h:(e=0∧p=0∧Th l j = .inl (s,j2)∧A=(tk l j).pos)∨(¬ e=0∧j2=j∧Th l j = .inr (e,p)))(E:¬ (b=true∧e=0∧Qh l j2 [61]=true)):(e=0∧p=0∧il b l j = .inl (⟨s,0,A⟩,j2))∨(¬ e=0∧j2=j∧il b l j = .inr (e,p)):=by
 unfold il;rcases h with⟨rfl,rfl,h1,rfl⟩|⟨h0,rfl,h1⟩;·rw[h1];exact .inl ⟨by trivial,by trivial,if_neg (fun h=>E ⟨h.1,by first|rfl|trivial,h.2⟩)⟩
 ·rw[h1];exact .inr ⟨h0,by trivial,rfl⟩
theorem xN{l:List xh}{j j2:Nat}{s:List UInt8}(h:Th l j = .inl (s,j2))(E:Qh l j2 [61]=true)(A:j2+1<l.length∧(tk l (j2+1)).kind=2):il true l j = .inl (⟨s,(tk l (j2+1)).n,(tk l j).pos⟩,j2+2):=by unfold il;rw[h];simp only;rw[if_pos ⟨by trivial,E⟩,if_pos A]
theorem WK{l:List xh}{j j2:Nat}{s:List UInt8}(h:Th l j = .inl (s,j2))(E:Qh l j2 [61]=true)(A:¬ (j2+1<l.length∧(tk l (j2+1)).kind=2)):il true l j = .inr (cj l (j2+1) 5):=by unfold il;rw[h];simp only;rw[if_pos ⟨by trivial,E⟩,if_neg A]
theorem KK{l:List xh}{b:Bool}{i:Nat}(hi:i≤l.length):qI l b i [] i 0 0 true:=by refine⟨fun _=>⟨rfl,rfl,?_,laa _⟩,fun h=>Gg,fun h=>absurd rfl h,hi,laa _⟩;unfold fl lJ;cases Oj b l (l.length+1 - i) i<;>rfl
theorem nE{l:List xh}{b:Bool}{i j:Nat}{cs:List Xh}{e p:Int}(h:qI l b i cs j e p true):fl b l i=lJ cs (match il b l j with
  | .inr e=>.inr e
  | .inl (c,j2)=>if Qh l j2 [44]=true then (match Oj b l (l.length - j) (j2+1)with
    | .inr e=>.inr e
    | .inl (r,t)=>.inl (c::r,t))
   else match Oh l [59] j2 with
    | .inr e=>.inr e
    | .inl (_,t)=>.inl ([c],t)):=by
 have E:=h.le
 rw[(h.yes rfl).2.2.1,show l.length+1 - j=(l.length - j)+1 by omega,Oj]
 cases il b l j with
 |inr e=>rfl
 |inl q =>
  simp only
  by_cases A:Qh l q.2 [44]=true
  ·rw[if_pos A,if_pos A];cases Oj b l (l.length - j) (q.2+1)<;>rfl
  ·rw[if_neg A,if_neg A];cases Oh l [59] q.2<;>rfl
theorem vx{b:Bool}{l:List xh}:∀ (g E j:Nat),l.length+1 - j≤g→l.length+1 - j≤E→j≤l.length→Oj b l g j=Oj b l E j
 |0,_,j,h,_,G=>absurd h Tf
 |_+1,0,j,_,h,G=>absurd h Tf
 |g+1,E+1,j,I,J,G=>by
  unfold Oj
  cases H:il b l j with
  |inr e=>rfl
  |inl q =>
   obtain⟨c,j2⟩:=q;have:=Yq H;simp only;by_cases A:Qh l j2 [44]=true;·have:=Zj A;rw[if_pos A,if_pos A,vx g E (j2+1) Tf Tf Tf]
   ·rw[if_neg A,if_neg A]
theorem tN{l:List xh}{b:Bool}{i j j2:Nat}{cs:List Xh}{e p:Int}{c:Xh}(h:qI l b i cs j e p true)(E:il b l j = .inl (c,j2))(G:Qh l j2 [44]=true):qI l b i (cs++[c]) (j2+1) 0 0 true:=by
 have hr:=nE h
 have H:=Yq E
 have A:=Zj G
 have I:=h.yes rfl
 rw[E]at hr
 simp only at hr
 rw[if_pos G,vx (l.length - j) (l.length+1 - (j2+1)) (j2+1) Tf Tf Tf]at hr
 refine⟨fun _=>⟨rfl,rfl,?_,by simp;omega⟩,fun h=>Gg,fun h=>absurd rfl h,A,by simp;omega⟩
 rw[hr]
 unfold lJ
 cases Oj b l (l.length+1 - (j2+1)) (j2+1)with
 |inr e=>rfl
 |inl q=>simp
theorem uN{l:List xh}{b:Bool}{i j j2:Nat}{cs:List Xh}{e p:Int}{c:Xh}(h:qI l b i cs j e p true)(A:il b l j = .inl (c,j2))(G:Qh l j2 [44]=false):qI l b i (cs++[c]) j2 0 0 false:=by
 have hr:=nE h
 have E:=Yq A
 have H:=h.yes rfl
 rw[A]at hr
 simp only at hr
 rw[if_neg (by rw[G];decide)]at hr
 refine⟨fun h=>Gg,fun _ _=>⟨rfl,?_⟩,fun h=>absurd rfl h,E.2,by simp;omega⟩
 rw[hr]
 unfold lJ UN
 cases Oh l [59] j2 with
 |inr e=>rfl
 |inl q=>rfl
theorem LK{l:List xh}{b:Bool}{i j j2:Nat}{cs ds:List Xh}{e p e2 p2:Int}{mb:Bool}(h:qI l b i cs j e p true)(E:il b l j = .inr (e2,p2))(A:¬ e2=0)(H:j2≤l.length)(G:ds.length≤l.length+1):qI l b i ds j2 e2 p2 false∧fl b l i = .inr (e2,p2):=by have hr:=nE h;rw[E]at hr;exact⟨⟨fun h=>Gg,fun _ h=>absurd h A,fun _=>hr,H,G⟩,hr⟩
theorem sN{l:List xh}{b:Bool}{i j A:Nat}{cs:List Xh}{e p E L:Int}{k:Xh}(h:qI l b i cs j e p true)(G:(E=0∧L=0∧il b l j = .inl (k,A))∨(¬ E=0∧A=j∧il b l j = .inr (E,L))):qI l b i (cs++[k]) (mI l [44] A E) E L (hB l [44] A E)∧(hB l [44] A E=true→j<mI l [44] A E):=by
 have Y:=h.yes rfl;have O:=h.le;rcases G with⟨rfl,rfl,G⟩|⟨h0,rfl,G⟩
 ·have Q:=Yq G;by_cases J:Qh l A [44]=true;·rw[(Qr J).1,(Qr J).2];exact⟨tN h G J,fun _=>by omega⟩
  ·have I:Qh l A [44]=false:=by simpa using J
   have H:=Oy (l:=l) (s:=[44]) (i:=A) (e:=0) (fun _=>I);rw[H.1,H.2];exact⟨uN h G I,fun h=>by cases h⟩
 ·have H:=Oy (l:=l) (s:=[44]) (i:=A) (e:=E) (fun M=>absurd M h0);rw[H.1,H.2];exact⟨(LK (mb:=true) h G h0 h.le Ag).1,fun h=>by cases h⟩
theorem qu:(Tryz.prog.info? 48).map (fun i=>(i.zero,i.size,i.bytes))=some (some (.agg #[.string ⟨#[]⟩,.int .i64 0,.int .i64 0]),3,32):=by kernel_rfl
theorem cO(U:World)(x:Xh):bi (U.alloc (.cells #[.string (vh x.name),.int .i64 x.n,.int .i64 x.pos] 48)) (.slice (some ⟨U.heap.size,0,none⟩) 1 1) 3 1 ([x].flatMap Kca):=by have:=zk U (Kca x) 48 3 1 1 rfl (aaa _);rw[show[x].flatMap Kca=Kca x by simp];exact this
theorem tv(l:List Xh):∀ u∈l.flatMap Kca,u.oneCell'=true:=by intro u E;obtain⟨x,G,A⟩:=List.mem_flatMap.1 E;simp only[Kca,List.mem_cons,List.not_mem_nil,or_false]at A;rcases A with rfl|rfl|rfl<;>rfl
def su(l:List xh)(b:Bool)(i:Nat)(w:World)(g:Nat)(v:Value)(o:Nat→Value)(r:Ending)(w':World):Prop :=
 ∃ (A:Option Addr) (c:Nat) (cs:List Xh) (j:Nat) (e p:Int),r = .returned (.slice A cs.length c)∧w'.ownsRow w.heap.size 48 3 (.slice A cs.length c) cs.length (cs.flatMap Kca)∧GK w g v j e p o w'∧cs.length≤l.length+1∧j≤l.length ∧
  ((e=0∧p=0∧fl b l i = .inl (cs,j))∨(¬ e=0∧fl b l i = .inr (e,p)))
def aP(g:Nat)(w:World):Nat:=match w.cell? ⟨g,1,none⟩with
 |some (.int _ k)=>k.toNat
 |_=>0
theorem PG.at_{w:World}{g j:Nat}{v:Value}{e p:Int}{o:Nat→Value}(h:PG w g v j e p o):aP g w=j:=by unfold aP;rw[h.c1];simp
def JQ(m:Value):Nat:=match m with
 | .bool true=>1
 |_=>0
structure vr (w:World) (h:Nat) (a b c:Value):Prop where
 lt:h < w.heap.size
 c0:w.cell? ⟨h,0,none⟩=some a
 c1:w.cell? ⟨h,1,none⟩=some b
 c2:w.cell? ⟨h,2,none⟩=some c
 fr:∀ j,w.frozen? ⟨h,j,none⟩=false
theorem vr.kp{w w':World}{g h:Nat}{a b c:Value}(k:vr w h a b c)(G:uh g w w')(A:h≠g):vr w' h a b c:=by have E:=G.block h k.lt A;have e:=fun j=>World.cell?_of_block (a:=⟨h,j,none⟩) E;exact⟨mba k.lt G.size,(e 0).trans k.c0,(e 1).trans k.c1,(e 2).trans k.c2,fun j=>(World.frozen?_of_block (a:=⟨h,j,none⟩) E).trans (k.fr j)⟩
theorem vr.set0{w:World}{h:Nat}{a b c:Value}(k:vr w h a b c)(u:Value):vr (w.setCell ⟨h,0,none⟩ u) h u b c:=⟨jk k.lt,ui k.c0 (k.fr 0),wh k.c1 Uf,wh k.c2 Uf,di k.fr⟩
theorem vr.set1{w:World}{h:Nat}{a b c:Value}(k:vr w h a b c)(u:Value):vr (w.setCell ⟨h,1,none⟩ u) h a u c:=⟨jk k.lt,wh k.c0 Uf,ui k.c1 (k.fr 1),wh k.c2 Uf,di k.fr⟩
theorem vr.set2{w:World}{h:Nat}{a b c:Value}(k:vr w h a b c)(u:Value):vr (w.setCell ⟨h,2,none⟩ u) h a b u:=⟨jk k.lt,wh k.c0 Uf,wh k.c1 Uf,ui k.c2 (k.fr 2),di k.fr⟩
theorem cell_far{w:World}{g q j k:Nat}{x u:Value}(h:w.cell? ⟨g,j,none⟩=some x)(A:q≠g):(w.setCell ⟨q,k,none⟩ u).cell? ⟨g,j,none⟩=some x:=by rw[World.cell?_setCell_other _ _ _ _ (by simp[])];exact h
theorem GK.far{w u:World}{g q:Nat}{v:Value}{i e p:Int}{o:Nat→Value}(h:GK w g v i e p o u)(hq:w.heap.size≤q)(A:q≠g)(j:Nat)(x:Value):GK w g v i e p o (u.setCell ⟨q,j,none⟩ x) :=
 ⟨h.pg.other A.symm,⟨h.kp.os,h.kp.tape,h.kp.output,by simpa[eca]using h.kp.size,fun k E G=>(xca _ _ _ _ (by show k≠q;omega)).trans (h.kp.block k E G)⟩⟩
theorem GK.belowB{w u G:World}{g:Nat}{v:Value}{i e p:Int}{o:Nat→Value}(h:GK w g v i e p o u)(A:Below w.heap.size u G)(H:g<w.heap.size):GK w g v i e p o G :=
 ⟨h.pg.belowB A H,⟨A.os.trans h.kp.os,A.tape.trans h.kp.tape,A.output.trans h.kp.output,yba h.kp.size A.size,fun k E I=>(A.block k E).trans (h.kp.block k E I)⟩⟩
theorem rn{w:World}{q j B:Nat}{e:TypeId}{size:Nat}{v x:Value}{n:Nat}{A:List Value}(h:w.ownsRow B e size v n A)(hq:∀ k,v.ownBlock=some k→k<q):(w.setCell ⟨q,j,none⟩ x).ownsRow B e size v n A :=
 xl h (fun b E=>xca _ _ _ _ (by have:=hq b E;show b≠q;omega))
theorem vp{w w':World}{g B:Nat}{e:TypeId}{size:Nat}{v:Value}{n:Nat}{E:List Value}(h:w.ownsRow B e size v n E)(G:uh g w w')(H:g<B):w'.ownsRow B e size v n E :=
 xl h (fun b A=>G.block b (h.lt b A).2 (fun e=>by have:=(h.lt b A).1;omega))
theorem PO{l:List xh}{b:Bool}{i j:Nat}{cs:List Xh}{e p:Int}{w O:World}{g:Nat}{v:Value}{o:Nat→Value}{A:Option Addr}{c:Nat}(J:qI l b i cs j e p false)(Q:GK w g v (mI l [59] j e:Nat) (mE l [59] j e) (mP l [59] j e p) o O)(I:O.ownsRow w.heap.size 48 3 (.slice A cs.length c) cs.length (cs.flatMap Kca)):su l b i w g v o (.returned (.slice A cs.length c)) O:=by
 have M:=J.le;refine⟨A,c,cs,_,_,_,rfl,I,Q,J.cnt,?_,?_⟩
 ·unfold mI;split;·rename_i h;exact Zj h.2
  ·exact M
 ·by_cases E:e=0
  ·subst E;obtain⟨rfl,hr⟩:=J.no rfl rfl;unfold Oh at hr;by_cases G:Qh l j [59]=true;·rw[if_pos G]at hr;refine .inl ⟨if_pos ⟨rfl,G⟩,if_pos ⟨rfl,G⟩,?_⟩;rw[hr,show mI l [59] j 0=j+1 from if_pos ⟨rfl,G⟩];rfl
   ·rw[if_neg G]at hr;have H:mE l [59] j 0=(cj l j 5).1:=by unfold mE wE cj;rw[if_neg (fun h=>G h.2),if_pos rfl]
    have L:mP l [59] j 0 0=(cj l j 5).2:=by unfold mP wP cj;rw[if_neg (fun h=>G h.2),if_pos rfl]
    refine .inr ⟨?_,?_⟩;·rw[H];have:=Zl l j 5 Uf;omega
    ·rw[H,L,hr];rfl
  ·have H:mE l [59] j e=e:=by unfold mE wE;rw[if_neg (fun h=>E h.1),if_neg E]
   have L:mP l [59] j e p=p:=by unfold mP wP;rw[if_neg (fun h=>E h.1),if_neg E]
   exact .inr ⟨by rw[H];exact E,by rw[H,L];exact J.bad E⟩
theorem jt(l:List xh)(hl:l.length≤100000)(cV:∀ t∈l,t.text.length≤1000000)(b:Bool)(g:Nat)(v:Value)(o:Nat→Value)(i:Nat)(hi:i≤l.length)(w:World)(hp:PG w g v i 0 0 o)(hc:Jm g v l w):Calls Tryz.prog 143 #[.pointer (some ⟨g,0,none⟩),.bool b] w (su l b i w g v o):=by
 have HG:=kaa (GK.refl hp);have HC:=kaa (fun(u:World) (h:uh g w u)=>hc.keep h hp.lt);have G:=kaa hp.lt;have H0:=kaa (KK (b:=b) hi);obtain⟨i0,cT,cW,cX,cY⟩:=info_parts qu;clear hp hc;go_enter Tryz.func143,Tryz.ntmps143;go_wp2_with fail;go_loopw [5,6] (fun V m wr=>∃ (A:Option Addr) (c:Nat) (cs:List Xh) (j:Nat) (e p:Int) (mb:Bool),V = .slice A cs.length c∧m = .bool mb∧GK w g v j e p o wr∧wr.ownsRow w.heap.size 48 3 V cs.length (cs.flatMap Kca)∧qI l b i cs j e p mb)
  (fun _ m wr=>JQ m*(l.length+2 - aP g wr))
 case atStart=>exact⟨none,0,[],i,0,0,true,rfl,rfl,HG.out,Lca _ _ _ _,H0.out⟩
 case round =>
  obtain⟨A,c,cs,j,e,p,mb,rfl,rfl,hk,a2,hI⟩:=hrel;have HK:=kaa hk;have aV:=kaa a2;have HI:=kaa hI;clear hk a2 hI;cases mb;·have HS:=kaa (Nz l hl [59] g v o j (by have:=HI.out.le;omega) e p wr HK.out.pg (HC.out _ HK.out.kp));go_wp2_with (go_at_call 147;refine HS.out.mono ?_;rintro r w2 ⟨rfl,h2⟩);go_ret;exact PO HI.out (HK.out.trans h2) (vp aV.out h2.kp G.out)
  ·obtain⟨rfl,rfl,_,dd⟩:=HI.out.yes rfl;have dB:=HI.out.le;have cU:j≤1000000000:=by omega
   have a9:=kaa (fun(u:World) (h:GK w g v j 0 0 o u)=>zF l hl cV g v o j cU 0 u h.pg (HC.out u h.kp));have Z:=kaa (fun(s:List UInt8) (u:World) (j2:Nat) (e2 p2:Int) (h:GK w g v j2 e2 p2 o u) (hj:j2≤1000000000)=>WD l hl s g v o j2 hj e2 p2 u h.pg (HC.out u h.kp));have bh:=kaa (fun(u:World) (j2:Nat) (h:GK w g v j2 0 0 o u)=>kq l hl g v o j2 0 0 u h.pg (HC.out u h.kp));obtain⟨hb,a0⟩:∃ hb,wr.heap.size=hb:=⟨_,rfl⟩;have E:Hid (w.heap.size≤hb∧hb≠g):=⟨by rw[← a0];exact HK.out.kp.size,by have:=HK.out.kp.size;have:=G.out;omega⟩;have aU:Hid (∀ k,(Value.slice A cs.length c).ownBlock=some k→k<hb):=fun k h=>by rw[← a0];exact(aV.out.lt k h).2
   go_upto_region 6 with fail;generalize hX:wr.alloc _=X;have b5:GK w g v j 0 0 o X:=by subst hX;exact HK.out.alloc _
   have bk:Hid (X.ownsRow w.heap.size 48 3 (.slice A cs.length c) cs.length (cs.flatMap Kca)):=by subst hX;exact aV.out.alloc _
   have bY:vr X hb (.string ⟨#[]⟩) (.int .i64 0) (.int .i64 0):=by subst hX a0;exact⟨by simp,by simp[go_sem],by simp[go_sem],by simp[go_sem],fun j=>by simp[go_sem]⟩
   clear hX a0;have aY:=kaa b5;have a4:=kaa bY;clear b5 bY;go_cut [11]from 8 to 17 (fun _ wx=>∃ (s:List UInt8) (ps:Int) (j2:Nat) (e2 p2:Int),vr wx hb (.string (vh s)) (.int .i64 0) (.int .i64 ps)∧GK w g v j2 e2 p2 o wx∧wx.ownsRow w.heap.size 48 3 (.slice A cs.length c) cs.length (cs.flatMap Kca) ∧
    ((e2=0∧p2=0∧Th l j = .inl (s,j2)∧ps=(tk l j).pos)∨(¬ e2=0∧j2=j∧Th l j = .inr (e2,p2))))
   case first =>
    have J:=kaa (a9.out X aY.out)
    clear Z bh a9
    unfold Wr at J
    cases hn:Th l j with
    |inl q =>obtain⟨s,j2⟩:=q;rw[hn]at J;have HN:=kaa hn;clear hn;generalize cb:(tk l j).pos=ps at J;have ct:=kaa cb;clear cb;go_wp2_with (go_at_call 144;refine J.out.mono ?_;rintro r w2 ⟨rfl,h2⟩;have H:=a4.out.kp h2.kp E.out.2;have b0:=H.c0;have b2:=H.c2;have f0:=H.fr 0;have f2:=H.fr 2);go_meet;exact⟨s,ps,j2,0,0,(H.set0 _).set2 _,((aY.out.trans h2).far E.out.1 E.out.2 _ _).far E.out.1 E.out.2 _ _,rn (rn (vp bk.out h2.kp G.out) aU.out) aU.out,.inl ⟨rfl,rfl,HN.out,ct.out.symm⟩⟩
    |inr q =>obtain⟨e2,p2⟩:=q;rw[hn]at J;have a1:¬ e2=0:=FB hn;have HN:=kaa hn;have bI:=kaa a1;clear hn a1;go_wp2_with (go_at_call 144;refine J.out.mono ?_;rintro r w2 ⟨rfl,h2⟩;have H:=a4.out.kp h2.kp E.out.2;have b0:=H.c0;have b2:=H.c2;have f0:=H.fr 0;have f2:=H.fr 2);go_meet;exact⟨[],0,j,e2,p2,(H.set0 _).set2 _,((aY.out.trans h2).far E.out.1 E.out.2 _ _).far E.out.1 E.out.2 _ _,rn (rn (vp bk.out h2.kp G.out) aU.out) aU.out,.inr ⟨bI.out,rfl,HN.out⟩⟩
   case rest =>
    obtain⟨s,ps,j2,e2,p2,H,bZ,b6,hN⟩:=hcut;have af:=kaa H;have ad:=kaa bZ;have av:=kaa b6;have HN:=kaa hN;clear H bZ b6 hN a4 aY bk a9;generalize wc=X2 at af ad av ⊢;go_upto_region 7 with fail;go_cut [22]from 18 to 22 (fun y wx=>∃ (yb:Bool) (j3:Nat),y = .bool yb∧vr wx hb (.string (vh s)) (.int .i64 0) (.int .i64 ps)∧GK w g v j3 e2 p2 o wx∧wx.ownsRow w.heap.size 48 3 (.slice A cs.length c) cs.length (cs.flatMap Kca) ∧
     ((yb=true∧j3=j2+1∧b=true∧e2=0∧Qh l j2 [61]=true)∨(yb=false∧j3=j2∧¬ (b=true∧e2=0∧Qh l j2 [61]=true))))
    case first =>
     have HH:Hid (b=true→Calls Tryz.prog 185 #[.pointer (some ⟨g,0,none⟩),.string (vh [61])] X2 fun r w'=>r = .returned (.bool (hB l [61] j2 e2))∧GK X2 g v (mI l [61] j2 e2:Nat) e2 p2 o w'):=fun hb =>
      Z.out [61] X2 j2 e2 p2 ad.out (by
       rcases HN.out with h|h;·have:=Si h.2.2.1;omega
       ·omega)
     clear HN Z;by_cases Y:b=true∧e2=0∧Qh l j2 [61]=true;·obtain⟨rfl,rfl,hs⟩:=Y;rw[(Qr hs).1,(Qr hs).2]at HH;have HS:=kaa hs;clear hs;go_wp2_with (go_at_call 185;refine(HH.out Mg).mono ?_;rintro r w4 ⟨rfl,h4⟩);go_meet;exact⟨true,j2+1,rfl,af.out.kp h4.kp E.out.2,ad.out.trans h4,vp av.out h4.kp G.out,.inl ⟨rfl,rfl,by trivial,by trivial,HS.out⟩⟩
     ·have HY:=kaa Y;cases b;·go_wp2_with fail;go_meet;exact⟨false,j2,rfl,af.out,ad.out,av.out,.inr ⟨rfl,rfl,HY.out⟩⟩
      ·have bt:=Oy (l:=l) (s:=[61]) (i:=j2) (e:=e2) (fun he=>by cases hx:Qh l j2 [61];rfl;exact absurd ⟨rfl,he,hx⟩ Y);rw[bt.1,bt.2]at HH;clear Y bt;go_wp2_with (go_at_call 185;refine(HH.out Mg).mono ?_;rintro r w4 ⟨rfl,h4⟩);go_meet;exact⟨false,j2,rfl,af.out.kp h4.kp E.out.2,ad.out.trans h4,vp av.out h4.kp G.out,.inr ⟨rfl,rfl,HY.out⟩⟩
    case rest =>
    obtain⟨yb,j3,rfl,bU,b3,b7,hY⟩:=hcut;have ao:=kaa bU;have I:=kaa b3;have aT:=kaa b7;have HY:=kaa hY;clear bU b3 b7 hY af ad av;generalize wc=X3 at ao I aT ⊢;go_upto_if 22 with fail;go_cut [46]from 23 to 67 (fun _ wx=>∃ (k:Xh) (j4:Nat) (e3 p3:Int),vr wx hb (.string (vh k.name)) (.int .i64 k.n) (.int .i64 k.pos)∧GK w g v j4 e3 p3 o wx∧wx.ownsRow w.heap.size 48 3 (.slice A cs.length c) cs.length (cs.flatMap Kca) ∧
     ((e3=0∧p3=0∧il b l j = .inl (k,j4))∨(¬ e3=0∧j4=j∧il b l j = .inr (e3,p3))))
    case first =>
     cases yb
     ·have bL:Hid ((e2=0∧p2=0∧il b l j = .inl (⟨s,0,ps⟩,j3))∨(¬ e2=0∧j3=j∧il b l j = .inr (e2,p2))):=by
       rcases HY.out with h|h;·cases h.1
       ·rw[h.2.1];exact VK HN.out h.2.2
      clear HY HN Z;go_wp2_with fail;go_meet;exact⟨⟨s,0,ps⟩,j3,e2,p2,ao.out,I.out,aT.out,bL.out⟩
     ·obtain⟨rfl,rfl,rfl,hs⟩:j3=j2+1∧b=true∧e2=0∧Qh l j2 [61]=true:=by
       rcases HY.out with h|h;·exact h.2
       ·cases h.1
      obtain⟨rfl,hn,rfl⟩:p2=0∧Th l j = .inl (s,j2)∧ps=(tk l j).pos:=by
       rcases HN.out with h|h;·exact h.2
       ·exact absurd rfl h.1
      have dD:=Zj hs;have a5:=kaa (xN hn hs);have a6:=kaa (WK hn hs);clear Z HN HY hs hn;by_cases L:j2+1<l.length∧(tk l (j2+1)).kind=2
      ·have HR:=kaa (a5.out L);obtain⟨O,hk⟩:=L;obtain⟨bb,off,cc,aW,db,cv,aZ⟩:=(HC.out w (Aba _ _)).at_ Tf;have HX:Hid (∀ u,uh g w u→u.cell? ⟨bb,off+(j2+1)*4,none⟩=some (.int .i64 2)∧u.cell? ⟨bb,off+(j2+1)*4+2,none⟩=some (.int .i64 (tk l (j2+1)).n)):=fun u hu=>by have h:=aZ u (hu.below (nba G.out)) (j2+1) O;rw[← rj O]at h;exact⟨hk▸h.kind,h.n⟩
       have c9:(j2:Int)+1<(l.length:Int):=by omega
       have hd:decide ((l.length:Int)≤(j2:Int)+1)=false:=by simp;omega
       have h0:(0:Int)≤(j2:Int)+1:=by omega
       have hw:IntKind.i64.wrap ((j2:Int)+1+1)=(j2:Int)+1+1:=IntWalk.i64_in _ Tf;generalize (tk l (j2+1)).n=nn at HX HR;obtain⟨pl,p0,p1,p2,p3,p4,pf⟩:=I.out.pg;rw[aW]at p0;obtain⟨x0,x2⟩:=HX.out X3 I.out.kp;clear aZ hk cv a5 a6;go_upto_region 8 with fail;go_quiet (fail);have bE:=(Aba g X3).drewN nq;have M:=kaa (I.out.drewN nq);have a3:=kaa (ao.out.kp bE E.out.2);have bg:=kaa (vp aT.out bE G.out);clear pl p0 p1 p2 p3 p4 pf x0 x2 I ao aT bE;generalize X3.drewN nq=X8 at M a3 bg ⊢;obtain⟨pl,p0,p1,p2,p3,p4,pf⟩:=M.out.pg;rw[aW]at p0;obtain⟨x0,x2⟩:=HX.out X8 M.out.kp;go_upto_region 11 with fail;go_still_tail 12,Vf;repeat still_step
       try refine wpStill_nil ?_
       change wpList _ _ _ _ _ (World.drew X8);have bF:=(Aba g X8).drew;have a8:=kaa M.out.drew;have aX:=kaa (a3.out.kp bF E.out.2);have bS:=kaa (vp bg.out bF G.out);clear pl p0 p1 p2 p3 p4 pf x0 x2 M a3 bg bF;generalize X8.drew=X9 at a8 aX bS ⊢;obtain⟨pl,p0,p1,p2,p3,p4,pf⟩:=a8.out.pg;have cZ:=pf 1;have b1:=aX.out.c1;have f1:=aX.out.fr 1;have dP:=cell_far (k:=1) (u:=.int .i64 nn) p1 E.out.2;have da:(X9.setCell ⟨hb,1,none⟩ (.int .i64 nn)).frozen? ⟨g,1,none⟩=false:=by simpa using cZ
       go_wp2_with fail;go_meet;exact⟨⟨s,nn,(tk l j).pos⟩,j2+2,0,0,(aX.out.set1 _).kp ((Aba g _).set 1 _) E.out.2,(a8.out.far E.out.1 E.out.2 _ _).set1 _,vp (rn bS.out aU.out) ((Aba g _).set 1 _) G.out,.inl ⟨rfl,rfl,HR.out⟩⟩
      ·have HR:=kaa (a6.out L);have b9:(∃ bb off cc,v = .slice (some ⟨bb,off,none⟩) l.length cc∧(j2:Int)+1<(l.length:Int)∧decide ((l.length:Int)≤(j2:Int)+1)=false∧X3.cell? ⟨bb,off+(j2+1)*4,none⟩=some (.int .i64 (tk l (j2+1)).kind)∧((tk l (j2+1)).kind==2)=false∧((tk l (j2+1)).kind != 2)=true)∨(∃ A c,v = .slice A l.length c∧decide ((l.length:Int)≤(j2:Int)+1)=true):=by
        rcases Nat.lt_or_ge (j2+1) l.length with O|dg;·obtain⟨bb,off,cc,h1,_,_,aZ⟩:=(HC.out w (Aba _ _)).at_ Tf;have h:=aZ X3 (I.out.kp.below (nba G.out)) (j2+1) O;rw[← rj O]at h;exact .inl ⟨bb,off,cc,h1,by omega,by simp;omega,h.kind,by simpa using fun hk=>L ⟨O,hk⟩,by simpa using fun hk=>L ⟨O,hk⟩⟩
        ·obtain⟨A,c,h1,_⟩:=((HC.out w (Aba _ _)).now G.out).shape;exact .inr ⟨A,c,h1,by simp;omega⟩
       have h0:(0:Int)≤(j2:Int)+1:=by omega
       generalize (tk l (j2+1)).kind=K at b9;clear L a5 a6;obtain⟨pl,p0,p1,p2,p3,p4,pf⟩:=I.out.pg;rcases b9 with⟨bb,off,cc,aW,h1,h2,h3,h4,h5⟩|⟨A,c,aW,h1⟩;all_goals
        rw[aW]at p0;go_upto_region 8 with fail;go_quiet (fail);have M:=kaa (I.out.drewN nq);clear pl p0 p1 p2 p3 p4 pf;go_wp2_with (go_at_call 24;refine(bh.out _ _ M.out).mono ?_;rintro r w6 ⟨rfl,h6⟩);go_ret;refine⟨none,0,[],j2+1,_,_,rfl,Lca _ _ _ _,M.out.trans h6,laa _,by omega,.inr ⟨?_,?_⟩⟩
        ·have:=Zl l (j2+1) 5 Uf;have e1:wE l (j2+1) 0 5=(cj l (j2+1) 5).1:=by unfold wE cj;rw[if_pos rfl]
         rw[e1];omega
        ·have e1:(wE l (j2+1) 0 5,wP l (j2+1) 0 0)=cj l (j2+1) 5:=by unfold wE wP cj;rw[if_pos rfl,if_pos rfl]
         rw[e1];exact(LK HI.out HR.out (by have:=Zl l (j2+1) 5 Uf;omega) (j2:=j2+1) (ds:=[]) Tf (laa _) (mb:=true)).2
    case rest =>
     obtain⟨k,j4,e3,p3,bV,b4,b8,bs⟩:=hcut;have a7:=kaa b4;have bR:=kaa b8;have J:=kaa (sN HI.out bs);have dA:j4≤l.length:=by
      rcases bs with h|h;·have:=Yq h.2.2;omega
      ·omega
     clear b4 b8 bs ao I aT HN HY bh;generalize wc=X4 at bV a7 bR ⊢;have bT:Hid (cs.length+1≤maxLen∧(cs.length+1)*32≤140737488355328):=by show _∧_;unfold maxLen;constructor<;>omega
     obtain⟨_,b0,b1,b2,bf⟩:=bV;go_wp2_with (first
      |(at_builtin;refine Wk rfl _ _ 23 rfl w.heap.size 48 i0 _ 3 32 Tryz.underlying23 cT cW cX cY rfl Uf (.slice A cs.length c) cs.length (cs.flatMap Kca) rfl (bR.out.alloc _) (.slice (some ⟨X4.heap.size,0,none⟩) 1 1) 1 ([k].flatMap Kca) rfl (cO X4 k) (tv _) bT.out.1 bT.out.2 (yba a7.out.kp.size (al X4 _).size) ?_;intro v6 w6 Q bX cx bW;obtain⟨A6,c6,rfl⟩:=yh Q;have bN:=kaa ((a7.out.alloc _).belowB bX G.out);have ch:=kaa Q;clear Q bX cx bW)
      |(go_at_call 185;refine(Z.out [44] _ j4 e3 p3 bN.out Tf).mono ?_;rintro r w7 ⟨rfl,h7⟩))
     go_roundw;case rel =>refine⟨A6,c6,cs++[k],mI l [44] j4 e3,e3,p3,hB l [44] j4 e3,by simp,rfl,bN.out.trans h7,?_,J.out.1⟩;have:=vp ch.out h7.kp G.out;rw[List.flatMap_append,List.length_append];exact this
     case measure =>
      have e1:=HK.out.pg.at_;have e2:=h7.pg.at_;have h1:=J.out.1.le;have h2:=J.out.2;rw[e1,e2];cases hq:hB l [44] j4 e3;·simp[JQ];omega
      ·have:=h2 hq;simp[JQ];omega
theorem Fl{P:Program}{aU:Array Oper}{o:Oper}{a:Act}{w:World}{K:Act→World→Prop}{Q:Exit→Act→World→Prop}{E:Prop}(ao:o.guard=none)(s x:Operand)(t:TypeId)(ho:o.op = .call { callee:=.builtin .append,args:=#[s,x],argTypes:=#[t,t] })(H:Nat)(e:TypeId)(i:TypeInfo)(z:Value)(size bytes:Nat)(ht:P.underlying t=some (.slice e))(hi:P.info? e=some i)(hz:i.zero=some z)(O:i.size=size)(al:i.bytes=bytes)(aT:z.cells.size=size)(av:0<size)(v:Value)(n:Nat)(xs:List Value)(hs:a.eval s=v)(I:w.ownsRow H e size v n xs)(u:Value)(m:Nat)(G:List Value)(hx:a.eval x=u)(hu:bi w u size m G)(h1:∀ u∈G,u.oneCell'=true)(af:n+m≤maxLen)(J:(n+m)*bytes≤140737488355328)(L:H≤w.heap.size)(h:∀ A c w',w'.ownsRow H e size (.slice A (n+m) c) (n+m) (xs++G)→w.grownBy w' v.ownBlock→((Value.slice A (n+m) c).ownBlock=v.ownBlock∨(Value.slice A (n+m) c).ownBlock=some w.heap.size)→K (a.put o.dst (.slice A (n+m) c)) w'):if xba o (yielded aU a.tmps)=true then Mca P o a w K Q else E:=by
 rw[if_pos (by simp[xba,ao])];obtain⟨hl,A,c,rfl,hc,hf⟩:=hu;have hgo:∀ (Y:Addr),A=some Y→(∀ j x,G[j]? = some x→w.cell? (Y.add j)=some x)→Mca P o a w K Q:=fun Y hA M=>by subst hA;obtain⟨v',w',hr,h2,h3,_,h5⟩:=run_append_own_at (P:=P) w H t o.type e i z size bytes ht hi hz O al aT av v n xs I Y m c G hl M h1 af J L;obtain⟨A',c',rfl⟩:=yh h2;unfold Mca execOp;simp only[ho,resolve,invoke,builtin,Sem.run_bind,Sem.run_pure,Result.andThen_ok,List.map_toArray,List.map_cons,List.map_nil,hs,hx,hr];exact h _ _ w' h2 h3 h5
 by_cases hm:0<m;·exact zb
 ·obtain rfl:m=0:=by omega
  obtain rfl:G=[]:=List.eq_nil_of_length_eq_zero (by rw[hl];omega);cases A with
  |some Y=>exact hgo Y rfl Yf
  |none =>have Z:=qn (P:=P) w H t o.type e i size ht hi v n c xs I;obtain⟨A',c',rfl⟩:=yh I;unfold Mca;simp[execOp,ho,resolve,invoke,builtin,hs,hx,Z,Result.andThen];exact h A' c' w (by simpa using I) ⟨rfl,rfl,rfl,aaa _,fun _ _ _=>rfl⟩ (.inl rfl)
structure RP (l:List xh) (g:Nat) (v:Value) (w0 w:World) (i:Nat) (e p:Int) (o:Nat→Value) (q:qj):Prop where
 lt:g < w0.heap.size
 ctx:Jm g v l w0
 gk:GK w0 g v i e p o w
 rows:wj w0.heap.size (fun k=>k=g) w o q
 le:i≤l.length
 cnt:∀ j,j < 6→q.n j≤i
theorem jo{w:World}{B:Nat}{e:TypeId}{size:Nat}{v:Value}{n g:Nat}{A:List Value}(h:w.ownsRow B e size v n A)(E:g<B):v.ownBlock≠some g:=fun e=>by have:=(h.lt g e).1;omega
section
variable {l : List xh} {g : Nat} {v : Value} {w0 w u : World} {i i2 : Nat} {e p e2 p2 : Int} {o : Nat → Value} {q : qj}
theorem RP.step(h:RP l g v w0 w i e p o q)(A:GK w g v i2 e2 p2 o u)(hi:i2≤l.length)(G:i≤i2):RP l g v w0 u i2 e2 p2 o q :=
 ⟨h.lt,h.ctx,h.gk.trans A,h.rows.step A.kp.size (fun k E I=>A.kp.block k E I),hi,fun j H=>yba (h.cnt j H) G⟩
theorem AF(h:GK w0 g v i e p o w)(G:g<w0.heap.size){J:World}{j:Nat}{v':Value}{T:TypeId}{M n:Nat}{O:List Value}(L:j<6)(A:w.ownsRow w0.heap.size T M (o j) n O)(E:w.grownBy J (o j).ownBlock):GK w0 g v i e p (fp o j v') (J.setCell ⟨g,4+j,none⟩ v'):=by refine⟨(h.pg.grown E (jo A G)).seto j L v',?_⟩;refine⟨E.os.trans h.kp.os,E.tape.trans h.kp.tape,E.output.trans h.kp.output,by have:=h.kp.size;have:=E.size;simp[eca];omega,fun k H I=>?_⟩;refine(xca _ _ _ _ I).trans ((E.block k (mba H h.kp.size) (fun e=>?_)).trans (h.kp.block k H I));have:=(A.lt k e.symm).1;omega
theorem RP.push(h:RP l g v w0 w i e p o q){X J:World}{j:Nat}{v':Value}{q':qj}(M:Below w.heap.size w X)(I:j<6)(G:J.ownsRow w0.heap.size (CK j) (lI j) v' (q'.n j) (q'.cs j))(O:X.grownBy J (o j).ownBlock)(H:v'.ownBlock=(o j).ownBlock∨v'.ownBlock=some X.heap.size)(hq:∀ k,k<6→k≠j→q'.n k=q.n k∧q'.cs k=q.cs k)(Y:Ok (Vm (fun k=>k=g) o) X (fun u=>Deep u q'))(A:q'.n j≤i):RP l g v w0 (J.setCell ⟨g,4+j,none⟩ v') i e p (fp o j v') q':=by
 have L:=h.rows.below M;refine⟨h.lt,h.ctx,AF (h.gk.below M) h.lt I (L.row j I) O,(L.push I G O H hq Y).set rfl _ _,h.le,fun k Q=>?_⟩;by_cases E:k=j;·rw[E];exact A
 ·rw[(hq k Q E).1];exact h.cnt k Q
def Et(j:Nat)(l:List xh)(g:Nat)(v:Value)(w0 w:World)(o:Nat→Value)(i:Nat)(q:qj)(r:Ending)(w':World):Prop :=
 r = .returned (.tuple #[])∧∃ (G:Nat) (A E:Int) (o':Nat→Value) (q':qj),((A=0∧RP l g v w0 w' G A E o' q'∧E=0∧Qi j l q.p i = .inl (q'.p,G)∧(∀ k,k<w.heap.size→¬ Vm (fun k=>k=g) o k→w'.heap[k]? = w.heap[k]?)∧(∀ k,Vm (fun k=>k=g) o' k→Vm (fun k=>k=g) o k∨w.heap.size≤k))∨(¬ A=0∧PG w' g v G A E o'∧Below g w0 w'∧Qi j l q.p i = .inr (A,E)))
theorem eF{g j n:Nat}{o:Nat→Value}{v':Value}(G:j<6)(h:v'.ownBlock=(o j).ownBlock∨∃ b,v'.ownBlock=some b∧n≤b):∀ k,Vm (fun k=>k=g) (fp o j v') k→Vm (fun k=>k=g) o k∨n≤k:=by
 intro k A;rcases A with A|⟨a,ha,A⟩;·exact .inl (.inl A)
 ·unfold fp at A;by_cases E:a=j
  ·rw[if_pos E]at A;rcases h with h|⟨b,h,H⟩;·exact .inl (.inr ⟨j,G,h▸A⟩)
   ·rw[h]at A;injection A with A;exact .inr Tf
  ·rw[if_neg E]at A;exact .inl (.inr ⟨a,ha,A⟩)
theorem ft{w1 w5 w6 X:World}{i1 j2 j:Nat}{v':Value}{q':qj}(h:RP l g v w0 w i1 e p o q)(hw:uh g w1 w)(hk:GK w.drew g v j2 e2 p2 o w5)(H:Below w5.heap.size w5 X)(J:j<6)(L:w6.ownsRow w0.heap.size (CK j) (lI j) v' (q'.n j) (q'.cs j))(Q:X.grownBy w6 (o j).ownBlock)(I:v'.ownBlock=(o j).ownBlock∨v'.ownBlock=some X.heap.size)(Y:j2≤l.length)(M:(e2=0∧p2=0∧i1≤j2∧q'.n j≤j2∧Qi j l q.p i = .inl (q'.p,j2)∧(∀ k,k<6→k≠j→q'.n k=q.n k∧q'.cs k=q.cs k)∧Ok (Vm (fun k=>k=g) o) X (fun u=>Deep u q'))∨(¬ e2=0∧Qi j l q.p i = .inr (e2,p2))):Et j l g v w0 w1 o i q (.returned (.tuple #[])) (w6.setCell ⟨g,4+j,none⟩ v'):=by
 have A:GK w g v j2 e2 p2 o w5:=(GK.refl h.gk.pg).drew.trans hk;rcases M with⟨rfl,rfl,h1,h2,h3,h4,h5⟩|⟨h1,h2⟩
 ·have s1:=hw.size;have s2:=A.kp.size;have s3:=H.size;have O:∀ k,k<w1.heap.size→¬ Vm (fun k=>k=g) o k→(w6.setCell ⟨g,4+j,none⟩ v').heap[k]? = w1.heap[k]?:=fun k E G =>
   (xca _ _ _ _ (fun e=>G (.inl e))).trans ((Q.block k Tf (fun e=>G (.inr ⟨j,J,e.symm⟩))).trans ((H.block k Tf).trans ((A.kp.block k Tf (fun e=>G (.inl e))).trans (hw.block k E (fun e=>G (.inl e))))))
  exact⟨rfl,j2,0,0,_,q',.inl ⟨rfl,(h.step A Y h1).push H J L Q I h4 h5 h2,rfl,h3,O,eF J (I.imp id fun e=>⟨X.heap.size,e,by omega⟩)⟩⟩
 ·have hR:=(h.rows.step A.kp.size (fun k E G=>A.kp.block k E G)).below H;have Z:=AF (v':=v') ((h.gk.trans A).below H) h.lt J (hR.row j J) Q;exact⟨rfl,j2,e2,p2,_,q,.inr ⟨h1,Z.pg,Z.kp.below (nba h.lt),h2⟩⟩
end
end Go.Proofs.YtjcihcncljihoaaGreatDoor
namespace Go.Proofs.YtjcihcncljihoaaGreatDoor
open Go Go.RowKit
set_option linter.unusedVariables false
open Go.Lib renaming hid→kaa
open Go.RowKit.Below renaming refl→Gaa
open List renaming length_append→xaa,length_cons→jaa,length_nil→Xaa
open Nat renaming le_refl→aaa,le_trans→yba
open uh renaming refl→Aba
theorem rC{b:Bool}{l:List xh}:∀ (k i:Nat) (cs:List Xh) (j:Nat),Oj b l k i = .inl (cs,j)→i+cs.length<j
 |0,i,cs,j,h=>by unfold Oj at h;cases h
 |k+1,i,cs,j,h=>by
  unfold Oj at h
  cases A:il b l i with
  |inr e=>rw[A]at h;cases h
  |inl r =>
   obtain⟨c,j2⟩:=r;have:=Yq A;rw[A]at h;simp only at h;split at h
   ·cases hr:Oj b l k (j2+1)with
    |inr e=>rw[hr]at h;cases h
    |inl G =>rw[hr]at h;have:=rC k _ _ _ hr;cases h;simp only[jaa];omega
   ·cases E:Oh l [59] j2 with
    |inr e=>rw[E]at h;cases h
    |inl G =>rw[E]at h;have:=(yj (u:=G.1) (j:=G.2) E).2.1;cases h;simp only[jaa,Xaa];omega
theorem Pl{b:Bool}{l:List xh}{i j:Nat}{cs:List Xh}(h:fl b l i = .inl (cs,j)):i+cs.length<j:=rC _ _ _ _ h
theorem Ok.and{S:Nat→Prop}{w:World}{Q R:World→Prop}(h:Ok S w Q)(k:Ok S w R):Ok S w (fun u=>Q u∧R u):=fun w' A E=>⟨h w' A E,k w' A E⟩
theorem Ly:(Tryz.prog.info? 23).map (fun i=>(i.zero,i.size,i.bytes))=some (some (.slice none 0 0),1,24):=by kernel_rfl
theorem vM{w:World}{g B n m:Nat}{o:Nat→Value}{q:qj}{V:Value}{T:TypeId}{I:Nat}{J:List Value}{w5:World}(hr:wj B (fun k=>k=g) w o q)(O:g<w.heap.size)(H:w5.ownsRow m T I V n J)(hm:w.heap.size≤m):∀ k,V.ownBlock=some k→¬ Vm (fun k=>k=g) o k:=fun k G A=>by
 have M:=(H.lt k G).1;rcases A with h|⟨j,E,h⟩;·have L:k=g:=h;omega
 ·have:=((hr.row j E).lt k h).2;omega
theorem TM(l:List xh)(hl:l.length≤100000)(aU:∀ t∈l,t.text.length≤1000000)(g:Nat)(v:Value)(w0 w:World)(i:Nat)(o:Nat→Value)(q:qj)(h:RP l g v w0 w (i+1) 0 0 o q)(n:Int):Calls Tryz.prog 81 #[.pointer (some ⟨g,0,none⟩),.int .i64 n] w (Et 0 l g v w0 w o i q):=by
 obtain⟨i0,ao,aV,aW,aX⟩:=info_parts Ly;have L:=kaa (jt l hl aU true g v o (i+1) h.le w.drew h.gk.pg.drew ((h.ctx.keep h.gk.kp h.lt).keep (Aba g w).drew h.gk.pg.lt));unfold su at L;obtain⟨J,c0,hO⟩:=yh (h.rows.row 0 Uf);have Z:=kaa h;have ad:=kaa h.lt;have af:Hid (w0.heap.size≤w.heap.size):=h.gk.kp.size;have hq:q.n 0≤i+1:=h.cnt 0 Uf;have a0:=h.le;have HB:Hid (∀ {k:Nat},k≤l.length+1→q.n 0+1≤maxLen∧(q.n 0+1)*24≤140737488355328):=by show ∀ {k:Nat},_→_;intro k G;unfold maxLen;constructor<;>omega
 have c4:w.cell? ⟨g,4,none⟩=some (.slice J (q.n 0) c0):=(h.gk.pg.co 0 Uf).trans (congrArg some hO);have f4:=h.gk.pg.fr 4;have aY:=kaa (show w.drew.cell? ⟨g,4,none⟩=some (.slice J (q.n 0) c0)from c4);clear h;go_enter Tryz.func81,Tryz.ntmps81;go_region_law
  (first|(go_simp;go_at_call 143;refine L.out.mono ?_;rintro r w5 ⟨A,c,cs,j2,e2,p2,rfl,E,G,Y,av,hd⟩;have a4:w5.cell? ⟨g,4,none⟩=some (.slice J (q.n 0) c0):=(G.pg.co 0 Uf).trans (congrArg some hO);have aZ:=((al w5 (.cells #[.slice A cs.length c] 23)).cell (p:=⟨g,4,none⟩) G.pg.lt).trans a4;have M:=(Z.out.rows.below (dm (Gaa _ _))).step G.kp.size (fun k aT hn=>G.kp.block k aT hn);have H:∀ X,Below w5.heap.size w5 X→X.ownsRow w0.heap.size 23 1 (.slice J (q.n 0) c0) (q.n 0) (q.cs 0):=fun X hX=>(by have:=(M.below hX).row 0 Uf;rw[hO]at this;exact this);have Q:=HB.out Y;have a1:=Ti E)|((refine Fl jg _ _ 22 jg w0.heap.size 23 i0 _ 1 24 Tryz.underlying22 ao aV aW aX rfl Uf (.slice J (q.n 0) c0) (q.n 0) (q.cs 0) jg (H _ (al w5 _)) (.slice (some ⟨w5.heap.size,0,none⟩) 1 1) 1 [.slice A cs.length c] jg (zk w5 [.slice A cs.length c] 23 1 1 1 rfl (aaa _)) Cg Q.1 Q.2 (yba af.out (yba G.kp.size (al w5 _).size)) ?_;intro A6 c6 w6 hown6 hg6 hat6;have O:=(G.pg.below (al w5 _)).grown hg6 (jo (H w5 (Gaa _ _)) ad.out);have a6:w6.cell? ⟨g,4,none⟩=some (.slice J (q.n 0) c0):=(O.co 0 Uf).trans (congrArg some hO);have f6:=O.fr 4))|fail)
 all_goals
  refine bodyPost_end (results_none rfl _ _ _) rfl ?_;refine ft (q':={ q with lines:=q.lines++[(.slice A cs.length c,cs)] }) Z.out (Aba _ _) G (al w5 _) Uf Tg lh dh av ?_;rcases hd with⟨h1,h2,h3⟩|⟨h1,h3⟩
  ·have h4:=Pl h3;refine .inl ⟨h1,h2,by omega,by simp only[qj.n,xaa,jaa,Xaa]at hq ⊢;omega,?_,?_,?_⟩;·unfold Qi;rw[if_pos rfl,h3];simp[qj.p]
   ·intro k G I;match k,G,I with
    |0,_,I=>exact absurd rfl I
    |1,_,_=>exact⟨rfl,rfl⟩
    |2,_,_=>exact⟨rfl,rfl⟩
    |3,_,_=>exact⟨rfl,rfl⟩
    |4,_,_=>exact⟨rfl,rfl⟩
    |5,_,_=>exact⟨rfl,rfl⟩
   ·exact(((M.below (al w5 _)).deep.and (Gm (Ih E (al w5 _)) (vM Z.out.rows Z.out.gk.pg.lt E (aaa _)))).imp (fun u hu=>⟨fun x hx=>zg,hu.1.thrs,hu.1.rcv,hu.1.clms⟩))
  ·refine .inr ⟨h1,?_⟩;unfold Qi;rw[if_pos rfl,h3]
theorem KO(l:List xh)(hl:l.length≤100000)(aT:∀ t∈l,t.text.length≤1000000)(g:Nat)(v:Value)(w0 w:World)(i:Nat)(o:Nat→Value)(q:qj)(h:RP l g v w0 w (i+1) 0 0 o q)(n:Int):Calls Tryz.prog 82 #[.pointer (some ⟨g,0,none⟩),.int .i64 n] w (Et 1 l g v w0 w o i q):=by
 obtain⟨i0,af,aU,aV,aW⟩:=info_parts qu;have J:=kaa (jt l hl aT true g v o (i+1) h.le w.drew h.gk.pg.drew ((h.ctx.keep h.gk.kp h.lt).keep (Aba g w).drew h.gk.pg.lt));unfold su at J;obtain⟨I,c0,hO⟩:=yh (h.rows.row 1 Uf);have HH:=kaa h;have Z:=kaa h.lt;have ad:Hid (w0.heap.size≤w.heap.size):=h.gk.kp.size;have hq:q.n 1≤i+1:=h.cnt 1 Uf;have aY:=h.le;have HB:Hid (∀ {k:Nat},k≤l.length+1→q.n 1+k≤maxLen∧(q.n 1+k)*32≤140737488355328):=by show ∀ {k:Nat},_→_;intro k E;unfold maxLen;constructor<;>omega
 have c4:w.cell? ⟨g,5,none⟩=some (.slice I (q.n 1) c0):=(h.gk.pg.co 1 Uf).trans (congrArg some hO);have f4:=h.gk.pg.fr 5;have aX:=kaa (show w.drew.cell? ⟨g,5,none⟩=some (.slice I (q.n 1) c0)from c4);clear h;go_enter Tryz.func82,Tryz.ntmps82;go_region_law
  (first|(go_simp;go_at_call 143;refine J.out.mono ?_;rintro r w5 ⟨A,c,cs,j2,e2,p2,rfl,Q,E,O,al,hd⟩;have a4:w5.cell? ⟨g,5,none⟩=some (.slice I (q.n 1) c0):=(E.pg.co 1 Uf).trans (congrArg some hO);  have HR5:=(HH.out.rows.below (dm (Gaa _ _))).step E.kp.size (fun k ao hn=>E.kp.block k ao hn);have G:∀ X,Below w5.heap.size w5 X→X.ownsRow w0.heap.size 48 3 (.slice I (q.n 1) c0) (q.n 1) (q.cs 1):=fun X hX=>(by have:=(HR5.below hX).row 1 Uf;rw[hO]at this;exact this);have M:=HB.out O;have av:=Ti Q)|((refine Fl jg _ _ 23 jg w0.heap.size 48 i0 _ 3 32 Tryz.underlying23 af aU aV aW rfl Uf (.slice I (q.n 1) c0) (q.n 1) (q.cs 1) jg (G _ (Gaa w5.heap.size w5)) (.slice A cs.length c) cs.length (cs.flatMap Xh.cells) jg av (tv _) M.1 M.2 (yba ad.out (yba E.kp.size (Gaa w5.heap.size w5).size)) ?_;intro A6 c6 w6 hown6 hg6 hat6;have L:=(E.pg.below (Gaa w5.heap.size w5)).grown hg6 (jo (G w5 (Gaa _ _)) Z.out);have a6:w6.cell? ⟨g,5,none⟩=some (.slice I (q.n 1) c0):=(L.co 1 Uf).trans (congrArg some hO);have f6:=L.fr 5))|fail)
 all_goals
  refine bodyPost_end (results_none rfl _ _ _) rfl ?_;refine ft (q':={ q with vols:=q.vols++cs }) HH.out (Aba _ _) E (Gaa w5.heap.size w5) Uf Tg lh dh al ?_;rcases hd with⟨h1,h2,Y⟩|⟨h1,Y⟩
  ·have h4:=Pl Y;refine .inl ⟨h1,h2,by omega,by simp only[qj.n, xaa]at hq ⊢;omega,?_,?_,?_⟩;·unfold Qi;rw[if_neg Uf,if_pos rfl,Y];simp[qj.p]
   ·intro k E H;match k,E,H with
    |0,_,_=>exact⟨rfl,rfl⟩
    |1,_,H=>exact absurd rfl H
    |2,_,_=>exact⟨rfl,rfl⟩
    |3,_,_=>exact⟨rfl,rfl⟩
    |4,_,_=>exact⟨rfl,rfl⟩
    |5,_,_=>exact⟨rfl,rfl⟩
   ·exact Ae
  ·refine .inr ⟨h1,?_⟩;unfold Qi;rw[if_neg Uf,if_pos rfl,Y]
theorem SM(l:List xh)(hl:l.length≤100000)(aT:∀ t∈l,t.text.length≤1000000)(g:Nat)(v:Value)(w0 w:World)(i:Nat)(o:Nat→Value)(q:qj)(h:RP l g v w0 w (i+1) 0 0 o q)(n:Int):Calls Tryz.prog 83 #[.pointer (some ⟨g,0,none⟩),.int .i64 n] w (Et 2 l g v w0 w o i q):=by
 obtain⟨i0,af,aU,aV,aW⟩:=info_parts qu;have J:=kaa (jt l hl aT false g v o (i+1) h.le w.drew h.gk.pg.drew ((h.ctx.keep h.gk.kp h.lt).keep (Aba g w).drew h.gk.pg.lt));unfold su at J;obtain⟨I,c0,hO⟩:=yh (h.rows.row 2 Uf);have HH:=kaa h;have Z:=kaa h.lt;have ad:Hid (w0.heap.size≤w.heap.size):=h.gk.kp.size;have hq:q.n 2≤i+1:=h.cnt 2 Uf;have aY:=h.le;have HB:Hid (∀ {k:Nat},k≤l.length+1→q.n 2+k≤maxLen∧(q.n 2+k)*32≤140737488355328):=by show ∀ {k:Nat},_→_;intro k E;unfold maxLen;constructor<;>omega
 have c4:w.cell? ⟨g,6,none⟩=some (.slice I (q.n 2) c0):=(h.gk.pg.co 2 Uf).trans (congrArg some hO);have f4:=h.gk.pg.fr 6;have aX:=kaa (show w.drew.cell? ⟨g,6,none⟩=some (.slice I (q.n 2) c0)from c4);clear h;go_enter Tryz.func83,Tryz.ntmps83;go_region_law
  (first|(go_simp;go_at_call 143;refine J.out.mono ?_;rintro r w5 ⟨A,c,cs,j2,e2,p2,rfl,Q,E,O,al,hd⟩;have a4:w5.cell? ⟨g,6,none⟩=some (.slice I (q.n 2) c0):=(E.pg.co 2 Uf).trans (congrArg some hO);  have HR5:=(HH.out.rows.below (dm (Gaa _ _))).step E.kp.size (fun k ao hn=>E.kp.block k ao hn);have G:∀ X,Below w5.heap.size w5 X→X.ownsRow w0.heap.size 48 3 (.slice I (q.n 2) c0) (q.n 2) (q.cs 2):=fun X hX=>(by have:=(HR5.below hX).row 2 Uf;rw[hO]at this;exact this);have M:=HB.out O;have av:=Ti Q)|((refine Fl jg _ _ 23 jg w0.heap.size 48 i0 _ 3 32 Tryz.underlying23 af aU aV aW rfl Uf (.slice I (q.n 2) c0) (q.n 2) (q.cs 2) jg (G _ (Gaa w5.heap.size w5)) (.slice A cs.length c) cs.length (cs.flatMap Xh.cells) jg av (tv _) M.1 M.2 (yba ad.out (yba E.kp.size (Gaa w5.heap.size w5).size)) ?_;intro A6 c6 w6 hown6 hg6 hat6;have L:=(E.pg.below (Gaa w5.heap.size w5)).grown hg6 (jo (G w5 (Gaa _ _)) Z.out);have a6:w6.cell? ⟨g,6,none⟩=some (.slice I (q.n 2) c0):=(L.co 2 Uf).trans (congrArg some hO);have f6:=L.fr 6))|fail)
 all_goals
  refine bodyPost_end (results_none rfl _ _ _) rfl ?_;refine ft (q':={ q with locks:=q.locks++cs }) HH.out (Aba _ _) E (Gaa w5.heap.size w5) Uf Tg lh dh al ?_;rcases hd with⟨h1,h2,Y⟩|⟨h1,Y⟩
  ·have h4:=Pl Y;refine .inl ⟨h1,h2,by omega,by simp only[qj.n, xaa]at hq ⊢;omega,?_,?_,?_⟩;·unfold Qi;rw[if_neg Uf,if_neg Uf,if_pos rfl,Y];simp[qj.p]
   ·intro k E H;match k,E,H with
    |0,_,_=>exact⟨rfl,rfl⟩
    |1,_,_=>exact⟨rfl,rfl⟩
    |2,_,H=>exact absurd rfl H
    |3,_,_=>exact⟨rfl,rfl⟩
    |4,_,_=>exact⟨rfl,rfl⟩
    |5,_,_=>exact⟨rfl,rfl⟩
   ·exact Ae
  ·refine .inr ⟨h1,?_⟩;unfold Qi;rw[if_neg Uf,if_neg Uf,if_pos rfl,Y]
end Go.Proofs.YtjcihcncljihoaaGreatDoor

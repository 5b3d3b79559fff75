/- Chapter 05 (programs), joined: ShwPlain, StmPlain. -/
import Derived.Test.YtjcihcncljihoaaGreatDoorPb01
import Derived.Lib.ItoaLen
set_option maxRecDepth 100000
namespace Go.Proofs.YtjcihcncljihoaaGreatDoor
open Go Go.RowKit
set_option linter.unusedVariables false
open List renaming append_nil→Maa,cons_append→Kaa
open List.cons renaming injEq→Laa
theorem nc{P:Prop}(h:P:=by simp only[Ex.flat,List.cons_append,List.cons.injEq]at h;obtain⟨rfl,_⟩:=h;have h1:Lh x.op=0:=ha;have h2:=hb.1;omega):P:=h
theorem oc{P:Prop}(h:P:=by simp only[Ex.flat,List.cons_append,List.cons.injEq]at h;obtain⟨rfl,_⟩:=h;have h1:Lh x.op=0:=hb;have h2:=ha.1;omega):P:=h
theorem pc{P:Prop}(h:P:=by obtain⟨s,k⟩:=r;rw[hn]at h;cases h;obtain⟨h1,_,_,_,rfl⟩:=Si hn;exact⟨Nat.lt_succ_self _,h1,⟨rfl,rfl,rfl,rfl⟩⟩):P:=h
theorem Bc{P:Prop}(h:P:=by refine⟨e',?_,h2⟩;have:=lx (pr:=ti l k) (l:=l) (i:=i) (x:=e') 5 0 (by omega) h1 (fun n g1 g2=>hf n (by omega));exact this):P:=h
theorem Kc{P:Prop}(h:P:=by simp only[Ex.flat,List.cons_append,List.cons.injEq]at h;obtain⟨rfl,_⟩:=h;have h1:=ha.1;have h2:=hb.1;omega):P:=h
theorem Qc{P:Prop}(h:P:=by obtain⟨s,k⟩:=r;rw[hn]at h;cases h;obtain⟨h1,h2,_⟩:=Mj hn;exact⟨h1,h2,⟨rfl,rfl,rfl,rfl⟩⟩):P:=h
theorem td{P:Prop}(h:P:=by unfold Nl;rw[this,List.drop_succ_cons,show pos+(li false l+1)=pos+1+li false l by omega]):P:=h
theorem Td{P:Prop}(h:P:=by refine⟨?_,by omega,fun e=>by subst e;revert h;decide⟩;unfold gi;simp;omega):P:=h
theorem De{P:Prop}(h:P:=by cases h;exact⟨Int.le_refl _,by show(0:Int)≤4294967296;decide⟩):P:=h
theorem kf{P:Prop}(h:P:=by obtain⟨h1,h2,h3,h4⟩:=h.head;rw[Kz h1,h2,h3];simp):P:=h
theorem Fg{P:Prop}(h:P:=by simp[Ex.flat]):P:=h
theorem kh{P:Prop}(h:P:=by simp only[Ex.deep]at hd;omega):P:=h
theorem ph{P:Prop}(h:P:=by rw[List.mem_range'_1];omega):P:=h
theorem Ex.flat_inj:∀ (a b:Ex),a.ok→b.ok→∀ p q,a.flat++p=b.flat++q→a=b∧p=q
 | .leaf x,.leaf y,ha,hb,p,q,h=>by simp only[Ex.flat,Kaa,List.nil_append,Laa]at h;exact⟨by rw[h.1],h.2⟩
 | .leaf x,.one y c,ha,hb,p,q,h=>by exact nc
 | .leaf x,.two y c d,ha,hb,p,q,h=>by exact nc
 | .one x a,.leaf y,ha,hb,p,q,h=>by exact oc
 | .one x a,.one y c,ha,hb,p,q,h=>by simp only[Ex.flat,Kaa,Laa]at h;obtain⟨rfl,h⟩:=h;obtain⟨rfl,rfl⟩:=Ex.flat_inj a c ha.2 hb.2 p q h;exact⟨rfl,rfl⟩
 | .one x a,.two y c d,ha,hb,p,q,h=>by exact Kc
 | .two x a b,.leaf y,ha,hb,p,q,h=>by exact oc
 | .two x a b,.one y c,ha,hb,p,q,h=>by exact Kc
 | .two x a b,.two y c d,ha,hb,p,q,h=>by simp only[Ex.flat,Kaa,Laa,List.append_assoc]at h;obtain⟨rfl,h⟩:=h;obtain⟨rfl,h2⟩:=Ex.flat_inj a c ha.2.1 hb.2.1 _ _ h;obtain⟨rfl,rfl⟩:=Ex.flat_inj b d ha.2.2 hb.2.2 _ _ h2;exact⟨rfl,rfl⟩
open Classical in
noncomputable def Dn(l:List Kh):Option Ex:=if h:∃ e:Ex,e.ok∧l=e.flat then some h.choose else none
theorem Cn(e:Ex)(h:e.ok):Dn e.flat=some e:=by have A:∃ a:Ex,a.ok∧e.flat=a.flat:=⟨e,h,rfl⟩;unfold Dn;rw[dif_pos A];have:=A.choose_spec;rw[(Ex.flat_inj _ _ h this.1 [] [] (by rw[Maa,Maa];exact this.2)).1.symm]
theorem Dv{l:List Kh}{e:Ex}(h:Dn l=some e):e.ok∧l=e.flat:=by
 unfold Dn at h;split at h;·rename_i A;cases h;exact A.choose_spec
 ·cases h
theorem QC{l:List Kh}(h:Uk l 0≠(l.length:Int)):Dn l=none:=by
 cases ht:Dn l with
 |none=>rfl
 |some e =>
  obtain⟨A,rfl⟩:=Dv ht
  exact absurd (fE e A) h
theorem fs{l:List Kh}(h:Uk l 0=(l.length:Int)):∃ e:Ex,e.ok∧l=e.flat∧Dn l=some e:=by obtain⟨e,A,rfl⟩:=Ex.of_whole h;exact⟨e,A,rfl,Cn e A⟩
def Ci(x:Kh):Bool :=
 if (decide (x.pos<0)||decide (4000<x.pos))=true then false
 else if x.op=1 then decide (0≤x.n)&&decide (x.n≤4294967296)&&(x.name==[])
 else if x.op=2 then (x.n==0)&&Hh x.name
 else (x.n==0)&&(x.name==[])
noncomputable def Fh(l:List Kh):Bool:=match Dn l with
 |some e=>decide (l.length≤40)&&l.all Ci&&decide (e.deep≤12)
 |none=>false
theorem Xp(e:Ex)(h:e.ok):Fh e.flat=(decide (e.flat.length≤40)&&e.flat.all Ci&&decide (e.deep≤12)):=by unfold Fh;rw[Cn e h]
theorem Dk{l:List Kh}(h:Fh l=true):∃ e:Ex,e.ok∧l=e.flat∧Dn l=some e∧l.length≤40∧(∀ x∈l,Ci x=true)∧e.deep≤12:=by
 unfold Fh at h
 cases ht:Dn l with
 |none=>rw[ht]at h;cases h
 |some e =>
  rw[ht]at h
  obtain⟨A,E⟩:=Dv ht
  simp only[Bool.and_eq_true,decide_eq_true_eq,List.all_eq_true]at h
  exact⟨e,A,E,rfl,h.1.1,h.1.2,h.2⟩
theorem Hr{l:List Kh}(h:Uk l 0≠(l.length:Int)):Fh l=false:=by unfold Fh;rw[QC h]
theorem sw{l:List Kh}(h:40<l.length):Fh l=false:=by
 unfold Fh
 cases Dn l with
 |none=>rfl
 |some e=>simp only;rw[decide_eq_false Tf];rfl
theorem qw{l:List Kh}(h:l.all Ci=false):Fh l=false:=by
 unfold Fh
 cases Dn l with
 |none=>rfl
 |some e=>simp only;rw[h];simp
noncomputable def ou(l:List Kh):Nat:=if Fh l=true then (match Dn l with|some e=>e.deep|none=>0)else 0
def Ex.brk(e:Ex)(s:List UInt8):List UInt8:=match e with
 | .two _ _ _=>40::(s++[41])
 |_=>s
def Ex.show:Ex→List UInt8
 | .leaf x=>if x.op=1 then Lib.itoa x.n else x.name
 | .one x a=>sg x.op.toNat++a.brk a.show
 | .two x a b=>a.brk a.show++[32]++sg x.op.toNat++[32]++b.brk b.show
noncomputable def Ej(l:List Kh):List UInt8:=if Fh l=true then (match Dn l with|some e=>e.show|none=>[])else []
def gR(out:List (List UInt8))(x:Kh):List (List UInt8):=if x.op=2 then (if out.contains x.name=true then out else out++[x.name])else out
def uP(l:List Kh):List (List UInt8):=l.foldl gR []
noncomputable def TJ(l:List Kh):List (List UInt8):=if Fh l=true then uP l else []
end Go.Proofs.YtjcihcncljihoaaGreatDoor
namespace Go.Proofs.YtjcihcncljihoaaGreatDoor
open Go Go.RowKit
set_option linter.unusedVariables false
open Bool renaming and_eq_true→Raa,and_self→Waa
open Ex renaming deep→Oaa,flat→Naa
open Go.Lib renaming decDigits→Taa,itoa→Paa
open List renaming all_cons→Uaa,all_nil→Vaa,cons_append→Kaa,length_append→xaa,length_cons→jaa,length_drop→vaa,length_nil→Xaa,map_append→Zaa,map_eq_append_iff→Qaa,mem_of_find?_eq_some→Haa,mem_range'_1→bba,nil_append→Yaa,range'→aba,takeWhile_cons→iaa
open Nat renaming le_refl→aaa,zero_add→paa,zero_le→laa
open Option renaming getD_some→cba
open UInt8 renaming ofNat→Saa
def qi(x:Kh):Kh:=⟨x.op,x.n,x.name,0⟩
def yA(t:xh):Int × List UInt8 × Int:=(t.kind,t.text,t.n)
def Ex.bare:Ex→Ex
 | .leaf x=>.leaf (qi x)
 | .one x a=>.one (qi x) a.bare
 | .two x a b=>.two (qi x) a.bare b.bare
theorem Ex.bare_flat:∀ e:Ex,e.bare.flat=e.flat.map qi
 | .leaf x=>rfl
 | .one x a=>by simp[Ex.bare,Naa,a.bare_flat]
 | .two x a b=>by simp[Ex.bare,Naa,a.bare_flat,b.bare_flat]
theorem Ex.bare_deep:∀ e:Ex,e.bare.deep=e.deep
 | .leaf x=>rfl
 | .one x a=>by simp[Ex.bare,Oaa,a.bare_deep]
 | .two x a b=>by simp[Ex.bare,Oaa,a.bare_deep,b.bare_deep]
theorem Ex.bare_len(e:Ex):e.bare.flat.length=e.flat.length:=by rw[e.bare_flat,List.length_map]
theorem Ex.brk_bare(e:Ex)(s:List UInt8):e.bare.brk s=e.brk s:=by cases e<;>rfl
theorem Ex.bare_show:∀ e:Ex,e.bare.show=e.show
 | .leaf x=>rfl
 | .one x a=>by simp only[Ex.bare,Ex.show,a.bare_show,Ex.brk_bare];rfl
 | .two x a b=>by simp only[Ex.bare,Ex.show,a.bare_show,b.bare_show,Ex.brk_bare];rfl
abbrev T3:=Int × List UInt8 × Int
def Ex.brkT(e:Ex)(s:List T3):List T3:=match e with
 | .two _ _ _=>(3,[40],0)::(s++[(3,[41],0)])
 |_=>s
def Ex.toks:Ex→List T3
 | .leaf x=>if x.op=1 then [(2,Paa x.n,x.n)]else [(1,x.name,0)]
 | .one x a=>(3,sg x.op.toNat,0)::a.brkT a.toks
 | .two x a b=>a.brkT a.toks++((3,sg x.op.toNat,0)::b.brkT b.toks)
def pk(l:List xh)(i:Nat)(T:List T3):Prop:=∃ G A E,l=G++(A++E)∧G.length=i∧A.map yA=T
theorem pk.left{l:List xh}{i:Nat}{T U:List T3}(h:pk l i (T++U)):pk l i T:=by obtain⟨E,J,A,rfl,rfl,hm⟩:=h;obtain⟨H,I,rfl,G,L⟩:=Qaa.1 hm;exact⟨E,H,I++A,by simp,rfl,G⟩
theorem pk.right{l:List xh}{i:Nat}{T U:List T3}(h:pk l i (T++U)):pk l (i+T.length) U:=by obtain⟨E,L,A,rfl,rfl,hm⟩:=h;obtain⟨I,J,rfl,G,H⟩:=Qaa.1 hm;exact⟨E++I,J,A,by simp,by rw[← G];simp,H⟩
theorem pk.tail{l:List xh}{i:Nat}{t:T3}{U:List T3}(h:pk l i (t::U)):pk l (i+1) U:=by have:pk l (i+[t].length) U:=pk.right (T:=[t]) h;exact this
theorem pk.head{l:List xh}{i:Nat}{t:T3}{U:List T3}(h:pk l i (t::U)):i<l.length∧(tk l i).kind=t.1∧(tk l i).text=t.2.1∧(tk l i).n=t.2.2:=by
 obtain⟨A,J,E,rfl,rfl,hm⟩:=h;obtain⟨m,H,rfl,I,L⟩:=List.map_eq_cons_iff.1 hm;have G:A.length<(A++(m::H++E)).length:=by simp
 refine⟨G,?_⟩;rw[rj G];have:(A++(m::H++E))[A.length]'G=m:=by simp
 rw[this,← I];exact⟨rfl,rfl,rfl⟩
theorem pk.le{l:List xh}{i:Nat}{T:List T3}(h:pk l i T):i+T.length≤l.length:=by obtain⟨G,E,A,rfl,rfl,hm⟩:=h;rw[← hm];simp
theorem Kz{l:List xh}{i:Nat}(hi:i<l.length)(s:List UInt8):Qh l i s=((decide ((tk l i).kind=1)||decide ((tk l i).kind=3))&&decide ((tk l i).text=s)):=by rw[ax hi,rj hi,Bool.and_comm,Bool.eq_iff_iff];simp
theorem vj{l:List xh}{i:Nat}{s:List UInt8}{U:List T3}(h:pk l i ((3,s,0)::U)):Qh l i s=true:=by exact kf
theorem Tk{l:List xh}{i:Nat}{t:T3}{s:List UInt8}{U:List T3}(h:pk l i (t::U))(G:t.2.1≠s):Qh l i s=false:=by obtain⟨A,H,E,I⟩:=h.head;rw[Kz A,E];simp[G]
theorem Lz{l:List xh}{i:Nat}{t:T3}{s:List UInt8}{U:List T3}(h:pk l i (t::U))(G:t.1=2):Qh l i s=false:=by obtain⟨A,E,H,I⟩:=h.head;rw[Kz A,E,G];simp
def Kx(l:List xh)(i:Nat):Prop:=∀ n,n<5→opAt n l i=0
theorem PL:∀ n,n<5→∀ op∈Rh n,sg op≠[41]:=by decide
theorem ZD{l:List xh}{i:Nat}{U:List T3}(h:pk l i ((3,[41],0)::U)):Kx l i:=fun n G=>by
 by_cases A:opAt n l i=0;·exact A
 ·have E:=Lk A;have:=Tk (s:=sg (opAt n l i)) h (fun e=>PL n G _ E.1 e.symm);rw[E.2]at this;cases this
def dN(op:Nat):Nat:=if op=15 then 0 else if op=14 then 1 else if 10≤op then 2 else if 7≤op then 4 else 3
theorem zK:∀ op,5≤op→op≤15→dN op≤4∧op∈Rh (dN op)∧∀ n,n<5→n≠dN op→∀ q∈Rh n,sg q≠sg op:=by
 intro op A E;have:∀ k:Fin 11,dN (k.val+5)≤4∧(k.val+5)∈Rh (dN (k.val+5))∧∀ n,n<5→n≠dN (k.val+5)→∀ q∈Rh n,sg q≠sg (k.val+5):=by decide +kernel
 have:=this ⟨op - 5,by omega⟩;simp only at this;rw[show op - 5+5=op by omega]at this;exact this
theorem iH{l:List xh}{i op:Nat}{U:List T3}(J:5≤op)(A:op≤15)(h:pk l i ((3,sg op,0)::U)):opAt (dN op) l i=op∧∀ n,n<5→n≠dN op→opAt n l i=0:=by
 obtain⟨M,H,I⟩:=zK op J A;refine⟨Fz H (vj h),fun n L E=>?_⟩;by_cases G:opAt n l i=0;·exact G
 ·have A:=Lk G;have:=Tk (s:=sg (opAt n l i)) h (fun e=>I n L E _ A.1 e.symm);rw[A.2]at this;cases this
theorem lx{pr:Nat→Dm}{l:List xh}{i tq:Nat}{x:Ex}:∀ (d m:Nat),m+d≤5→Dj pr l m i = .inl (x,tq)→(∀ n,n<5 - m→5 - (m+d)≤n→opAt n l tq=0)→Dj pr l (m+d) i = .inl (x,tq)
 |0,m,_,h,_=>h
 |d+1,m,hm,h,A=>by have ih:=lx d m Tf h (fun n E G=>A n E Tf);rw[show m+(d+1)=(m+d)+1 by omega];unfold Dj;rw[ih];simp only;exact Vs (A _ Tf Tf)
theorem Al{x:Kh}(h:Ci x=true)(A:x.op=1):x.name=[]∧0≤x.n∧x.n≤4294967296:=by
 unfold Ci at h;split at h;·cases h
 ·simp only[Raa,decide_eq_true_eq,beq_iff_eq]at h;exact⟨h.2,h.1.1,h.1.2⟩
theorem Mn{x:Kh}(h:Ci x=true)(E:x.op=2):x.n=0∧Hh x.name=true:=by
 by_cases A:(decide (x.pos<0)||decide (4000<x.pos))=true;·unfold Ci at h;rw[if_pos A]at h;cases h
 ·unfold Ci at h;rw[if_neg A,if_neg Tf,if_pos E]at h;simpa using h
theorem lF{x:Kh}(h:Ci x=true)(A:x.op≠1)(E:x.op≠2):x.n=0∧x.name=[]:=by
 unfold Ci at h;split at h;·cases h
 ·simp only[Raa,beq_iff_eq]at h;exact h
theorem du{s:List UInt8}(h:Hh s=true)(t:List UInt8)(ht:∀ c r,t=c::r→si c=false):s≠t:=by
 intro e
 subst e
 cases s with
 |nil=>cases h
 |cons c r =>
  have:=ht c r rfl
  unfold Hh at h
  simp only[this,Raa]at h
  simp at h
theorem Nj{op:Int}:(Lh op=0→op=1∨op=2)∧(Lh op=1→op=3∨op=4)∧(Lh op=2→5≤op∧op≤15):=by
 unfold Lh;split;·refine⟨fun _=>by omega,fun h=>by omega,fun h=>by omega⟩
 ·split;·refine⟨fun h=>by omega,fun _=>by omega,fun h=>by omega⟩
  ·split;·refine⟨fun h=>by omega,fun h=>by omega,fun _=>by omega⟩
   ·refine⟨fun h=>by omega,fun h=>by omega,fun h=>by omega⟩
def Ex.may(e:Ex):Prop:=∀ x∈e.flat,Ci x=true
theorem Ex.may_one{x:Kh}{a:Ex}(h:(Ex.one x a).may):Ci x=true∧a.may:=⟨h x Fg,fun y A=>h y (by simp[Naa,A])⟩
theorem Ex.may_two{x:Kh}{a b:Ex}(h:(Ex.two x a b).may):Ci x=true∧a.may∧b.may:=⟨h x Fg,fun y A=>h y (by simp[Naa,A]),fun y A=>h y (by simp[Naa,A])⟩
theorem OC{l:List xh}{i:Nat}(A:Qh l i [33]=false)(E:Qh l i [45]=false):Gt l i=false:=by unfold Gt;rw[A,E];rfl
theorem fB{l:List xh}{i k:Nat}(hi:i<l.length)(A:Gt l i=false)(E:Nx l i=false):ti l k i=Fk l i:=by
 cases k with
 |zero=>unfold ti;rw[if_neg Tf,if_neg (by rw[A,E];simp)]
 |succ k=>unfold ti;rw[if_neg Tf,if_neg (by rw[A];simp),if_neg (by rw[E];simp)]
theorem ZA(l:List xh)(x:Kh)(a b:Ex)(i k:Nat)(ho:(Ex.two x a b).ok)(hm:(Ex.two x a b).may)(hd:(Ex.two x a b).deep≤k+2)(HA:∀ j,pk l j (a.brkT a.toks)→∃ G:Ex,ti l k j = .inl (G,j+(a.brkT a.toks).length)∧G.bare=a.bare)(HB:∀ j,pk l j (b.brkT b.toks)→∃ G:Ex,ti l k j = .inl (G,j+(b.brkT b.toks).length)∧G.bare=b.bare)(ha:pk l i (Ex.two x a b).toks)(M:Kx l (i+(Ex.two x a b).toks.length)):∃ G:Ex,Dj (ti l k) l 5 i = .inl (G,i+(Ex.two x a b).toks.length)∧G.bare=(Ex.two x a b).bare:=by
 obtain⟨hx,aW,aX⟩:=Ex.may_two hm;have H:pk l i (a.brkT a.toks++((3,sg x.op.toNat,0)::b.brkT b.toks)):=ha;obtain⟨a',h1,h2⟩:=HA i H.left;have hr:=H.right;obtain⟨L,h3,h4⟩:=HB _ hr.tail;have aY:=Nj.2.2 ho.1;obtain⟨o1,o2⟩:=iH (op:=x.op.toNat) Tf Tf hr;obtain⟨f1,f2,f3⟩:=zK x.op.toNat Tf Tf;obtain⟨hn,Y⟩:=lF hx Tf Tf;have aT:(Ex.two x a b).toks.length=(a.brkT a.toks).length+1+(b.brkT b.toks).length:=by show(a.brkT a.toks++((3,sg x.op.toNat,0)::b.brkT b.toks)).length=_;simp;omega
 have I:i+(a.brkT a.toks).length+1+(b.brkT b.toks).length=i+(Ex.two x a b).toks.length:=by omega
 rw[I]at h3;generalize i+(Ex.two x a b).toks.length=E at *;generalize i+(a.brkT a.toks).length=A at *;generalize aV:dN x.op.toNat=f at *;generalize aU:x.op.toNat=op at *;have w1:Dj (ti l k) l (4 - f) i = .inl (a',A):=by have:=lx (pr:=ti l k) (l:=l) (i:=i) (tq:=A) (x:=a') (4 - f) 0 Tf h1 (fun n Z g2=>o2 n Tf Tf);rw[paa]at this;exact this
 have w2:Dj (ti l k) l (4 - f) (A+1) = .inl (L,E):=by have:=lx (pr:=ti l k) (l:=l) (i:=A+1) (tq:=E) (x:=L) (4 - f) 0 Tf h3 (fun n Z g2=>M n Tf);rw[paa]at this;exact this
 have O:=Nk (Kk l k) (4 - f);have w3:Dj (ti l k) l (4 - f+1) i = .inl (.two ⟨op,0,[],(tk l A).pos⟩ a' L,E):=by
  unfold Dj;rw[w1];simp only;rw[show 4 - (4 - f)=f by omega];have Q:opAt f l A≠0:=by rw[o1];omega
  rw[Ws O Q w2,o1];split;·rfl
  ·exact Vs (M f Tf)
 refine⟨.two ⟨op,0,[],(tk l A).pos⟩ a' L,?_,?_⟩;·have:=lx (pr:=ti l k) (l:=l) (i:=i) (tq:=E) f (4 - f+1) Tf w3 (fun n Z g2=>M n Tf);rw[show 4 - f+1+f=5 by omega]at this;exact this
 ·have J:((op:Nat):Int)=x.op:=by omega
  simp only[Ex.bare,qi,h2,h4,J,hn,Y]
theorem pm(l:List xh):∀ (e:Ex) (i k:Nat),e.ok→e.may→e.deep≤k+1→pk l i (e.brkT e.toks)→∃ Q:Ex,ti l k i = .inl (Q,i+(e.brkT e.toks).length)∧Q.bare=e.bare
 | .leaf x,i,k,J,hm,hd,ha=>by
  have Z:=hm x Fg;have H:=Nj.1 (show Lh x.op=0 from J);rcases H with G|G
  ·have ht:(Ex.leaf x).brkT (Ex.leaf x).toks=[(2,Paa x.n,x.n)]:=by show(Ex.leaf x).toks=_;unfold Ex.toks;rw[if_pos G]
   rw[ht]at ha ⊢;obtain⟨O,_⟩:=Al Z G;obtain⟨M,L,I,Y⟩:=ha.head;refine⟨_,by rw[fB M (OC (Lz ha rfl) (Lz ha rfl)) (Lz ha rfl)];unfold Fk;rw[if_pos L];rfl,?_⟩;simp only[Ex.bare,qi,Y];rw[G,O]
  ·have ht:(Ex.leaf x).brkT (Ex.leaf x).toks=[(1,x.name,0)]:=by show(Ex.leaf x).toks=_;unfold Ex.toks;rw[if_neg Tf]
   rw[ht]at ha ⊢;obtain⟨O,E⟩:=Mn Z G;obtain⟨M,L,I,Y⟩:=ha.head;have q1:Qh l i [33]=false:=Tk ha (du E _ (fun c r e=>by cases e;rfl));have q2:Qh l i [45]=false:=Tk ha (du E _ (fun c r e=>by cases e;rfl));have q3:Nx l i=false:=Tk ha (du E _ (fun c r e=>by cases e;rfl));simp only at L I;refine⟨_,by rw[fB M (OC q1 q2) q3];unfold Fk;rw[if_neg (by rw[L];decide),if_pos ⟨L,by rw[I];exact E⟩];rfl,?_⟩;simp only[Ex.bare,qi,I];rw[G,O]
 | .one x a,i,k,J,hm,hd,ha=>by
  obtain⟨Z,a7⟩:=Ex.may_one hm;have A:pk l i ((3,sg x.op.toNat,0)::a.brkT a.toks):=ha;have hk:1≤k:=by have:=a.deep_pos;simp only[Oaa]at hd;omega
  obtain⟨k,rfl⟩:∃ j,k=j+1:=⟨k - 1,by omega⟩;obtain⟨a',G,h2⟩:=pm l a (i+1) k J.2 a7 kh A.tail;obtain⟨M,L,I,Y⟩:=A.head;have H:=Nj.2.1 J.1;have hu:Gt l i=true:=by
   unfold Gt;rcases H with h|h;·have:Qh l i [45]=true:=vj (s:=[45]) (U:=a.brkT a.toks) (by rw[h]at A;exact A);rw[this];simp
   ·have:Qh l i [33]=true:=vj (s:=[33]) (U:=a.brkT a.toks) (by rw[h]at A;exact A);rw[this];simp
  obtain⟨O,E⟩:=lF Z Tf Tf;refine⟨.one ⟨if (tk l i).text=[45]then 3 else 4,0,[],(tk l i).pos⟩ a',?_,?_⟩;·unfold ti;rw[if_neg Tf,if_pos hu,G];show Sum.inl _=Sum.inl _;rw[show i+1+(a.brkT a.toks).length=i+((Ex.one x a).brkT (Ex.one x a).toks).length by show _=i+(a.brkT a.toks).length.succ;omega]
  ·have hh:(if (tk l i).text=[45]then (3:Int)else 4)=x.op:=by simp only at I;rw[I];rcases H with h|h<;>rw[h]<;>decide
   simp only[Ex.bare,qi,h2,hh,O,E]
 | .two x a b,i,k,J,hm,hd,ha=>by
  have A:pk l i ((3,[40],0)::((Ex.two x a b).toks++[(3,[41],0)])):=ha;have hk:1≤k:=by have:=a.deep_pos;simp only[Oaa]at hd;omega
  obtain⟨k,rfl⟩:∃ j,k=j+1:=⟨k - 1,by omega⟩;have hc:=A.tail.right;obtain⟨Q,G,h2⟩:=ZA l x a b (i+1) k J hm Tf (fun j hj=>pm l a j k J.2.1 (Ex.may_two hm).2.1 kh hj) (fun j hj=>pm l b j k J.2.2 (Ex.may_two hm).2.2 kh hj) A.tail.left (ZD hc);obtain⟨M,L,I,Y⟩:=A.head;refine⟨Q,?_,h2⟩;unfold ti;have q3:Nx l i=true:=vj A;have q2:Gt l i=false:=OC (Tk A Uf) (Tk A Uf);have aZ:Qh l ((i+1+(Ex.two x a b).toks.length:Nat):Int) [41]=true:=vj hc;rw[if_neg Tf,if_neg (by rw[q2];decide),if_pos q3,G];simp only;rw[if_pos aZ];rw[show i+1+(Ex.two x a b).toks.length+1=i+((Ex.two x a b).brkT (Ex.two x a b).toks).length by
   have:((Ex.two x a b).brkT (Ex.two x a b).toks).length=(Ex.two x a b).toks.length+2:=by show((3,[40],0)::((Ex.two x a b).toks++[(3,[41],0)]):List T3).length=_;simp
   omega]
theorem rD(l:List xh)(e:Ex)(k:Nat)(A:e.ok)(hm:e.may)(E:e.deep≤k+1)(i:Nat)(ha:pk l i e.toks)(hf:Kx l (i+e.toks.length)):∃ e':Ex,Dj (ti l k) l 5 i = .inl (e',i+e.toks.length)∧e'.bare=e.bare:=by
 match e,A,hm,E,ha,hf with
 | .leaf x,A,hm,E,ha,hf =>
  obtain⟨e',h1,h2⟩:=pm l (.leaf x) i k A hm E ha
  exact Bc
 | .one x a,A,hm,E,ha,hf =>
  obtain⟨e',h1,h2⟩:=pm l (.one x a) i k A hm E ha
  exact Bc
 | .two x a b,A,hm,E,ha,hf=>exact ZA l x a b i k A hm Tf (fun j G=>pm l a j k A.2.1 (Ex.may_two hm).2.1 (by simp only[Oaa]at E;omega) G) (fun j G=>pm l b j k A.2.2 (Ex.may_two hm).2.2 (by simp only[Oaa]at E;omega) G) ha hf
theorem IK{k:Nat}(h:k<10):Ph (Saa (48+k))=true∧(Saa (48+k)).toNat=48+k:=by
 have A:(Saa (48+k)).toNat=48+k:=by simp[UInt8.toNat_ofNat'];omega
 refine⟨?_,A⟩;unfold Ph;rw[A];simp;omega
theorem pv:∀ (k u:Nat),u≤k→(Taa u).all Ph=true∧mr (Taa u)=u∧Taa u≠[]
 |0,u,h=>by
  obtain rfl:u=0:=by omega
  rw[Taa,dif_pos Tf];exact⟨rfl,rfl,by simp⟩
 |k+1,u,h=>by
  rw[Taa];split;·rename_i G;obtain⟨A,E⟩:=IK G;refine⟨by simp only[Uaa,A,Vaa,Waa],?_,by simp⟩;show 10*0+((Saa (48+u)).toNat - 48)=u;rw[E];omega
  ·rename_i G;obtain⟨I,H,J⟩:=pv k (u / 10) Tf;obtain⟨A,E⟩:=IK (show u % 10<10 by omega);refine⟨by rw[List.all_append,I];simp only[Uaa,A,Vaa,Waa],?_,by simp⟩;unfold mr at H ⊢;rw[List.foldl_append,H];show 10*(u / 10)+((Saa (48+u % 10)).toNat - 48)=u;rw[E];omega
theorem IF:∀ (k u:Nat),u<10 ^ (k+1)→(Taa u).length≤k+1
 |0,u,h=>by rw[Taa,dif_pos Tf];simp
 |k+1,u,h=>by
  rw[Taa];split;·simp
  ·have:=IF k (u / 10) (by rw[Nat.pow_succ]at h;omega);rw[xaa];simp only[jaa,Xaa];omega
theorem Yw{n:Int}(h:0≤n):Paa n=Taa n.toNat:=by unfold Paa;rw[if_neg Tf]
theorem kz{p:UInt8→Bool}:∀ (s q:List UInt8),s.all p=true→(∀ c r,q=c::r→p c=false)→(s++q).takeWhile p=s
 | [],[],_,_=>rfl
 | [],c::r,_,h=>by rw[Yaa,iaa,h c r rfl];rfl
 |x::s,q,A,h=>by simp only[Uaa,Raa]at A;rw[Kaa,iaa,A.1];simp only[if_true];rw[kz s q A.2 h]
def Nl(pos:Nat)(l:List UInt8):List xh × Int × Int:=Ar (pos+li false l) (l.drop (li false l))
theorem uG(pos:Nat):Nl pos []=([],0,0):=rfl
theorem OE{l:List UInt8}(h:l.length≤4000):Li l=Nn [] (Nl 0 l):=by unfold Li;rw[if_pos h];unfold Nl;rw[paa]
theorem yu(pos:Nat)(l:List UInt8):Nl pos (32::l)=Nl (pos+1) l:=by have:li false (32::l)=li false l+1:=rfl;exact td
theorem Un{s q:List UInt8}{k n:Int}(G:s≠[])(A:li false (s++q)=0)(h:∀ pos:Int,lj (s++q) pos = .inl (⟨k,s,n,pos⟩,s.length))(pos:Nat):Nl pos (s++q)=Nn [⟨k,s,n,pos⟩] (Nl (pos+s.length) q):=by
 unfold Nl;rw[A];obtain⟨c,r,rfl⟩:∃ c r,s=c::r:=by cases s with|nil=>exact absurd rfl G|cons c r=>exact⟨c,r,rfl⟩
 have e:=dy (pos:=pos) (c:=c) (r:=r++q) (h pos);have E:(c::(r++q)).drop (c::r).length=q:=by rw[← Kaa];exact List.drop_left
 rw[E]at e;rw[List.drop_zero,Nat.add_zero];exact e
def fA(q:List UInt8):Prop:=∀ c r,q=c::r→Xm c=false
theorem Kl(q:List UInt8):fA (32::q):=fun c r h=>by cases h;rfl
theorem JH(q:List UInt8):fA (41::q):=fun c r h=>by cases h;rfl
def uO(c:UInt8):Prop:=gi c=false∧c.toNat≠47∧c≠61
theorem Is{c:UInt8}{r:List UInt8}(h:uO c):li false (c::r)=0:=by unfold li;rw[if_neg (by rw[h.1];decide),if_neg (fun g=>h.2.1 g.1)]
theorem Lw{c:UInt8}(h:si c=true):uO c:=by
 have A:(97≤c.toNat∧c.toNat≤122)∨c.toNat=95:=by simpa[si]using h
 exact Td
theorem bu{c:UInt8}(h:Ph c=true):uO c:=by
 have A:48≤c.toNat∧c.toNat≤57:=by simpa[Ph]using h
 exact Td
theorem iu{c:UInt8}(h:Ph c=true):si c=false:=by
 have A:48≤c.toNat∧c.toNat≤57:=by simpa[Ph]using h
 unfold si;simp;omega
theorem uH{c:UInt8}(h:Xm c=false):Ph c=false:=by unfold Xm at h;simp at h;exact h.2
theorem BI{s q:List UInt8}(h:Hh s=true)(hq:fA q)(pos:Int):lj (s++q) pos = .inl (⟨1,s,0,pos⟩,s.length):=by
 cases s with
 |nil=>cases h
 |cons c r =>
  unfold Hh at h
  simp only[Raa,decide_eq_true_eq]at h
  obtain⟨⟨⟨A,E⟩,H⟩,G⟩:=h
  have ht:=kz (p:=Xm) (c::r) q G hq
  rw[Kaa]at ht ⊢
  unfold lj
  simp only
  rw[if_pos E,ht,if_pos A]
theorem Il{s:List UInt8}(h:Hh s=true):∃ c r,s=c::r∧uO c∧s.length≤16:=by
 cases s with
 |nil=>cases h
 |cons c r =>
  unfold Hh at h
  simp only[Raa,decide_eq_true_eq]at h
  exact⟨c,r,rfl,Lw h.1.1.2,h.1.1.1⟩
theorem Nm{n:Int}(H:0≤n)(J:n≤4294967296):∃ c r,Paa n=c::r∧Ph c=true∧(Paa n).length≤10:=by
 rw[Yw H]
 obtain⟨A,I,G⟩:=pv _ n.toNat (aaa _)
 have E:=IF 9 n.toNat (by show n.toNat<10000000000;omega)
 cases h:Taa n.toNat with
 |nil=>exact absurd h G
 |cons c r =>
  rw[h]at A E
  simp only[Uaa,Raa]at A
  exact⟨c,r,rfl,A.1,E⟩
theorem EE{n:Int}{q:List UInt8}(G:0≤n)(I:n≤4294967296)(hq:fA q)(pos:Int):lj (Paa n++q) pos = .inl (⟨2,Paa n,n,pos⟩,(Paa n).length):=by obtain⟨c,r,J,H,_⟩:=Nm G I;obtain⟨E,A,L⟩:=pv _ n.toNat (aaa _);rw[← Yw G]at E A;have ht:=kz (p:=Ph) (Paa n) q E (fun c r e=>uH (hq c r e));rw[J]at ht A ⊢;rw[Kaa]at ht ⊢;unfold lj;simp only;rw[if_neg (by rw[iu H];decide),if_pos H,ht,A,if_pos Tf];rw[show((n.toNat:Nat):Int)=n by omega]
theorem jv(q:List UInt8)(pos:Int):∀ op:Nat,5≤op→op≤15→lj (sg op++32::q) pos = .inl (⟨3,sg op,0,pos⟩,(sg op).length)∧li false (sg op++32::q)=0∧sg op≠[]∧(sg op).length≤2
 |5,_,_=>⟨rfl,rfl,by decide,by decide⟩
 |6,_,_=>⟨rfl,rfl,by decide,by decide⟩
 |7,_,_=>⟨rfl,rfl,by decide,by decide⟩
 |8,_,_=>⟨rfl,rfl,by decide,by decide⟩
 |9,_,_=>⟨rfl,rfl,by decide,by decide⟩
 |10,_,_=>⟨rfl,rfl,by decide,by decide⟩
 |11,_,_=>⟨rfl,rfl,by decide,by decide⟩
 |12,_,_=>⟨rfl,rfl,by decide,by decide⟩
 |13,_,_=>⟨rfl,rfl,by decide,by decide⟩
 |14,_,_=>⟨rfl,rfl,by decide,by decide⟩
 |15,_,_=>⟨rfl,rfl,by decide,by decide⟩
 |0,h,_=>absurd h Tf
 |1,h,_=>absurd h Tf
 |2,h,_=>absurd h Tf
 |3,h,_=>absurd h Tf
 |4,h,_=>absurd h Tf
 |n+16,_,h=>absurd h Tf
theorem zI(q:List UInt8)(pos:Int):lj ([40]++q) pos = .inl (⟨3,[40],0,pos⟩,1):=rfl
theorem cG(q:List UInt8)(pos:Int):lj ([41]++q) pos = .inl (⟨3,[41],0,pos⟩,1):=rfl
theorem bG(q:List UInt8)(pos:Int):lj ([45]++q) pos = .inl (⟨3,[45],0,pos⟩,1):=rfl
theorem FL{c:UInt8}{q:List UInt8}(G:c≠61)(pos:Int):lj ([33]++c::q) pos = .inl (⟨3,[33],0,pos⟩,1):=by
 have h:Gl (33::c::q)=1:=by
  have E:((61:UInt8)==c)=false:=beq_eq_false_iff_ne.2 (fun e=>G e.symm);have A:Yr.any (fun t=>t.isPrefixOf (33::c::q))=false:=by simp only[Yr,List.any_cons,List.any_nil,List.isPrefixOf,E];rfl
  unfold Gl;rw[A];rfl
 show lj (33::c::q) pos=_;unfold lj;simp only;rw[h];rfl
def zq(s:List UInt8)(T:List T3):Prop:=∀ (q:List UInt8) (pos:Nat),fA q→∃ ts:List xh,ts.map yA=T∧Nl pos (s++q)=Nn ts (Nl (pos+s.length) q)
theorem zq.app{s t:List UInt8}{T U:List T3}(I:∀ (q:List UInt8) (pos:Nat),fA q→∃ ts:List xh,ts.map yA=T∧Nl pos (s++(t++q))=Nn ts (Nl (pos+s.length) (t++q)))(ht:zq t U):zq (s++t) (T++U):=by intro q pos hq;obtain⟨ts,A,E⟩:=I q pos hq;obtain⟨J,G,H⟩:=ht q (pos+s.length) hq;refine⟨ts++J,by rw[Zaa,A,G],?_⟩;rw[List.append_assoc,E,H,ak,xaa,Nat.add_assoc]
theorem bH:∀ a:Ex,a.ok→a.may→∃ c r,a.brk a.show=c::r∧uO c
 | .leaf x,G,hm=>by
  have J:=hm x Fg;have A:=Nj.1 (show Lh x.op=0 from G);show ∃ c r,(if x.op=1 then Paa x.n else x.name)=c::r∧uO c;rcases A with E|E;·rw[if_pos E];obtain⟨_,L,M⟩:=Al J E;obtain⟨c,r,H,I,_⟩:=Nm L M;exact⟨c,r,H,bu I⟩
  ·rw[if_neg Tf];obtain⟨c,r,H,I,_⟩:=Il (Mn J E).2;exact⟨c,r,H,I⟩
 | .one x a,G,hm=>by
  have A:=Nj.2.1 G.1;show ∃ c r,sg x.op.toNat++a.brk a.show=c::r∧uO c;rcases A with h|h;·rw[h];exact⟨45,a.brk a.show,rfl,by decide,by decide,by decide⟩
  ·rw[h];exact⟨33,a.brk a.show,rfl,by decide,by decide,by decide⟩
 | .two x a b,G,hm=>⟨40,_,rfl,by decide,by decide,by decide⟩
theorem Vv(a:Ex)(h:zq a.show a.toks):zq (a.brk a.show) (a.brkT a.toks):=by
 cases a with
 |leaf x=>exact h
 |one x a=>exact h
 |two x a b =>
  intro q pos hq
  obtain⟨ts,E,G⟩:=h (41::q) (pos+1) (JH q)
  refine⟨⟨3,[40],0,pos⟩::(ts++[⟨3,[41],0,(pos+1+(Ex.two x a b).show.length:Nat)⟩]),?_,?_⟩
  ·show(3,[40],0)::(ts++[_]).map yA=(3,[40],0)::((Ex.two x a b).toks++[(3,[41],0)]);rw[Zaa,E];rfl
  ·show Nl pos (40::((Ex.two x a b).show++[41])++q)=_;have e1:=Un (s:=[40]) (q:=(Ex.two x a b).show++41::q) Yf rfl (zI _) pos;have A:=Un (s:=[41]) (q:=q) Yf rfl (cG _) (pos+1+(Ex.two x a b).show.length);rw[show(40::((Ex.two x a b).show++[41])++q:List UInt8)=[40]++((Ex.two x a b).show++41::q) by simp,e1];rw[show pos+[(40:UInt8)].length=pos+1 by rfl,G];rw[show(41::q:List UInt8)=[41]++q by rfl,A,ak,ak];rw[show pos+1+(Ex.two x a b).show.length+[(41:UInt8)].length=pos+((Ex.two x a b).brk (Ex.two x a b).show).length by show _=pos+(40::((Ex.two x a b).show++[41]):List UInt8).length;simp only[jaa,xaa,Xaa];omega];rfl
theorem Fq:∀ e:Ex,e.ok→e.may→zq e.show e.toks
 | .leaf x,E,hm=>by
  have O:=hm x Fg;have G:=Nj.1 (show Lh x.op=0 from E);intro q pos hq;rcases G with L|L
  ·obtain⟨_,J,g2⟩:=Al O L;obtain⟨c,r,H,M,_⟩:=Nm J g2;have hs:(Ex.leaf x).show=Paa x.n:=by unfold Ex.show;rw[if_pos L]
   have ht:(Ex.leaf x).toks=[(2,Paa x.n,x.n)]:=by unfold Ex.toks;rw[if_pos L]
   rw[hs,ht];refine⟨[⟨2,Paa x.n,x.n,pos⟩],rfl,Un (by rw[H];simp) (by rw[H];exact Is (bu M)) (EE J g2 hq) pos⟩
  ·obtain⟨_,J⟩:=Mn O L;obtain⟨c,r,H,M,_⟩:=Il J;have hs:(Ex.leaf x).show=x.name:=by unfold Ex.show;rw[if_neg Tf]
   have ht:(Ex.leaf x).toks=[(1,x.name,0)]:=by unfold Ex.toks;rw[if_neg Tf]
   rw[hs,ht];refine⟨[⟨1,x.name,0,pos⟩],rfl,Un (by rw[H];simp) (by rw[H];exact Is M) (BI J hq) pos⟩
 | .one x a,E,hm=>by
  obtain⟨O,A⟩:=Ex.may_one hm;have G:=Nj.2.1 E.1;obtain⟨c,r,H,M⟩:=bH a E.2 A;have hp:=Vv a (Fq a E.2 A);show zq (sg x.op.toNat++a.brk a.show) ([(3,sg x.op.toNat,0)]++a.brkT a.toks);refine zq.app (fun q pos hq=>?_) hp;refine⟨[⟨3,sg x.op.toNat,0,pos⟩],rfl,?_⟩;rcases G with h|h;·rw[h];exact Un (s:=[45]) Yf rfl (bG _) pos
  ·rw[h,H];exact Un (s:=[33]) Yf rfl (FL M.2.2) pos
 | .two x a b,E,hm=>by
  obtain⟨O,A,Q⟩:=Ex.may_two hm;have G:=Nj.2.2 E.1;have Y:=Vv a (Fq a E.2.1 A);have Z:=Vv b (Fq b E.2.2 Q);have I:=fun q pos=>jv q pos x.op.toNat Tf Tf;intro q pos hq;obtain⟨ta,a1,a2⟩:=Y (32::(sg x.op.toNat++32::(b.brk b.show++q))) pos (Kl _);obtain⟨tb,b1,b2⟩:=Z q (pos+(a.brk a.show).length+1+(sg x.op.toNat).length+1) hq;refine⟨ta++(⟨3,sg x.op.toNat,0,(pos+(a.brk a.show).length+1:Nat)⟩::tb),?_,?_⟩;·rw[Zaa,a1,List.map_cons,b1];rfl
  ·have e1:=Un (s:=sg x.op.toNat) (q:=32::(b.brk b.show++q)) (I [] 0).2.2.1 (I _ 0).2.1 (fun p=>(I _ p).1) (pos+(a.brk a.show).length+1);rw[show(Ex.two x a b).show++q=a.brk a.show++(32::(sg x.op.toNat++32::(b.brk b.show++q))) by simp[Ex.show],a2,yu,e1,yu,b2,ak,ak];rw[show pos+(a.brk a.show).length+1+(sg x.op.toNat).length+1+(b.brk b.show).length=pos+(Ex.two x a b).show.length by simp only[Ex.show,xaa,jaa,Xaa];omega];simp
theorem uv(a:Ex)(s:List UInt8):(a.brk s).length≤s.length+2:=by cases a<;>simp[Ex.brk]
theorem zo:∀ e:Ex,e.ok→e.may→e.show.length+2≤20*e.flat.length
 | .leaf x,E,hm=>by
  have I:=hm x Fg;have A:=Nj.1 (show Lh x.op=0 from E);show(if x.op=1 then Paa x.n else x.name).length+2≤20*1;rcases A with H|H;·rw[if_pos H];obtain⟨_,L,M⟩:=Al I H;obtain⟨c,r,Y,Z,hl⟩:=Nm L M;omega
  ·rw[if_neg Tf];obtain⟨c,r,Y,Z,hl⟩:=Il (Mn I H).2;omega
 | .one x a,E,hm=>by
  obtain⟨I,G⟩:=Ex.may_one hm;have ih:=zo a E.2 G;have hb:=uv a a.show;have A:=Nj.2.1 E.1;have hs:(sg x.op.toNat).length=1:=by rcases A with h|h<;>rw[h]<;>rfl
  simp only[Ex.show,Naa,xaa,jaa];omega
 | .two x a b,E,hm=>by obtain⟨I,G,J⟩:=Ex.may_two hm;have a8:=zo a E.2.1 G;have a9:=zo b E.2.2 J;have O:=uv a a.show;have Q:=uv b b.show;have A:=Nj.2.2 E.1;have hs:=(jv [] 0 x.op.toNat Tf Tf).2.2.2;simp only[Ex.show,Naa,xaa,jaa,Xaa];omega
structure Fi (n:Nat) (t:xh):Prop where
 pos0:0≤t.pos
 pos1:t.pos+t.text.length≤n
 num0:0≤t.n
 num1:t.n≤4294967296
theorem IL{l:List UInt8}{pos:Nat}{t:xh}{n:Nat}(h:lj l pos = .inl (t,n)):Fi (pos+l.length) t:=by
 have A:=Yk h;have E:t.text.length=n:=by rw[A.2.2.1,List.length_take];omega
 have G:0≤t.n∧t.n≤4294967296:=by
  cases l with
  |nil=>simp[lj]at h
  |cons c r =>
   unfold lj at h;simp only at h;split at h
   ·split at h;·exact De
    ·cases h
   ·split at h
    ·split at h;·cases h;constructor<;>simp only<;>omega
     ·cases h
    ·split at h;·cases h
     ·exact De
 exact⟨by rw[A.2.2.2];omega,by rw[A.2.2.2,E];omega,G.1,G.2⟩
theorem Fi.mono{a b:Nat}{t:xh}(h:Fi a t)(A:a≤b):Fi b t:=⟨h.pos0,by have:=h.pos1;omega,h.num0,h.num1⟩
theorem Wp:∀ (f pos:Nat) (l:List UInt8),(bn f pos l).1.length≤l.length∧(∀ t∈(bn f pos l).1,Fi (pos+l.length) t)∧((bn f pos l).2.1≠0→0≤(bn f pos l).2.2∧(bn f pos l).2.2≤pos+l.length)
 |0,pos,l=>by unfold bn;exact⟨laa _,by simp,fun h=>absurd rfl h⟩
 |f+1,pos,[]=>by unfold bn;exact⟨laa _,by simp,fun h=>absurd rfl h⟩
 |f+1,pos,c::r=>by
  unfold bn
  cases h:lj (c::r) pos with
  |inr e =>refine⟨laa _,by simp,fun _=>?_⟩;simp only[jaa];constructor<;>omega
  |inl x =>
   obtain⟨t,n⟩:=x;have Y:=Yk h;have G:=IL h;simp only;have I:=In false ((c::r).drop n);have ih:=Wp f (pos+n+li false ((c::r).drop n)) (((c::r).drop n).drop (li false ((c::r).drop n)));have E:(((c::r).drop n).drop (li false ((c::r).drop n))).length=(c::r).length - n - li false ((c::r).drop n):=by simp only[vaa]
   have M:li false ((c::r).drop n)≤(c::r).length - n:=by rw[vaa]at I;exact I
   generalize (bn f (pos+n+li false ((c::r).drop n)) (((c::r).drop n).drop (li false ((c::r).drop n))))=z at ih;obtain⟨zl,Z,zp⟩:=z;rw[E]at ih;obtain⟨O,J,L⟩:=ih;simp only at O J L ⊢;split
   ·refine⟨?_,?_,fun h=>absurd rfl h⟩;·simp only[jaa]at *;omega
    ·intro Q A;rcases List.mem_cons.1 A with rfl|A;·exact G
     ·exact(J Q A).mono Tf
   ·rename_i H;refine⟨laa _,by simp,fun _=>?_⟩;have:=L H;simp only;constructor<;>omega
theorem Vn(l:List UInt8):(Li l).1.length≤l.length∧∀ t∈(Li l).1,Fi l.length t:=by
 unfold Li;split
 ·have A:=In false l;have h:=Wp ((l.drop (li false l)).length+1) (li false l) (l.drop (li false l));unfold Nn Ar;rw[vaa]at h ⊢;split;·refine⟨by simp only[Yaa];omega,fun t ht=>?_⟩;simp only[Yaa]at ht;exact(h.2.1 t ht).mono Tf
  ·exact⟨laa _,by simp⟩
 ·exact⟨laa _,by simp⟩
theorem fD(l:List UInt8):∀ t∈(Li l).1,t.text.length≤l.length:=fun t ht=>by have h:=(Vn l).2 t ht;have:=h.pos0;have:=h.pos1;omega
structure St where
 kind:Int
 reg:List UInt8
 name:List UInt8
 e:List Kh
 f:List Kh
 n:Int
 body:Int
 els:Int
 pos:Int
def Vh:St:=⟨0,[],[],[],[],0,0,0,0⟩
def CP:List (List UInt8):=[[],[114,101],[114,110],[110,101],[114,110,101,102],[110],[110],[],[],[110],[110],[101,98],[107,98],[],[101]]
def Ii(k:Nat):List UInt8:=CP.getD k []
def DE:List (List UInt8):=[[],[],[108,111,97,100],[115,116,111,114,101],[99,97,115],[102,108,117,115,104],[111,112,116],[115,102,101,110,99,101],[109,102,101,110,99,101],[116,97,107,101],[103,105,118,101],[105,102],[108,111,111,112],[98,114,101,97,107],[99,104,101,99,107]]
def Ai(k:Nat):List UInt8:=DE.getD k []
def Xk:List UInt8:=[101,108,115,101]
def Gh(k:Nat):List UInt8:=(Ii k).filter (fun c=>c != 98)
abbrev RS(α:Type):=(α × Nat) ⊕ (Int × Int)
def cj(l:List xh)(i:Nat)(e:Int):Int × Int:=(if l.length≤i then 6 else e,Ch l i)
def Oh(l:List xh)(s:List UInt8)(i:Nat):RS Unit:=if Qh l i s=true then .inl ((),i+1)else .inr (cj l i 5)
def Th(l:List xh)(i:Nat):RS (List UInt8):=if i<l.length∧(tk l i).kind=1∧Hh (tk l i).text=true then .inl ((tk l i).text,i+1)else .inr (cj l i 5)
def Ri(l:List xh)(i:Nat):RS (List Kh):=if (ij l i).2.2.1=0 then .inl ((ij l i).1,(ij l i).2.1.toNat)else .inr ((ij l i).2.2.1,(ij l i).2.2.2)
def Gi(l:List xh)(i:Nat):RS Int:=if i<l.length∧(tk l i).kind=2 then (if 1≤(tk l i).n∧(tk l i).n≤8 then .inl ((tk l i).n,i+1)else .inr (cj l i 11))else .inr (cj l i 5)
def Nh(l:List xh)(i:Nat):Nat:=((aba 2 13).find? (fun k=>Qh l i (Ai k))).getD 1
def Rk(l:List xh)(c:UInt8)(x:St)(i:Nat):RS St :=
 if c=114 then (match Th l i with|.inr e=>.inr e|.inl (s,j)=>.inl ({ x with reg:=s },j))
 else if c=110 then (match Th l i with|.inr e=>.inr e|.inl (s,j)=>.inl ({ x with name:=s },j))
 else if c=101 then (match Ri l i with|.inr e=>.inr e|.inl (s,j)=>.inl ({ x with e:=s },j))
 else if c=102 then (match Ri l i with|.inr e=>.inr e|.inl (s,j)=>.inl ({ x with f:=s },j))
 else (match Gi l i with|.inr e=>.inr e|.inl (s,j)=>.inl ({ x with n:=s },j))
def zm(l:List xh)(n:Nat)(i:Nat):RS Unit:=if n=0 then .inl ((),i)else Oh l (if n=1 then [61]else [44]) i
def Hi(l:List xh):List UInt8→Nat→St→Nat→RS St
 | [],n,x,i=>.inl (x,i)
 |c::r,n,x,i=>match zm l n i with
  | .inr e=>.inr e
  | .inl (_,j)=>match Rk l c x j with
   | .inr e=>.inr e
   | .inl (y,j2)=>Hi l r (n+1) y j2
def Ei(l:List xh)(i:Nat):Int:=if i<l.length then (tk l i).pos else 0
def ej(A:Bool→Nat→RS (List St))(b:Bool)(l:List xh)(i:Nat):RS (List St) :=
 if Nh l i=13∧b=false then .inr (cj l i 5)
 else match Hi l (Gh (Nh l i)) 0 { Vh with kind:=Nh l i,pos:=Ei l i } (if Nh l i=1 then i else i+1)with
  | .inr e=>.inr e
  | .inl (x,j) =>
   if Nh l i=11 then match A b j with
    | .inr e=>.inr e
    | .inl (y,j2)=>if Qh l j2 Xk=true then match A b (j2+1)with
      | .inr e=>.inr e
      | .inl (z,E)=>.inl ({ x with body:=y.length,els:=z.length } :: (y++z),E)
     else .inl ({ x with body:=y.length } :: y,j2)
   else if Nh l i=12 then match A true j with
    | .inr e=>.inr e
    | .inl (y,j2)=>.inl ({ x with body:=y.length } :: y,j2)
   else match Oh l [59] j with
    | .inr e=>.inr e
    | .inl (_,j2)=>.inl ([x],j2)
def Ij(one:Nat→RS (List St))(l:List xh):Nat→Nat→RS (List St)
 |0,i=>.inl ([],i)
 |g+1,i=>if Qh l i [125]=true then .inl ([],i)else match one i with
  | .inr e=>.inr e
  | .inl (x,j)=>match Ij one l g j with
   | .inr e=>.inr e
   | .inl (y,j2)=>.inl (x++y,j2)
def mi(l:List xh):Nat→Bool→Nat→RS (List St)
 |0,b,i=>if Qh l i [123]=true then .inr (7,Ch l i)else .inr (cj l i 5)
 |d+1,b,i=>match Oh l [123] i with
  | .inr e=>.inr e
  | .inl (_,j)=>match Ij (ej (mi l d) b l) l (l.length+1 - j) j with
   | .inr e=>.inr e
   | .inl (x,j2)=>match Oh l [125] j2 with
    | .inr e=>.inr e
    | .inl (_,A)=>.inl (x,A)
def sp(l:List xh)(i:Int):List St × Int × Int × Int :=
 if i<0 then ([],0,1,0)else match mi l 13 false i.toNat with
  | .inr (e,p)=>([],0,e,p)
  | .inl (x,t)=>if 40<x.length then ([],0,2,(tk l i.toNat).pos)else (x,t,0,0)
theorem Zl(l:List xh)(i:Nat)(e:Int)(h:1≤e):1≤(cj l i e).1:=by unfold cj;split<;>simp_all
theorem yj{l:List xh}{s:List UInt8}{i:Nat}{u:Unit}{j:Nat}(h:Oh l s i = .inl (u,j)):Qh l i s=true∧j=i+1∧i<l.length:=by
 unfold Oh at h;by_cases A:Qh l i s=true;·rw[if_pos A]at h;cases h;exact⟨A,rfl,Zj A⟩
 ·rw[if_neg A]at h;cases h
theorem Si{l:List xh}{i:Nat}{s:List UInt8}{j:Nat}(h:Th l i = .inl (s,j)):i<l.length∧(tk l i).kind=1∧Hh (tk l i).text=true∧s=(tk l i).text∧j=i+1:=by
 unfold Th at h;split at h;·rename_i A;cases h;exact⟨A.1,A.2.1,A.2.2,rfl,rfl⟩
 ·cases h
theorem Ql{l:List xh}{i:Nat}{n:Int}{j:Nat}(h:Gi l i = .inl (n,j)):i<l.length∧(tk l i).kind=2∧n=(tk l i).n∧1≤n∧n≤8∧j=i+1:=by
 unfold Gi at h;split at h
 ·rename_i A;split at h;·rename_i E;cases h;exact⟨A.1,A.2,rfl,E.1,E.2,rfl⟩
  ·cases h
 ·cases h
theorem Ul(l:List xh)(i:Nat):1≤Nh l i∧Nh l i≤14:=by
 unfold Nh
 cases h:(aba 2 13).find? (fun k=>Qh l i (Ai k))with
 |none=>exact⟨aaa _,by decide⟩
 |some k =>
  have:=Haa h
  rw[bba]at this
  simp only[cba]
  omega
theorem Po{l:List xh}{i:Nat}(h:Nh l i≠1):Qh l i (Ai (Nh l i))=true:=by
 unfold Nh at h ⊢
 cases A:(aba 2 13).find? (fun k=>Qh l i (Ai k))with
 |none=>rw[A]at h;exact absurd rfl h
 |some k=>simpa using List.find?_some A
theorem OB{l:List xh}{i:Nat}(h:Nh l i=1):∀ k,2≤k→k≤14→Qh l i (Ai k)=false:=by
 unfold Nh at h
 cases A:(aba 2 13).find? (fun k=>Qh l i (Ai k))with
 |none =>
  intro k G E
  have:=List.find?_eq_none.1 A k ph
  simpa using this
 |some k =>
  have:=Haa A
  rw[bba]at this
  rw[A]at h
  simp only[cba]at h
  omega
theorem VF:∀ a,2≤a→a≤14→∀ b,2≤b→b≤14→Ai a=Ai b→a=b:=by
 have h:∀ a∈aba 2 13,∀ b∈aba 2 13,Ai a=Ai b→a=b:=by decide
 intro a A E b G H;exact h a ph b ph
theorem My{l:List xh}{i k:Nat}(G:2≤k)(A:k≤14)(h:Qh l i (Ai k)=true):Nh l i=k:=by
 by_cases E:Nh l i=1;·have:=OB E k G A;rw[h]at this;cases this
 ·have hr:=Ul l i;have e1:=(bj h).1;have H:=(bj (Po E)).1;exact VF _ Tf hr.2 _ G A (H.symm.trans e1)
theorem Mj{l:List xh}{i:Nat}{x:List Kh}{j:Nat}(h:Ri l i = .inl (x,j)):i<j∧j≤l.length∧∃ e:Ex,e.ok∧x=e.flat∧Dj (ti l 12) l 5 i = .inl (e,j)∧e.deep≤12∧e.flat.length≤40:=by
 have M:ij l i=match Dj (ti l 12) l 5 i with
   | .inr (e,p)=>([],0,e,p)
   | .inl (x,t)=>if 12<x.deep then ([],0,7,(tk l i).pos)else if 40<x.flat.length then ([],0,2,(tk l i).pos)else (x.flat,(t:Int),0,0):=by
  unfold ij;rw[if_neg Tf];rfl
 unfold Ri at h
 rw[M]at h
 have G:=Nk (Kk l 12) 5
 cases hr:Dj (ti l 12) l 5 i with
 |inr H =>
  obtain⟨e,p⟩:=H
  rw[hr]at h
  have Y:=(G.bad _ _ _ hr).1
  simp only at h
  rw[if_neg Tf]at h
  cases h
 |inl O =>
  obtain⟨e,t⟩:=O
  rw[hr]at h
  obtain⟨I,J,Q,L⟩:=G.good _ _ _ hr
  simp only at h
  by_cases A:12<e.deep
  ·rw[if_pos A]at h;simp at h
  ·rw[if_neg A]at h;by_cases E:40<e.flat.length;·rw[if_pos E]at h;simp at h
   ·rw[if_neg E]at h;simp only[if_pos,Int.toNat_natCast]at h;cases h;exact⟨I,J,e,L,rfl,rfl,by omega,by omega⟩
theorem Wq{l:List xh}{i:Nat}{e p:Int}(h:Ri l i = .inr (e,p)):¬ e=0∧(ij l i).2.2.1=e∧(ij l i).2.2.2=p:=by
 unfold Ri at h;by_cases A:(ij l i).2.2.1=0;·rw[if_pos A]at h;cases h
 ·rw[if_neg A]at h;cases h;exact⟨A,rfl,rfl⟩
structure Hd (x y:St):Prop where
 kind:y.kind=x.kind
 body:y.body=x.body
 els:y.els=x.els
 pos:y.pos=x.pos
theorem Hd.refl(x:St):Hd x x:=⟨rfl,rfl,rfl,rfl⟩
theorem Hd.trans{x y z:St}(h:Hd x y)(g:Hd y z):Hd x z:=⟨g.kind.trans h.kind,g.body.trans h.body,g.els.trans h.els,g.pos.trans h.pos⟩
theorem GD{l:List xh}{c:UInt8}{x y:St}{i j:Nat}(h:Rk l c x i = .inl (y,j)):i<j∧j≤l.length∧Hd x y:=by
 unfold Rk at h;split at h
 ·cases hn:Th l i with
  |inr e=>rw[hn]at h;cases h
  |inl r =>exact pc
 ·split at h
  ·cases hn:Th l i with
   |inr e=>rw[hn]at h;cases h
   |inl r =>exact pc
  ·split at h
   ·cases hn:Ri l i with
    |inr e=>rw[hn]at h;cases h
    |inl r =>exact Qc
   ·split at h
    ·cases hn:Ri l i with
     |inr e=>rw[hn]at h;cases h
     |inl r =>exact Qc
    ·cases hn:Gi l i with
     |inr e=>rw[hn]at h;cases h
     |inl r =>obtain⟨s,k⟩:=r;rw[hn]at h;cases h;obtain⟨h1,_,_,_,_,rfl⟩:=Ql hn;exact⟨Nat.lt_succ_self _,h1,⟨rfl,rfl,rfl,rfl⟩⟩
theorem CC{l:List xh}{n i j:Nat}{u:Unit}(h:zm l n i = .inl (u,j)):i≤j∧(i≤l.length→j≤l.length):=by
 unfold zm at h;split at h;·cases h;exact⟨aaa _,fun h=>h⟩
 ·obtain⟨_,rfl,A⟩:=yj h;exact⟨by omega,fun _=>A⟩
theorem Wn{l:List xh}:∀ {cs:List UInt8} {n:Nat} {x y:St} {i j:Nat},Hi l cs n x i = .inl (y,j)→i≤j∧(i≤l.length→j≤l.length)∧Hd x y∧(cs≠[]→i<j)
 | [],n,x,y,i,j,h=>by unfold Hi at h;cases h;exact⟨aaa _,fun h=>h,Hd.refl _,fun h=>absurd rfl h⟩
 |c::r,n,x,y,i,j,h=>by
  unfold Hi at h
  cases ha:zm l n i with
  |inr e=>rw[ha]at h;cases h
  |inl q =>
   obtain⟨u,k⟩:=q
   rw[ha]at h
   simp only at h
   cases A:Rk l c x k with
   |inr e=>rw[A]at h;cases h
   |inl H =>obtain⟨z,J⟩:=H;rw[A]at h;simp only at h;have I:=CC ha;have E:=GD A;have G:=Wn h;exact⟨by omega,fun _=>G.2.1 E.2.1,E.2.2.trans G.2.2.1,fun _=>by omega⟩
def GC(l:List xh)(f:Nat→RS (List St)):Prop:=∀ i x j,f i = .inl (x,j)→i<j∧j≤l.length
theorem Nq{l:List xh}{E:Bool→Nat→RS (List St)}(I:∀ b,GC l (E b))(b:Bool):GC l (ej E b l):=by
 intro i x j h;unfold ej at h;have hr:=Ul l i;split at h;·cases h
 ·cases J:Hi l (Gh (Nh l i)) 0 { Vh with kind:=Nh l i,pos:=Ei l i } (if Nh l i=1 then i else i+1)with
  |inr e=>rw[J]at h;cases h
  |inl q =>
   obtain⟨y,k⟩:=q;rw[J]at h;simp only at h;have M:i<k:=by
    have g:=Wn J;by_cases A:Nh l i=1;·rw[if_pos A,A]at g;exact g.2.2.2 Uf
    ·rw[if_neg A]at g;omega
   split at h
   ·cases A:E b k with
    |inr e=>rw[A]at h;cases h
    |inl q1 =>
     obtain⟨Q,k1⟩:=q1;rw[A]at h;simp only at h;have G:=I b _ _ _ A;split at h
     ·cases H:E b (k1+1)with
      |inr e=>rw[H]at h;cases h
      |inl O =>obtain⟨Z,Y⟩:=O;rw[H]at h;have L:=I b _ _ _ H;cases h;exact⟨by omega,L.2⟩
     ·cases h;exact⟨by omega,G.2⟩
   ·split at h
    ·cases A:E true k with
     |inr e=>rw[A]at h;cases h
     |inl q1 =>obtain⟨Q,k1⟩:=q1;rw[A]at h;have G:=I true _ _ _ A;cases h;exact⟨by omega,G.2⟩
    ·cases A:Oh l [59] k with
     |inr e=>rw[A]at h;cases h
     |inl q1 =>obtain⟨u,k1⟩:=q1;rw[A]at h;obtain⟨_,rfl,g⟩:=yj A;cases h;exact⟨by omega,g⟩
theorem Lt{l:List xh}{one:Nat→RS (List St)}(G:GC l one):∀ (g:Nat) (i:Nat) (x:List St) (j:Nat),Ij one l g i = .inl (x,j)→i≤j∧(i≤l.length→j≤l.length)
 |0,i,x,j,h=>by unfold Ij at h;cases h;exact⟨aaa _,fun h=>h⟩
 |g+1,i,x,j,h=>by
  unfold Ij at h;split at h;·cases h;exact⟨aaa _,fun h=>h⟩
  ·cases A:one i with
   |inr e=>rw[A]at h;cases h
   |inl q =>
    obtain⟨y,k⟩:=q
    rw[A]at h
    simp only at h
    cases E:Ij one l g k with
    |inr e=>rw[E]at h;cases h
    |inl J =>obtain⟨z,L⟩:=J;rw[E]at h;cases h;have H:=G _ _ _ A;have I:=Lt G g k z j E;exact⟨by omega,fun _=>I.2 H.2⟩
theorem Mt{l:List xh}{one:Nat→RS (List St)}(E:GC l one):∀ (g A:Nat) (i:Nat),i≤l.length→l.length+1 - i≤g→l.length+1 - i≤A→Ij one l g i=Ij one l A i
 |0,A,i,hi,h,_=>absurd h Tf
 |g+1,0,i,hi,_,h=>absurd h Tf
 |g+1,A+1,i,hi,I,J=>by
  unfold Ij;split;·rfl
  ·cases H:one i with
   |inr e=>rfl
   |inl q =>obtain⟨y,k⟩:=q;have G:=E _ _ _ H;simp only;rw[Mt E g A k G.2 Tf Tf]
theorem Zq(l:List xh):∀ (d:Nat) (b:Bool),GC l (mi l d b)
 |0,b,i,x,j,h=>by unfold mi at h;split at h<;>cases h
 |d+1,b,i,x,j,h=>by
  unfold mi at h
  cases A:Oh l [123] i with
  |inr e=>rw[A]at h;cases h
  |inl q =>
   obtain⟨u,k⟩:=q
   rw[A]at h
   simp only at h
   obtain⟨_,rfl,O⟩:=yj A
   cases E:Ij (ej (mi l d) b l) l (l.length+1 - (i+1)) (i+1)with
   |inr e=>rw[E]at h;cases h
   |inl J =>
    obtain⟨z,I⟩:=J
    rw[E]at h
    simp only at h
    have M:=Lt (Nq (fun b=>Zq l d b) b) _ _ _ _ E
    cases G:Oh l [125] I with
    |inr e=>rw[G]at h;cases h
    |inl L =>obtain⟨u3,Q⟩:=L;rw[G]at h;cases h;obtain⟨_,rfl,H⟩:=yj G;exact⟨by omega,H⟩
end Go.Proofs.YtjcihcncljihoaaGreatDoor

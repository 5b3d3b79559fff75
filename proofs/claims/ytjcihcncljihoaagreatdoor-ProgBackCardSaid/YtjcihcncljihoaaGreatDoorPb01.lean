/- Chapter 05 (programs), joined: NodPlain, ScanIs, ScanPlace, ParPlain, RScanPlain. -/
import Derived.Test.YtjcihcncljihoaaGreatDoorPb00
set_option maxRecDepth 100000
set_option maxHeartbeats 400000
namespace Go.Proofs.YtjcihcncljihoaaGreatDoor
set_option linter.unusedVariables false
open Int renaming toNat_natCast→saa
open List renaming drop_drop→waa,drop_eq_getElem_cons→taa,drop_of_length_le→uaa,flatMap_append→Daa,length_append→xaa,length_cons→jaa,length_drop→vaa,mem_cons→Aaa,take_append_drop→Baa,take_succ_cons→zaa,take_succ_eq_append_getElem→Caa
open Nat renaming zero_add→paa,zero_le→laa
open Option renaming bind_some→qaa,map→yaa,map_some→raa
theorem Jb{P:Prop}(h:P:=by have HE4:=Lib.hid (HE2.out.trans h2);clear h2;go_enter Tryz.func92,Tryz.ntmps92;go_wp2;go_ret;exact⟨Bh HE4.out.symm,rfl⟩):P:=h
theorem Pb{P:Prop}(h:P:=by clear hi;go_enter Tryz.func97,Tryz.ntmps97;go_wp2;go_ret;exact⟨ci HE.out.symm,Below.refl _ _⟩):P:=h
theorem Rb{P:Prop}(h:P:=by have HE4:=Lib.hid HE3;clear HE3;go_enter Tryz.func23,Tryz.ntmps23;go_wp2;go_ret;exact⟨Bh HE4.out.symm,rfl⟩):P:=h
theorem Wb{P:Prop}(h:P:=by clear hi;go_enter Tryz.func87,Tryz.ntmps87;go_wp2;go_ret;exact⟨ci HE.out.symm,Below.refl _ _⟩):P:=h
theorem bc{P:Prop}(h:P:=by go_enter Tryz.func92,Tryz.ntmps92;go_wp2;go_ret;exact⟨Bh HE4.out.symm,rfl⟩):P:=h
theorem kc{P:Prop}(h:P:=by go_enter Tryz.func92,Tryz.ntmps92;go_wp2;go_ret;exact⟨Bh HE.out.symm,rfl⟩):P:=h
theorem Nc{P:Prop}(h:P:=by go_enter Tryz.func23,Tryz.ntmps23;go_wp2;go_ret;exact⟨Bh HE.out.symm,rfl⟩):P:=h
theorem cd{P:Prop}(h:P:=by refine⟨fun z t h=>?_,fun e p h=>by cases h⟩;cases h;exact⟨by omega,by omega,by simp[Ex.flat],rfl⟩):P:=h
theorem sd{P:Prop}(h:P:=by
 by_cases h:0≤i;·exact .inr ⟨by simpa using h,by simp;omega⟩
 ·exact .inl (by simpa using h)):P:=h
theorem Cd{P:Prop}(h:P:=by refine⟨fun z t h=>?_,fun e p h=>by cases h⟩;cases h;exact⟨h1,h2,h3,h4⟩):P:=h
theorem Qe{P:Prop}(h:P:=by simp only[Ex.flat,List.length_cons,List.length_append];omega):P:=h
theorem Ze{P:Prop}(h:P:=by rw[Ah,Ah]at h1;show _=_;rw[HE.out,h1];rfl):P:=h
theorem cf{P:Prop}(h:P:=by exact(List.prefix_iff_eq_take.1 (List.takeWhile_prefix _))):P:=h
theorem vf{P:Prop}(h:P:=by have:=HE.out;rw[← Dh]at this;exact this.symm):P:=h
theorem Hf{P:Prop}(h:P:=by cases h;exact⟨by decide,by decide⟩):P:=h
theorem xg{P:Prop}(h:P:=by simpa using h):P:=h
theorem Gg{P:Prop}(h:P:=by cases h):P:=h
theorem Zg{P:Prop}(h:P:=by simp only[List.length_append];omega):P:=h
def Lh(op:Int):Int:=if op=1∨op=2 then 0 else if op=3∨op=4 then 1 else if 5≤op∧op≤15 then 2 else -1
theorem Nu(op:Int):op=1∨op=2∨op=3∨op=4∨(5≤op∧op≤15)∨op<1∨15<op:=by omega
theorem Qo{op:Int}(h:5≤op)(A:op≤15):Lh op=2:=by unfold Lh;rw[if_neg Tf,if_neg Tf,if_pos ⟨h,A⟩]
theorem PB{op:Int}(h:op<1∨15<op):Lh op = -1:=by unfold Lh;rw[if_neg Tf,if_neg Tf,if_neg Tf]
theorem Ro(op:Int):-1≤Lh op∧Lh op≤2:=by
 unfold Lh;split;·omega
 ·split;·omega
  ·split<;>omega
def Bl:List Kh→Nat→Option Nat
 |_,0=>some 0
 | [],_+1=>none
 |x::r,k+1=>if Lh x.op<0 then none else (Bl r (k+(Lh x.op).toNat)).map (· + 1)
theorem Vo(l:List Kh):Bl l 0=some 0:=by cases l<;>rfl
theorem Ll(x:Kh)(r:List Kh)(k:Nat):Bl (x::r) (k+1)=if Lh x.op<0 then none else (Bl r (k+(Lh x.op).toNat)).map (· + 1):=rfl
theorem ov:∀ (l:List Kh) (k n:Nat),Bl l k=some n→n≤l.length∧k≤n
 |l,0,n,h=>by rw[Vo]at h;cases h;exact⟨laa _,laa _⟩
 | [],k+1,n,h=>by cases h
 |x::r,k+1,n,h=>by
  unfold Bl at h;split at h;·cases h
  ·cases A:Bl r (k+(Lh x.op).toNat)with
   |none=>rw[A]at h;cases h
   |some m =>
    rw[A]at h;obtain rfl:m+1=n:=by simpa using h
    have:=ov r _ m A;simp only[jaa];omega
theorem jC:∀ (l:List Kh) (a b:Nat),Bl l (a+b)=(Bl l a).bind fun n=>(Bl (l.drop n) b).map (n + ·)
 |l,0,b=>by rw[Vo,paa];simp
 | [],a+1,b=>by rw[show a+1+b=a+b+1 by omega];rfl
 |x::r,a+1,b=>by
  rw[show a+1+b=a+b+1 by omega,Ll,Ll];split;·rfl
  ·rw[show a+b+(Lh x.op).toNat=a+(Lh x.op).toNat+b by omega,jC r (a+(Lh x.op).toNat) b];cases h:Bl r (a+(Lh x.op).toNat)with
   |none=>rfl
   |some n =>
    simp only[qaa,raa,List.drop_succ_cons]
    cases Bl (r.drop n) b with
    |none=>rfl
    |some m=>simp;omega
def Uk(l:List Kh)(i:Int):Int:=if i<0∨(l.length:Int)≤i then -1 else match Bl (l.drop i.toNat) 1 with
 |some n=>i+n
 |none=>-1
theorem qx{l:List Kh}{i:Int}(h:i<0∨(l.length:Int)≤i):Uk l i = -1:=by unfold Uk;rw[if_pos h]
def Xl(l:List Kh)(i:Int)(k:Nat):Int:=if k=0 then i else if i<0∨(l.length:Int)≤i then -1 else match Bl (l.drop i.toNat) k with
 |some n=>i+n
 |none=>-1
theorem iC(l:List Kh)(i:Int):Xl l i 1=Uk l i:=rfl
theorem mu(l:List Kh)(i:Int):Xl l i 0=i:=rfl
theorem oq{l:List Kh}{i:Int}{k:Nat}(A:0<k)(h:i<0∨(l.length:Int)≤i):Xl l i k = -1:=by unfold Xl;rw[if_neg Tf,if_pos h]
theorem EF{l:List Kh}{m k:Nat}(A:0<k)(hm:m<l.length)(h:Lh (l[m]).op<0):Xl l m k = -1:=by obtain⟨k,rfl⟩:∃ j,k=j+1:=⟨k - 1,by omega⟩;unfold Xl;rw[if_neg Tf,if_neg Tf,saa,taa hm,Ll,if_pos h]
theorem Vy{l:List Kh}{m k:Nat}(G:0<k)(hm:m<l.length)(h:¬ Lh (l[m]).op<0):Xl l m k=Xl l ((m+1:Nat):Int) (k - 1+(Lh (l[m]).op).toNat):=by
 obtain⟨k,rfl⟩:∃ j,k=j+1:=⟨k - 1,by omega⟩;rw[show k+1 - 1=k by omega];unfold Xl;rw[if_neg Tf,if_neg Tf,saa,taa hm,Ll,if_neg h,saa];by_cases A:k+(Lh (l[m]).op).toNat=0;·rw[A,Vo,if_pos rfl];rfl
 ·rw[if_neg A];by_cases H:m+1=l.length;·rw[if_pos Tf,uaa Tf];obtain⟨j,E⟩:∃ j,k+(Lh (l[m]).op).toNat=j+1:=⟨k+(Lh (l[m]).op).toNat - 1,by omega⟩;rw[E];rfl
  ·rw[if_neg Tf];cases Bl (l.drop (m+1)) (k+(Lh (l[m]).op).toNat)with
   |none=>rfl
   |some n=>simp only[raa];omega
theorem Uy(l:List Kh)(x k:Nat):Xl l x (k+1)=if Xl l x k<0 then -1 else Uk l (Xl l x k):=by
 by_cases E:k=0;·subst E;rw[mu,if_neg Tf];rfl
 ·by_cases I:l.length≤x;·rw[oq Tf (.inr Tf),oq Tf (.inr Tf),if_pos Tf]
  ·have e1:∀ j,0<j→Xl l x j=match Bl (l.drop x) j with|some n=>(x:Int)+n|none=>-1:=fun j H=>by unfold Xl;rw[if_neg Tf,if_neg Tf,saa]
   rw[e1 k Tf,e1 (k+1) Tf,jC];cases h:Bl (l.drop x) k with
   |none=>rfl
   |some n =>
    have A:=ov _ _ _ h;rw[vaa]at A;simp only[qaa,waa];rw[if_neg Tf];unfold Uk;by_cases G:l.length≤x+n;·rw[if_pos Tf,uaa G];rfl
    ·rw[if_neg Tf];have:((x:Int)+(n:Int)).toNat=x+n:=by omega
     rw[this];cases Bl (l.drop (x+n)) 1 with
     |none=>rfl
     |some r=>show(x:Int)+((n+r:Nat):Int)=(x:Int)+(n:Int)+(r:Int);omega
theorem eE(l:List Kh)(x k:Nat)(H:x≤l.length):Xl l x k = -1∨((x:Int)+k≤Xl l x k∧Xl l x k≤l.length):=by
 by_cases E:k=0;·subst E;rw[mu];exact .inr ⟨by omega,by omega⟩
 ·by_cases G:l.length≤x;·exact .inl (oq Tf (.inr Tf))
  ·unfold Xl;rw[if_neg E,if_neg Tf,saa];cases h:Bl (l.drop x) k with
   |none=>exact .inl rfl
   |some n =>have A:=ov _ _ _ h;rw[vaa]at A;refine .inr ⟨?_,?_⟩<;>simp only<;>omega
theorem lN{l:List Kh}{m:Nat}(hm:m<l.length)(h:¬ Lh (l[m]).op<0):Uk l m=Xl l ((m+1:Nat):Int) (Lh (l[m]).op).toNat:=by rw[← iC,Vy Tf hm h,Nat.sub_self,paa]
theorem kN{l:List Kh}{m:Nat}(hm:m<l.length)(h:Lh (l[m]).op<0):Uk l m = -1:=by rw[← iC,EF Tf hm h]
inductive Ex where
 | leaf (x:Kh)
 | one (x:Kh) (a:Ex)
 | two (x:Kh) (a b:Ex)
def Ex.flat:Ex→List Kh
 | .leaf x=>[x]
 | .one x a=>x::a.flat
 | .two x a b=>x::(a.flat++b.flat)
def Ex.deep:Ex→Nat
 | .leaf _=>1
 | .one _ a=>a.deep+1
 | .two _ a b=>max a.deep b.deep+1
def Ex.top:Ex→Kh
 | .leaf x=>x
 | .one x _=>x
 | .two x _ _=>x
def Ex.ok:Ex→Prop
 | .leaf x=>Lh x.op=0
 | .one x a=>Lh x.op=1∧a.ok
 | .two x a b=>Lh x.op=2∧a.ok∧b.ok
theorem Ex.flat_pos:∀ e:Ex,0<e.flat.length
 | .leaf x=>by simp[Ex.flat]
 | .one x a=>by simp[Ex.flat]
 | .two x a b=>by simp[Ex.flat]
theorem Ex.deep_pos:∀ e:Ex,0<e.deep
 | .leaf x=>by simp[Ex.deep]
 | .one x a=>by simp[Ex.deep]
 | .two x a b=>by simp[Ex.deep]
theorem Ex.deep_le:∀ e:Ex,e.deep≤e.flat.length
 | .leaf x=>by simp[Ex.flat,Ex.deep]
 | .one x a=>by have:=a.deep_le;simp only[Ex.flat,Ex.deep,jaa];omega
 | .two x a b=>by have A:=a.deep_le;have E:=b.deep_le;simp only[Ex.flat,Ex.deep,jaa,xaa];omega
theorem Ex.top_kids:∀ e:Ex,e.ok→0≤Lh e.top.op
 | .leaf x,h=>by have A:Lh x.op=0:=h;show 0≤Lh x.op;omega
 | .one x a,h=>by have A:Lh x.op=1:=h.1;show 0≤Lh x.op;omega
 | .two x a b,h=>by have A:Lh x.op=2:=h.1;show 0≤Lh x.op;omega
theorem Xq:∀ (e:Ex),e.ok→∀ (A:List Kh) (k:Nat),Bl (e.flat++A) (k+1)=(Bl A k).map (· + e.flat.length)
 | .leaf x,h,A,k=>by have E:Lh x.op=0:=h;show Bl (x::A) (k+1)=_;rw[Ll,if_neg Tf,E];rfl
 | .one x a,h,A,k=>by
  have E:Lh x.op=1:=h.1
  show Bl (x::(a.flat++A)) (k+1)=_
  rw[Ll,if_neg Tf,E]
  show yaa _ (Bl (a.flat++A) (k+1))=_
  rw[Xq a h.2 A k]
  cases Bl A k with
  |none=>rfl
  |some n=>simp[Ex.flat];omega
 | .two x a b,h,A,k=>by
  have E:Lh x.op=2:=h.1
  show Bl (x::((a.flat++b.flat)++A)) (k+1)=_
  rw[Ll,if_neg Tf,E,List.append_assoc]
  show yaa _ (Bl (a.flat++(b.flat++A)) (k+1+1))=_
  rw[Xq a h.2.1 (b.flat++A) (k+1),Xq b h.2.2 A k]
  cases Bl A k with
  |none=>rfl
  |some n=>simp[Ex.flat];omega
theorem Wy(E A:List Kh)(e:Ex)(h:e.ok):Uk (E++(e.flat++A)) E.length=((E.length+e.flat.length:Nat):Int):=by have G:=e.flat_pos;unfold Uk;rw[if_neg Zg,saa,List.drop_left,Xq e h A 0,Vo];simp
theorem Ex.of_endN:∀ (l:List Kh) (k n:Nat),Bl l k=some n→∃ G:List Ex,G.length=k∧(∀ e∈G,e.ok)∧l.take n=G.flatMap Ex.flat
 |l,0,n,h=>by rw[Vo]at h;cases h;exact⟨[],rfl,by simp,by simp⟩
 | [],k+1,n,h=>by cases h
 |x::r,k+1,n,h=>by
  rw[Ll]at h;split at h;·cases h
  ·rename_i M;cases J:Bl r (k+(Lh x.op).toNat)with
   |none=>rw[J]at h;cases h
   |some m =>
    rw[J]at h;obtain rfl:m+1=n:=by simpa using h
    obtain⟨G,E,A,ht⟩:=Ex.of_endN r _ m J;have L:Lh x.op=0∨Lh x.op=1∨Lh x.op=2:=by have:=Ro x.op;omega
    rcases L with I|I|I
    ·rw[I]at E;refine⟨.leaf x::G,by simpa using E,?_,by rw[zaa,ht];rfl⟩;intro e H;rcases Aaa.1 H with rfl|H;·exact I
     ·exact A e H
    ·rw[I]at E;match G,E,A,ht with
     |a::G,E,A,ht =>
      refine⟨.one x a::G,by simpa using E,?_,?_⟩
      ·intro e H;rcases Aaa.1 H with rfl|H;·exact⟨I,A a Yf⟩
       ·exact A e (by simp[H])
      ·rw[zaa,ht];simp[Ex.flat]
    ·rw[I]at E;match G,E,A,ht with
     | [a],E,A,ht=>simp at E
     |a::b::G,E,A,ht =>
      refine⟨.two x a b::G,by simp at E ⊢;omega,?_,?_⟩
      ·intro e H;rcases Aaa.1 H with rfl|H;·exact⟨I,A a Yf,A b Yf⟩
       ·exact A e (by simp[H])
      ·rw[zaa,ht];simp[Ex.flat]
theorem Ex.of_end{l:List Kh}{i n:Nat}(h:Uk l i=((i+n:Nat):Int)):∃ e:Ex,e.ok∧l=l.take i++(e.flat++l.drop (i+n))∧e.flat.length=n∧i+n≤l.length∧i<l.length:=by
 unfold Uk at h;split at h;·omega
 ·rename_i hi;rw[saa]at h;cases G:Bl (l.drop i) 1 with
  |none=>rw[G]at h;simp only at h;omega
  |some m =>
   rw[G]at h
   simp only at h
   obtain rfl:m=n:=by omega
   have H:=ov _ _ _ G
   rw[vaa]at H
   obtain⟨I,J,A,ht⟩:=Ex.of_endN _ _ _ G
   match I,J,A,ht with
   | [e],_,A,ht =>
    have E:(l.drop i).take m=e.flat:=by simpa using ht
    refine⟨e,A e Yf,?_,?_,by omega,by omega⟩;·rw[← E,← waa,Baa,Baa]
    ·rw[← E,List.length_take,vaa];omega
theorem Ex.of_whole{l:List Kh}(h:Uk l 0=(l.length:Int)):∃ e:Ex,e.ok∧l=e.flat:=by obtain⟨e,A,E,G,_⟩:=Ex.of_end (l:=l) (i:=0) (n:=l.length) xg;refine⟨e,A,?_⟩;simpa using E
theorem fE(e:Ex)(h:e.ok):Uk e.flat 0=(e.flat.length:Int):=by have:=Wy [] [] e h;simpa using this
def Ex.ks:Ex→List Ex
 | .leaf _=>[]
 | .one _ a=>[a]
 | .two _ a b=>[a,b]
theorem Ex.flat_ks:∀ e:Ex,e.flat=e.top::e.ks.flatMap Ex.flat
 | .leaf x=>rfl
 | .one x a=>by simp[Ex.flat,Ex.top,Ex.ks]
 | .two x a b=>by simp[Ex.flat,Ex.top,Ex.ks]
theorem Ex.kids_ks:∀ e:Ex,e.ok→Lh e.top.op=(e.ks.length:Int)
 | .leaf x,h=>h
 | .one x a,h=>h.1
 | .two x a b,h=>h.1
theorem Ex.ok_ks:∀ e:Ex,e.ok→∀ a∈e.ks,a.ok
 | .leaf x,h,a,ha=>by simp[Ex.ks]at ha
 | .one x b,h,a,ha=>by simp[Ex.ks]at ha;subst ha;exact h.2
 | .two x b c,h,a,ha=>by simp[Ex.ks]at ha;rcases ha with rfl|rfl<;>first|exact h.2.1|exact h.2.2
theorem Ex.ks_len(e:Ex):e.ks.length≤2:=by cases e<;>simp[Ex.ks]
def Ox(A:List Ex)(j:Nat):Nat:=(A.take j).foldl (fun n e=>max n e.deep) 0
theorem Ex.deep_ks:∀ e:Ex,e.deep=Ox e.ks e.ks.length+1
 | .leaf x=>rfl
 | .one x a=>by simp[Ex.deep,Ex.ks,Ox]
 | .two x a b=>by simp[Ex.deep,Ex.ks,Ox]
theorem Hy(A:List Ex)(j:Nat)(h:j<A.length):Ox A (j+1)=max (Ox A j) A[j].deep:=by unfold Ox;rw[Caa h,List.foldl_append];rfl
def rm(i:Nat)(A:List Ex)(j:Nat):Nat:=i+1+((A.take j).flatMap Ex.flat).length
theorem qm(i:Nat)(A:List Ex):rm i A 0=i+1:=rfl
theorem Jq(i:Nat)(A:List Ex)(j:Nat)(h:j<A.length):rm i A (j+1)=rm i A j+A[j].flat.length:=by unfold rm;rw[Caa h,Daa,xaa];simp;omega
def Ft(l:List Kh)(i:Nat)(e:Ex):Prop:=∃ E A,l=E++(e.flat++A)∧E.length=i
theorem Ft.lt{l:List Kh}{i:Nat}{e:Ex}(h:Ft l i e):i<l.length:=by obtain⟨E,A,rfl,rfl⟩:=h;have:=e.flat_pos;simp only[xaa];omega
theorem Ft.top{l:List Kh}{i:Nat}{e:Ex}(h:Ft l i e):l[i]'h.lt=e.top:=by obtain⟨G,A,rfl,rfl⟩:=h;have E:=e.flat_ks;simp[E]
theorem Ft.fin{l:List Kh}{i:Nat}{e:Ex}(h:Ft l i e)(G:e.ok):Uk l i=((i+e.flat.length:Nat):Int):=by obtain⟨E,A,rfl,rfl⟩:=h;exact Wy E A e G
theorem Ft.le{l:List Kh}{i:Nat}{e:Ex}(h:Ft l i e):i+e.flat.length≤l.length:=by obtain⟨E,A,rfl,rfl⟩:=h;simp only[xaa];omega
theorem Ft.kid{l:List Kh}{i:Nat}{e:Ex}(h:Ft l i e)(j:Nat)(I:j<e.ks.length):Ft l (rm i e.ks j) (e.ks[j]):=by
 obtain⟨E,A,rfl,rfl⟩:=h;refine⟨E++(e.top::(e.ks.take j).flatMap Ex.flat),(e.ks.drop (j+1)).flatMap Ex.flat++A,?_,?_⟩
 ·have H:e.ks=e.ks.take j++(e.ks[j]::e.ks.drop (j+1)):=by rw[← taa I,Baa]
  have G:(e.ks.take j++(e.ks[j]::e.ks.drop (j+1))).flatMap Ex.flat=(e.ks.take j).flatMap Ex.flat++(e.ks[j].flat++(e.ks.drop (j+1)).flatMap Ex.flat):=by rw[Daa,List.flatMap_cons]
  rw[← H]at G;rw[e.flat_ks,G];simp
 ·unfold rm;simp only[xaa,jaa];omega
theorem Ft.kid_lt{e:Ex}(j:Nat)(A:j<e.ks.length):(e.ks[j]).flat.length<e.flat.length:=by
 rw[e.flat_ks]
 match e,j,A with
 | .leaf x,j,A=>simp[Ex.ks]at A
 | .one x a,0,A=>simp[Ex.ks]
 | .two x a b,0,A=>simp[Ex.ks];omega
 | .two x a b,1,A=>simp[Ex.ks];omega
theorem Ft.whole(e:Ex):Ft e.flat 0 e:=⟨[],[],by simp,rfl⟩
end Go.Proofs.YtjcihcncljihoaaGreatDoor
namespace Go.Proofs.YtjcihcncljihoaaGreatDoor
open Go Go.RowKit
set_option linter.unusedVariables false
open Go.Lib renaming hid→kaa
open Go.RowKit.Below renaming refl→Gaa
open Int renaming eq_ofNat_of_zero_le→Faa
open List renaming getD_eq_getElem?_getD→faa,getElem?_eq_getElem→Eaa,mem_of_find?_eq_some→Haa
open Nat renaming le_refl→aaa
open Go.Proofs.Tryz renaming prog→maa
def Qh(l:List xh)(i:Int)(s:List UInt8):Bool :=
 decide (0≤i)&&match l[i.toNat]? with
  |some t=>t.text==s&&(t.kind==1||t.kind==3)
  |none=>false
def Vk(l:List xh)(i:Int)(s:List UInt8)(w:World)(e:Ending)(w':World):Prop:=e = .returned (.bool (Qh l i s))∧w=w'
theorem ax{l:List xh}{i:Nat}(h:i<l.length)(s:List UInt8):Qh l i s=(l[i].text==s&&(l[i].kind==1||l[i].kind==3)):=by unfold Qh;simp[Eaa h]
theorem tF{l:List xh}{i:Int}(h:i<0)(s:List UInt8):Qh l i s=false:=by unfold Qh;rw[decide_eq_false Tf];rfl
theorem sn{l:List xh}{i:Nat}(h:l.length≤i)(s:List UInt8):Qh l i s=false:=by unfold Qh;simp[List.getElem?_eq_none h]
theorem RD(k:Int):(k=1∧(k==1||k==3)=true)∨(k=3∧(k==1||k==3)=true)∨((k=2∨k<1∨3<k)∧(k==1||k==3)=false):=by
 by_cases A:k=1;·exact .inl ⟨A,by simp[A]⟩
 ·by_cases E:k=3;·exact .inr (.inl ⟨E,by simp[E]⟩)
  ·exact .inr (.inr ⟨by omega,by simp[A,E]⟩)
theorem zP(l:List xh)(i:Nat)(hi:i<l.length)(s:List UInt8)(v:Value)(w:World)(L:Vi w v l):Calls maa 23 #[v,.int .i64 i,.string (vh s)] w (Vk l i s w):=by
 obtain⟨b,off,c,rfl,O,I,E⟩:=L.at_ Tf;have ht:=E i hi;have J:=ht.kind;have M:=ht.text;clear ht E I;have HE:=kaa (ax hi s);generalize l[i]=t at J M HE;cases h1:((vh t.text).toList==(vh s).toList)
 ·have A:Hid (Qh l i s=false):=by exact Ze
  go_enter Tryz.func23,Tryz.ntmps23;go_wp2;go_ret;exact⟨Bh A.out.symm,rfl⟩
 ·have A:Hid (Qh l i s=(t.kind==1||t.kind==3)):=by exact Ze
  cases G:(t.kind==1);·cases H:(t.kind==3);all_goals have HE3:=A.out;rw[G,H]at HE3;exact Rb
  ·have HE3:=A.out;rw[G]at HE3;exact Rb
theorem nO(l:List xh)(i:Nat)(hi:i<l.length)(s:List UInt8)(v:Value)(w:World)(L:Vi w v l):Calls maa 92 #[v,.int .i64 i,.string (vh s)] w (Vk l i s w):=by
 obtain⟨b,off,c,rfl,O,J,A⟩:=L.at_ Tf;have ht:=A i hi;have H:=ht.kind;have M:=ht.text;clear ht A J;have HE:=kaa (ax hi s);generalize l[i]=t at H M HE;cases h1:((vh t.text).toList==(vh s).toList)
 ·have HE2:Hid (Qh l i s=false):=by exact Ze
  go_enter Tryz.func92,Tryz.ntmps92;go_wp2;go_ret;exact⟨Bh HE2.out.symm,rfl⟩
 ·have HE2:Hid (Qh l i s=(t.kind==1||t.kind==3)):=by exact Ze
  have G:=RD t.kind;generalize t.kind=E at H HE2 G;rcases G with⟨rfl,h2⟩|⟨rfl,h2⟩|⟨h3,h2⟩;·exact Jb
  ·exact Jb
  ·have HE4:=kaa (HE2.out.trans h2);clear h2;rcases h3 with rfl|h3|h3;·exact bc
   ·have I:(E != 2)=true:=by simp;omega
    have h5:decide (1≤E)=false:=by simp;omega
    exact bc
   ·have I:(E != 2)=true:=by simp;omega
    have h5:decide (1≤E)=true:=by simp;omega
    have h6:decide (E≤3)=false:=by simp;omega
    exact bc
theorem Tu(l:List xh)(L:l.length≤4611686018427387904)(i:Int)(s:List UInt8)(v:Value)(w:World)(E:Vi w v l):Calls maa 23 #[v,.int .i64 i,.string (vh s)] w (Vk l i s w):=by
 by_cases G:i<0
 ·obtain⟨A,c,rfl,H⟩:=E.shape;have HE:=kaa (tF (l:=l) G s);have I:decide (0≤i)=false:=by simp;omega
  clear E;exact Nc
 ·obtain⟨n,rfl⟩:=Faa (show 0≤i by omega);by_cases hi:n<l.length;·exact zP l n hi s v w E
  ·obtain⟨A,c,rfl,H⟩:=E.shape;have HE:=kaa (sn (i:=n) (show l.length≤n by omega) s);have I:decide (0≤(n:Int))=true:=by simp
   have J:decide ((n:Int)<(l.length:Int))=false:=by simp;omega
   clear E G;exact Nc
theorem ZI(l:List xh)(L:l.length≤4611686018427387904)(i:Int)(s:List UInt8)(v:Value)(w:World)(E:Vi w v l):Calls maa 92 #[v,.int .i64 i,.string (vh s)] w (Vk l i s w):=by
 by_cases G:i<0
 ·obtain⟨A,c,rfl,H⟩:=E.shape;have HE:=kaa (tF (l:=l) G s);have I:decide (0≤i)=false:=by simp;omega
  clear E;exact kc
 ·obtain⟨n,rfl⟩:=Faa (show 0≤i by omega);by_cases hi:n<l.length;·exact nO l n hi s v w E
  ·obtain⟨A,c,rfl,H⟩:=E.shape;have HE:=kaa (sn (i:=n) (show l.length≤n by omega) s);have I:decide (0≤(n:Int))=true:=by simp
   have J:decide ((n:Int)<(l.length:Int))=false:=by simp;omega
   clear E G;exact kc
def Ch(l:List xh)(i:Int):Int :=
 if 0≤i∧i<l.length then (l.getD i.toNat ⟨0,[],0,0⟩).pos else match l.getLast? with
  |some t=>wrap64 (t.pos+t.text.length)
  |none=>0
def Vj(l:List xh)(i:Int)(w:World)(e:Ending)(w':World):Prop:=e = .returned (.int .i64 (Ch l i))∧Below w.heap.size w w'
theorem Wt{l:List xh}{i:Nat}(h:i<l.length):Ch l i=l[i].pos:=by unfold Ch;rw[if_pos Tf,faa];simp[Eaa h]
theorem Kr{l:List xh}{i:Int}{m:Nat}(h:¬ (0≤i∧i<l.length))(A:l.length=m+1):Ch l i=wrap64 ((l[m]' Tf).pos+(l[m]' Tf).text.length):=by unfold Ch;rw[if_neg h,List.getLast?_eq_getElem?,show l.length - 1=m by omega,Eaa Tf]
theorem Lr{l:List xh}{i:Int}(A:l.length=0):Ch l i=0:=by obtain rfl:=List.eq_nil_of_length_eq_zero A;unfold Ch;rw[if_neg Yf];rfl
theorem sJ(l:List xh)(i:Nat)(hi:i<l.length)(v:Value)(w:World)(I:Vi w v l):Calls maa 87 #[v,.int .i64 i] w (Vj l i w):=by obtain⟨b,off,c,rfl,J,G,A⟩:=I.at_ Tf;have H:=(A i hi).pos;clear A G;have E:=kaa (Wt hi);generalize l[i]=t at H E;go_enter Tryz.func87,Tryz.ntmps87;go_wp2;go_ret;exact⟨ci E.out.symm,Gaa _ _⟩
theorem BG(l:List xh)(i:Nat)(hi:i<l.length)(v:Value)(w:World)(I:Vi w v l):Calls maa 97 #[v,.int .i64 i] w (Vj l i w):=by obtain⟨b,off,c,rfl,J,G,A⟩:=I.at_ Tf;have H:=(A i hi).pos;clear A G;have E:=kaa (Wt hi);generalize l[i]=t at H E;go_enter Tryz.func97,Tryz.ntmps97;go_wp2;go_ret;exact⟨ci E.out.symm,Gaa _ _⟩
theorem LG(l:List xh)(O:l.length≤4611686018427387904)(i:Int)(hi:¬ (0≤i∧i<l.length))(I:0<l.length)(v:Value)(w:World)(G:Vi w v l):Calls maa 87 #[v,.int .i64 i] w (Vj l i w):=by
 obtain⟨b,off,c,rfl,L,hb,A⟩:=G.at_ Tf;obtain⟨m,hm⟩:∃ m,l.length=m+1:=⟨l.length - 1,by omega⟩;have ht:=A m Tf;have M:=ht.kind;have Z:=ht.text;have Q:=ht.n;have Y:=ht.pos;have HE:=kaa (Kr hi hm);clear A ht G;generalize l[m]' Tf=t at M Z Q Y HE;have H:Hid (wrap64 (t.pos+((vh t.text).size:Int))=Ch l i):=by exact vf
 have E:decide (0≤i)=false∨(decide (0≤i)=true∧decide (i<(m:Int)+1)=false):=by exact sd
 rw[hm]at O L ⊢;clear hi hm I;rcases E with J|⟨J,h2⟩;all_goals go_enter Tryz.func87,Tryz.ntmps87;go_wp2;go_ret;exact⟨ci H.out,(Gaa _ _).alloc (aaa _) _⟩
theorem gv(l:List xh)(J:l.length≤4611686018427387904)(i:Int)(v:Value)(w:World)(G:Vi w v l):Calls maa 87 #[v,.int .i64 i] w (Vj l i w):=by
 by_cases hi:0≤i∧i<l.length;·obtain⟨n,rfl⟩:=Faa hi.1;exact sJ l n Tf v w G
 ·by_cases H:0<l.length;·exact LG l J i hi H v w G
  ·obtain⟨A,c,rfl,M⟩:=G.shape;have E:l.length=0:=by omega
   have HE:=kaa (Lr (i:=i) E);rw[E];clear G H;cases I:decide (0≤i);·exact Wb
   ·have L:decide (i<0)=false:=by simp at I ⊢;omega
    exact Wb
theorem lD(l:List xh)(O:l.length≤4611686018427387904)(i:Int)(hi:¬ (0≤i∧i<l.length))(I:0<l.length)(v:Value)(w:World)(G:Vi w v l):Calls maa 97 #[v,.int .i64 i] w (Vj l i w):=by
 obtain⟨b,off,c,rfl,L,hb,A⟩:=G.at_ Tf;obtain⟨m,hm⟩:∃ m,l.length=m+1:=⟨l.length - 1,by omega⟩;have ht:=A m Tf;have M:=ht.kind;have Z:=ht.text;have Q:=ht.n;have Y:=ht.pos;have HE:=kaa (Kr hi hm);clear A ht G;generalize l[m]' Tf=t at M Z Q Y HE;have H:Hid (wrap64 (t.pos+((vh t.text).size:Int))=Ch l i):=by exact vf
 have E:decide (0≤i)=false∨(decide (0≤i)=true∧decide (i<(m:Int)+1)=false):=by exact sd
 rw[hm]at O L ⊢;clear hi hm I;rcases E with J|⟨J,h2⟩;all_goals go_enter Tryz.func97,Tryz.ntmps97;go_wp2;go_quiet (fail);go_wp2;go_ret;exact⟨ci H.out,⟨rfl,rfl,rfl,aaa _,fun _ _=>rfl⟩⟩
theorem XI(l:List xh)(J:l.length≤4611686018427387904)(i:Int)(v:Value)(w:World)(G:Vi w v l):Calls maa 97 #[v,.int .i64 i] w (Vj l i w):=by
 by_cases hi:0≤i∧i<l.length;·obtain⟨n,rfl⟩:=Faa hi.1;exact BG l n Tf v w G
 ·by_cases H:0<l.length;·exact lD l J i hi H v w G
  ·obtain⟨A,c,rfl,M⟩:=G.shape;have E:l.length=0:=by omega
   have HE:=kaa (Lr (i:=i) E);rw[E];clear G H;cases I:decide (0≤i);·exact Pb
   ·have L:decide (i<0)=false:=by simp at I ⊢;omega
    exact Pb
def oG:List (List UInt8):=[[],[],[],[45],[33],[43],[45],[42],[47],[37],[61,61],[33,61],[60],[60,61],[38,38],[124,124]]
def sg(op:Nat):List UInt8:=oG.getD op []
def Rh:Nat→List Nat
 |0=>[15]
 |1=>[14]
 |2=>[10,11,12,13]
 |3=>[5,6]
 |4=>[7,8,9]
 |_=>[]
theorem Mo:∀ n op,op∈Rh n→5≤op∧op≤15
 |0,op,h=>by simp[Rh]at h;omega
 |1,op,h=>by simp[Rh]at h;omega
 |2,op,h=>by simp[Rh]at h;omega
 |3,op,h=>by simp[Rh]at h;omega
 |4,op,h=>by simp[Rh]at h;omega
 |n+5,op,h=>by simp[Rh]at h
theorem xy:∀ n,(Rh n).length≤4
 |0=>by decide
 |1=>by decide
 |2=>by decide
 |3=>by decide
 |4=>by decide
 |n+5=>by simp[Rh]
def opAt(n:Nat)(l:List xh)(i:Nat):Nat:=((Rh n).find? (fun op=>Qh l i (sg op))).getD 0
abbrev Dm:=(Ex × Nat) ⊕ (Int × Int)
def tk(l:List xh)(i:Nat):xh:=l.getD i ⟨0,[],0,0⟩
theorem rj{l:List xh}{i:Nat}(h:i<l.length):tk l i=l[i]:=by unfold tk;rw[faa,Eaa h];rfl
def lp(f:Nat→Dm)(n:Nat)(l:List xh):Nat→Ex→Nat→Dm
 |0,x,A=>.inl (x,A)
 |g+1,x,A=>if opAt n l A=0 then .inl (x,A)else match f (A+1)with
  | .inr e=>.inr e
  | .inl (y,E)=>if n=2 then .inl (.two ⟨opAt n l A,0,[],(tk l A).pos⟩ x y,E)else lp f n l g (.two ⟨opAt n l A,0,[],(tk l A).pos⟩ x y) E
def PD(f:Nat→Dm)(n:Nat)(l:List xh)(x:Ex)(A:Nat):Dm:=lp f n l (l.length - A) x A
def Dj(pr:Nat→Dm)(l:List xh):Nat→Nat→Dm
 |0,i=>pr i
 |m+1,i=>match Dj pr l m i with
  | .inr e=>.inr e
  | .inl (x,A)=>PD (Dj pr l m) (4 - m) l x A
def Fk(l:List xh)(i:Nat):Dm :=
 if (tk l i).kind=2 then .inl (.leaf ⟨1,(tk l i).n,[],(tk l i).pos⟩,i+1)
 else if (tk l i).kind=1∧Hh (tk l i).text=true then .inl (.leaf ⟨2,0,(tk l i).text,(tk l i).pos⟩,i+1)
 else .inr (5,Ch l i)
def Gt(l:List xh)(i:Nat):Bool:=Qh l i [33]||Qh l i [45]
def Nx(l:List xh)(i:Nat):Bool:=Qh l i [40]
def ti(l:List xh):Nat→Nat→Dm
 |0,i=>if l.length≤i then .inr (6,Ch l i)else if (Gt l i||Nx l i)=true then .inr (7,Ch l i)else Fk l i
 |k+1,i=>if l.length≤i then .inr (6,Ch l i)
  else if Gt l i=true then match ti l k (i+1)with
   | .inr e=>.inr e
   | .inl (x,A)=>.inl (.one ⟨if (tk l i).text=[45]then 3 else 4,0,[],(tk l i).pos⟩ x,A)
  else if Nx l i=true then match Dj (ti l k) l 5 (i+1)with
   | .inr e=>.inr e
   | .inl (x,A)=>if Qh l A [41]=true then .inl (x,A+1)else .inr (if l.length≤A then 6 else 5,Ch l A)
  else Fk l i
theorem Zj{l:List xh}{i:Nat}{s:List UInt8}(h:Qh l i s=true):i<l.length:=by
 rcases Nat.lt_or_ge i l.length with A|A;·exact A
 ·rw[sn A]at h;cases h
theorem bj{l:List xh}{i:Nat}{s:List UInt8}(h:Qh l i s=true):(tk l i).text=s∧((tk l i).kind=1∨(tk l i).kind=3):=by have hi:=Zj h;rw[ax hi]at h;rw[rj hi];simpa using h
theorem Lk{n:Nat}{l:List xh}{i:Nat}(h:opAt n l i≠0):opAt n l i∈Rh n∧Qh l i (sg (opAt n l i))=true:=by
 unfold opAt at h ⊢
 cases A:(Rh n).find? (fun op=>Qh l i (sg op))with
 |none=>rw[A]at h;simp at h
 |some op =>
  simp only[Option.getD_some]
  exact⟨Haa A,by simpa using List.find?_some A⟩
theorem hH{n:Nat}{l:List xh}{i:Nat}(h:opAt n l i=0):∀ op∈Rh n,Qh l i (sg op)=false:=by
 unfold opAt at h
 cases A:(Rh n).find? (fun op=>Qh l i (sg op))with
 |none =>
  intro op E
  have:=List.find?_eq_none.1 A op E
  simpa using this
 |some op =>
  rw[A]at h
  have:=Mo n op (Haa A)
  simp at h
  omega
theorem dO:∀ n,∀ a∈Rh n,∀ b∈Rh n,sg a=sg b→a=b
 |0=>by decide
 |1=>by decide
 |2=>by decide
 |3=>by decide
 |4=>by decide
 |n+5=>by simp[Rh]
theorem Fz{n:Nat}{l:List xh}{i op:Nat}(G:op∈Rh n)(h:Qh l i (sg op)=true):opAt n l i=op:=by
 have A:opAt n l i≠0:=fun I=>by have:=hH I op G;rw[h]at this;cases this
 have E:=Lk A;have e1:=(bj h).1;have H:=(bj E.2).1;exact dO n _ E.1 _ G (H.symm.trans e1)
theorem Mq{n:Nat}{l:List xh}{i:Nat}(h:opAt n l i≠0):i<l.length:=Zj (Lk h).2
theorem zB{n:Nat}{l:List xh}{i:Nat}(h:l.length≤i):opAt n l i=0:=by
 by_cases A:opAt n l i=0;·exact A
 ·have:=Mq A;omega
structure oL (l:List xh) (f:Nat→Dm):Prop where
 good:∀ i x tto,f i = .inl (x,tto)→i < tto∧tto≤l.length∧x.flat.length≤tto - i∧x.ok
 bad:∀ i e p,f i = .inr (e,p)→1≤e∧e≤7
theorem Vs{f:Nat→Dm}{n:Nat}{l:List xh}{x:Ex}{A:Nat}(h:opAt n l A=0):PD f n l x A = .inl (x,A):=by
 unfold PD
 cases l.length - A with
 |zero=>rfl
 |succ g=>unfold lp;rw[if_pos h]
theorem mF{f:Nat→Dm}{n:Nat}{l:List xh}(I:oL l f):∀ (g E:Nat) (x:Ex) (A:Nat),l.length - A≤g→l.length - A≤E→lp f n l g x A=lp f n l E x A
 |0,0,x,A,_,_=>rfl
 |0,E+1,x,A,h,_=>by unfold lp;rw[if_pos (zB Tf)]
 |g+1,0,x,A,_,h=>by unfold lp;rw[if_pos (zB Tf)]
 |g+1,E+1,x,A,M,O=>by
  unfold lp;by_cases G:opAt n l A=0;·rw[if_pos G,if_pos G]
  ·rw[if_neg G,if_neg G];cases L:f (A+1)with
   |inr e=>rfl
   |inl r =>
    obtain⟨y,H⟩:=r;have:=I.good _ _ _ L;have J:=Mq G;simp only;split;·rfl
    ·exact mF I g E _ H Tf Tf
theorem Jz{f:Nat→Dm}{n:Nat}{l:List xh}{x:Ex}{A:Nat}{e:Int × Int}(h:opAt n l A≠0)(H:f (A+1) = .inr e):PD f n l x A = .inr e:=by have G:=Mq h;unfold PD;obtain⟨g,E⟩:∃ g,l.length - A=g+1:=⟨l.length - A - 1,by omega⟩;rw[E];unfold lp;rw[if_neg h,H]
theorem Ws{f:Nat→Dm}{n:Nat}{l:List xh}{x y:Ex}{A E:Nat}(G:oL l f)(h:opAt n l A≠0)(H:f (A+1) = .inl (y,E)):PD f n l x A=if n=2 then .inl (.two ⟨opAt n l A,0,[],(tk l A).pos⟩ x y,E)else PD f n l (.two ⟨opAt n l A,0,[],(tk l A).pos⟩ x y) E:=by have J:=Mq h;have:=G.good _ _ _ H;unfold PD;obtain⟨g,I⟩:∃ g,l.length - A=g+1:=⟨l.length - A - 1,by omega⟩;rw[I,lp,if_neg h,H];simp only;rw[mF G g (l.length - E) _ E Tf Tf]
theorem fK{n op:Nat}(h:op∈Rh n):Lh (op:Int)=2:=by have:=Mo n op h;exact Qo Tf Tf
theorem OD{f:Nat→Dm}{n:Nat}{l:List xh}(J:oL l f):∀ (g:Nat) (x:Ex) (A i:Nat),i<A→A≤l.length→x.flat.length≤A - i→x.ok →
  (∀ z t,lp f n l g x A = .inl (z,t)→i<t∧t≤l.length∧z.flat.length≤t - i∧z.ok)∧(∀ e p,lp f n l g x A = .inr (e,p)→1≤e∧e≤7)
 |0,x,A,i,h1,h2,h3,h4=>by unfold lp;exact Cd
 |g+1,x,A,i,h1,h2,h3,h4=>by
  unfold lp;by_cases I:opAt n l A=0;·rw[if_pos I];exact Cd
  ·rw[if_neg I];cases M:f (A+1)with
   |inr e =>refine⟨fun z t h=>Gg,fun e p h=>?_⟩;cases h;exact J.bad _ _ _ M
   |inl r =>
    obtain⟨y,H⟩:=r;have L:=J.good _ _ _ M;have E:(Ex.two ⟨opAt n l A,0,[],(tk l A).pos⟩ x y).flat.length≤H - i:=by exact Qe
    have G:(Ex.two ⟨opAt n l A,0,[],(tk l A).pos⟩ x y).ok:=⟨fK (Lk I).1,h4,L.2.2.2⟩;simp only;split;·refine⟨fun z t h=>?_,fun e p h=>by cases h⟩;cases h;exact⟨by omega,L.2.1,E,G⟩
    ·exact OD J g _ H i Tf L.2.1 E G
theorem Nk{pr:Nat→Dm}{l:List xh}(H:oL l pr):∀ m,oL l (Dj pr l m)
 |0=>H
 |m+1=>by
  have ih:=Nk H m;constructor
  ·intro i x I h;unfold Dj at h;cases E:Dj pr l m i with
   |inr e=>rw[E]at h;cases h
   |inl r =>obtain⟨y,G⟩:=r;rw[E]at h;have A:=ih.good _ _ _ E;exact(OD ih _ y G i A.1 A.2.1 A.2.2.1 A.2.2.2).1 _ _ h
  ·intro i e p h;unfold Dj at h;cases E:Dj pr l m i with
   |inr J=>rw[E]at h;cases h;exact ih.bad _ _ _ E
   |inl r =>obtain⟨y,G⟩:=r;rw[E]at h;have A:=ih.good _ _ _ E;exact(OD ih _ y G i A.1 A.2.1 A.2.2.1 A.2.2.2).2 _ _ h
theorem dr{l:List xh}{i:Nat}(hi:i<l.length):(∀ x A,Fk l i = .inl (x,A)→i<A∧A≤l.length∧x.flat.length≤A - i∧x.ok)∧(∀ e p,Fk l i = .inr (e,p)→1≤e∧e≤7):=by
 unfold Fk;split;·exact cd
 ·split;·exact cd
  ·refine⟨fun z t h=>Gg,fun e p h=>?_⟩;cases h;exact⟨by decide,by decide⟩
theorem Kk(l:List xh):∀ k,oL l (ti l k)
 |0=>by
  constructor
  ·intro i x I h;unfold ti at h;split at h;·cases h
   ·split at h;·cases h
    ·exact(dr Tf).1 _ _ h
  ·intro i e p h;unfold ti at h;split at h;·exact Hf
   ·split at h;·exact Hf
    ·exact(dr Tf).2 _ _ h
 |k+1=>by
  have ih:=Kk l k;have E:=Nk ih 5;constructor
  ·intro i x I h;unfold ti at h;split at h;·cases h
   ·split at h
    ·cases A:ti l k (i+1)with
     |inr e=>rw[A]at h;cases h
     |inl r =>obtain⟨y,H⟩:=r;rw[A]at h;have G:=ih.good _ _ _ A;cases h;refine⟨by omega,G.2.1,by simp only[Ex.flat,List.length_cons];omega,?_,G.2.2.2⟩;show Lh (if (tk l i).text=[45]then (3:Int)else 4)=1;split<;>rfl
    ·split at h
     ·cases A:Dj (ti l k) l 5 (i+1)with
      |inr e=>rw[A]at h;cases h
      |inl r =>
       obtain⟨y,H⟩:=r;rw[A]at h;have G:=E.good _ _ _ A;simp only at h;split at h;·rename_i J;have:=Zj J;cases h;exact⟨by omega,by omega,by omega,G.2.2.2⟩
       ·cases h
     ·exact(dr Tf).1 _ _ h
  ·intro i e p h;unfold ti at h;split at h;·exact Hf
   ·split at h
    ·cases A:ti l k (i+1)with
     |inr e=>rw[A]at h;cases h;exact ih.bad _ _ _ A
     |inl r =>rw[A]at h;cases h
    ·split at h
     ·cases A:Dj (ti l k) l 5 (i+1)with
      |inr e=>rw[A]at h;cases h;exact E.bad _ _ _ A
      |inl r =>
       rw[A]at h;simp only at h;split at h;·cases h
       ·cases h;split<;>exact⟨by decide,by decide⟩
     ·exact(dr Tf).2 _ _ h
theorem VE{l:List xh}{i:Nat}(h:l.length≤i):∀ k,ti l k i = .inr (6,Ch l i)
 |0=>by unfold ti;rw[if_pos h]
 |k+1=>by unfold ti;rw[if_pos h]
def ij(l:List xh)(i:Int):List Kh × Int × Int × Int :=
 if i<0 then ([],0,1,0)else match Dj (ti l 12) l 5 i.toNat with
  | .inr (e,p)=>([],0,e,p)
  | .inl (x,A)=>if 12<x.deep then ([],0,7,(tk l i.toNat).pos)else if 40<x.flat.length then ([],0,2,(tk l i.toNat).pos)else (x.flat,A,0,0)
end Go.Proofs.YtjcihcncljihoaaGreatDoor
namespace Go.Proofs.YtjcihcncljihoaaGreatDoor
set_option linter.unusedVariables false
open List renaming length_cons→jaa
open Nat renaming le_refl→aaa
open Prod.mk renaming injEq→Jaa
open Sum.inl renaming injEq→Iaa
def gi(c:UInt8):Bool:=decide (c.toNat=32)||decide (c.toNat=9)||decide (c.toNat=10)||decide (c.toNat=13)
def li:Bool→List UInt8→Nat
 |_,[]=>0
 |false,c::r=>if gi c then li false r+1 else if c.toNat=47∧r.head? = some 47 then li true r+1 else 0
 |true,c::r=>if c.toNat=10 then li false r+1 else li true r+1
def Yr:List (List UInt8):=[[61,61],[33,61],[60,61],[38,38],[124,124]]
def tw(j:Nat):List UInt8:=Yr.getD j []
def jH:List UInt8:=[40,41,123,125,59,44,61,60,33,43,45,42,47,37]
def Gl(l:List UInt8):Nat:=if Yr.any (fun t=>t.isPrefixOf l)then 2 else match l with
 | []=>0
 |c::_=>if jH.contains c then 1 else 0
def mr(l:List UInt8):Nat:=l.foldl (fun n c=>10*n+(c.toNat - 48)) 0
def lj(l:List UInt8)(pos:Int):(xh × Nat) ⊕ Int:=match l with
 | []=>.inr 3
 |c::r =>
  if si c then
   if (l.takeWhile Xm).length≤16 then .inl (⟨1,l.takeWhile Xm,0,pos⟩,(l.takeWhile Xm).length)else .inr 2
  else if Ph c then
   if mr (l.takeWhile Ph)≤4294967296 then .inl (⟨2,l.takeWhile Ph,mr (l.takeWhile Ph),pos⟩,(l.takeWhile Ph).length)else .inr 4
  else if Gl l=0 then .inr 3 else .inl (⟨3,l.take (Gl l),0,pos⟩,Gl l)
def bn:Nat→Nat→List UInt8→List xh × Int × Int
 |0,_,_=>([],0,0)
 |_+1,_,[]=>([],0,0)
 |f+1,pos,c::r=>match lj (c::r) pos with
  | .inr e=>([],e,pos)
  | .inl (t,n) =>
   match bn f (pos+n+li false ((c::r).drop n)) (((c::r).drop n).drop (li false ((c::r).drop n)))with
   |(l,e,p)=>if e=0 then (t::l,0,0)else ([],e,p)
theorem zr{p:UInt8→Bool}{c:UInt8}{r:List UInt8}(h:p c=true):1≤((c::r).takeWhile p).length:=by rw[List.takeWhile_cons,h];simp
theorem Hk(p:UInt8→Bool)(l:List UInt8):(l.takeWhile p).length≤l.length:=(List.takeWhile_prefix p).length_le
theorem yH{t l:List UInt8}(h:t.isPrefixOf l=true):t.length≤l.length:=(List.isPrefixOf_iff_prefix.1 h).length_le
theorem DA(l:List UInt8):Gl l≤l.length:=by
 unfold Gl;split
 ·rename_i h;obtain⟨t,ht,A⟩:=List.any_eq_true.1 h;have E:=yH A;have:t.length=2:=by
   have:∀ t∈Yr,t.length=2:=by decide
   exact this t ht
  omega
 ·split;·exact Nat.zero_le _
  ·split<;>simp
theorem Yk{l:List UInt8}{pos:Int}{t:xh}{n:Nat}(h:lj l pos = .inl (t,n)):1≤n∧n≤l.length∧t.text=l.take n∧t.pos=pos:=by
 cases l with
 |nil=>simp[lj]at h
 |cons c r =>
  unfold lj at h
  simp only at h
  by_cases A:si c=true
  ·rw[if_pos A]at h;split at h;·simp only[Iaa,Jaa]at h;obtain⟨rfl,rfl⟩:=h;refine⟨zr (by simp[Xm,A]),Hk _ _,?_,rfl⟩;exact cf
   ·cases h
  ·rw[if_neg A]at h;by_cases E:Ph c=true
   ·rw[if_pos E]at h;split at h;·simp only[Iaa,Jaa]at h;obtain⟨rfl,rfl⟩:=h;refine⟨zr E,Hk _ _,?_,rfl⟩;exact cf
    ·cases h
   ·rw[if_neg E]at h;split at h;·cases h
    ·rename_i G;simp only[Iaa,Jaa]at h;obtain⟨rfl,rfl⟩:=h;exact⟨by omega,DA _,rfl,rfl⟩
theorem aw:∀ (f g pos:Nat) (l:List UInt8),l.length<f→l.length<g→bn f pos l=bn g pos l
 |0,_,_,l,h,_=>by omega
 |f+1,0,_,l,_,h=>by omega
 |f+1,g+1,pos,[],_,_=>rfl
 |f+1,g+1,pos,c::r,E,G=>by
  unfold bn
  cases h:lj (c::r) pos with
  |inr e=>rfl
  |inl x =>obtain⟨t,n⟩:=x;have A:=Yk h;simp only;rw[aw f g _ _ (by simp at A E ⊢;omega) (by simp at A G ⊢;omega)]
def Ar(pos:Nat)(l:List UInt8):List xh × Int × Int:=bn (l.length+1) pos l
def Nn(ts:List xh)(x:List xh × Int × Int):List xh × Int × Int:=if x.2.1=0 then (ts++x.1,0,0)else ([],x.2.1,x.2.2)
theorem ak(ts E:List xh)(x:List xh × Int × Int):Nn ts (Nn E x)=Nn (ts++E) x:=by
 unfold Nn;by_cases A:x.2.1=0;·rw[if_pos A,if_pos rfl,if_pos A,List.append_assoc]
 ·rw[if_neg A,if_neg A,if_neg A]
theorem mC(ts:List xh)(e p:Int)(h:e≠0):Nn ts ([],e,p)=([],e,p):=by unfold Nn;rw[if_neg h]
theorem nC(ts:List xh):Nn ts ([],0,0)=(ts,0,0):=by unfold Nn;simp
theorem sG{pos:Nat}{c:UInt8}{r:List UInt8}{e:Int}(h:lj (c::r) pos = .inr e):Ar pos (c::r)=([],e,(pos:Int)):=by unfold Ar bn;rw[h]
theorem dy{pos:Nat}{c:UInt8}{r:List UInt8}{t:xh}{n:Nat}(h:lj (c::r) pos = .inl (t,n)):Ar pos (c::r)=Nn [t] (Ar (pos+n+li false ((c::r).drop n)) (((c::r).drop n).drop (li false ((c::r).drop n)))):=by have A:=Yk h;unfold Ar;rw[bn];simp only[h];rw[aw (c::r).length ((((c::r).drop n).drop (li false ((c::r).drop n))).length+1) _ _ (by simp at A ⊢;omega) Tf];rfl
def Li(l:List UInt8):List xh × Int × Int :=
 if l.length≤4000 then Nn [] (Ar (li false l) (l.drop (li false l)))else ([],2,4000)
theorem In:∀ (b:Bool) (l:List UInt8),li b l≤l.length
 |true,[]=>aaa _
 |false,[]=>aaa _
 |false,c::r=>by
  unfold li;have A:=In false r;have E:=In true r;simp only[jaa];split;·omega
  ·split<;>omega
 |true,c::r=>by unfold li;have A:=In false r;have E:=In true r;simp only[jaa];split<;>omega
end Go.Proofs.YtjcihcncljihoaaGreatDoor

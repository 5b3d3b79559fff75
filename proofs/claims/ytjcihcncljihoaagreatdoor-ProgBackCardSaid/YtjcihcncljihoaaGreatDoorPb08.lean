/- Chapter 05 (programs), joined: StmPlC, StmPlD, StmPlE, StmPlF, StmPlG. -/
import Derived.Test.YtjcihcncljihoaaGreatDoorPb07
set_option maxRecDepth 100000
namespace Go.Proofs.YtjcihcncljihoaaGreatDoor
open Go Go.RowKit
set_option linter.unusedVariables false
open Bool renaming and_eq_true→Raa
open Ex renaming bare_flat→rca
open Go.Lib renaming itoa→Paa
open Int renaming le_refl→uca,toNat_natCast→saa
open List renaming append_assoc→oca,append_nil→Maa,cons_append→Kaa,eq_nil_of_length_eq_zero→pca,length_append→xaa,length_cons→jaa,map_append→Zaa,map_cons→tca,mem_append→vca,mem_cons→Aaa,not_mem_nil→sca
open Nat renaming add_assoc→qca,le_refl→aaa,zero_le→laa
theorem Sa{P:Prop}(h:P:=by simp only[List.append_assoc];refine Eh.app (T:=[]) (Wi rt _ hrt) (Eh.app (Tp hx (by rw[List.append_assoc];exact bC _)) (Eh.app (T:=[(3,[123],0)]) (pn _) (Eh.app (hu2 _) (Eh.app (T:=[]) (Wi rt _ hrt) (Eh.app (T:=[(3,[125],0)]) (gp _) (ht2 q))))))):P:=h
theorem ob{P:Prop}(h:P:=by rw[Mv c2 h1 e1 (by simp only[List.length_append,List.length_cons]at hlt;omega)];simp only[List.length_append,List.length_cons];rw[show i+(Yj x).length+1+T1.length+1+T3.length=i+((Yj x).length+(T1.length+(T3.length+1)+1)) by omega]):P:=h
theorem Uc{P:Prop}(h:P:=by
 simp only[List.mem_cons]at hz;rcases hz with rfl|hz;·have:=(hf y1.length y.els).1;exact this
 ·exact f1 z hz):P:=h
theorem Vd{P:Prop}(h:P:=by
 split at hr;·cases hr
 ·injection hr with hr;exact zt h hn (by decide) hr):P:=h
theorem Cf{P:Prop}(h:P:=by injection hr with hr;exact zt h hn (by decide) hr):P:=h
theorem Pf{P:Prop}(h:P:=by
 split;·exact Iff.rfl
 ·simp):P:=h
theorem Qf{P:Prop}(h:P:=by exact absurd g (by decide)):P:=h
theorem Ug{P:Prop}(h:P:=by simp only[List.length_append,List.length_cons]at hlt;omega):P:=h
theorem qh{P:Prop}(h:P:=by simp[hy]):P:=h
def jj(x:St)(c:UInt8):Bool:=(Ii x.kind.toNat).contains c
noncomputable def Vl(x:St):Bool:=decide (1≤x.kind)&&decide (x.kind≤14)&&decide (0≤x.pos)&&decide (x.pos≤4000) &&
 (if jj x 114=true then Hh x.reg else x.reg==[])&&(if jj x 110=true then Hh x.name else x.name==[]) &&
 (if jj x 101=true then Fh x.e else x.e.isEmpty)&&(if jj x 102=true then Fh x.f else x.f.isEmpty) &&
 (if jj x 107=true then decide (1≤x.n)&&decide (x.n≤8)else x.n==0)
structure Pk (x:St):Prop where
 k0:1≤x.kind
 k1:x.kind≤14
 p0:0≤x.pos
 p1:x.pos≤4000
 r:if jj x 114=true then Hh x.reg=true else x.reg = []
 nm:if jj x 110=true then Hh x.name=true else x.name = []
 e:if jj x 101=true then Fh x.e=true else x.e = []
 f:if jj x 102=true then Fh x.f=true else x.f = []
 t:if jj x 107=true then 1≤x.n∧x.n≤8 else x.n=0
theorem eC(x:St):Vl x=true ↔ Pk x:=by
 have e1:((if jj x 114=true then Hh x.reg else x.reg==[])=true) ↔ (if jj x 114=true then Hh x.reg=true else x.reg=[]):=by exact Pf
 have M:((if jj x 110=true then Hh x.name else x.name==[])=true) ↔ (if jj x 110=true then Hh x.name=true else x.name=[]):=by exact Pf
 have O:((if jj x 101=true then Fh x.e else x.e.isEmpty)=true) ↔ (if jj x 101=true then Fh x.e=true else x.e=[]):=by exact Pf
 have Q:((if jj x 102=true then Fh x.f else x.f.isEmpty)=true) ↔ (if jj x 102=true then Fh x.f=true else x.f=[]):=by exact Pf
 have Y:((if jj x 107=true then decide (1≤x.n)&&decide (x.n≤8)else x.n==0)=true) ↔ (if jj x 107=true then 1≤x.n∧x.n≤8 else x.n=0):=by
  split;·simp
  ·simp
 unfold Vl;constructor;·intro h;simp only[Raa,decide_eq_true_eq]at h;obtain⟨⟨⟨⟨⟨⟨⟨⟨A,E⟩,G⟩,H⟩,h5⟩,h6⟩,I⟩,J⟩,L⟩:=h;exact⟨A,E,G,H,e1.1 h5,M.1 h6,O.1 I,Q.1 J,Y.1 L⟩
 ·rintro⟨A,E,G,H,h5,h6,I,J,L⟩;simp only[Raa,decide_eq_true_eq];exact⟨⟨⟨⟨⟨⟨⟨⟨A,E⟩,G⟩,H⟩,e1.2 h5⟩,M.2 h6⟩,O.2 I⟩,Q.2 J⟩,Y.2 L⟩
noncomputable def Jj(l:List St):Bool:=decide (l.length≤40)&&l.all Vl&&decide (0≤vi l.length false l)&&decide (vi l.length false l≤12)
theorem Uj(l:List St):Jj l=true ↔ l.length≤40∧(∀ x∈l,Pk x)∧∃ d,d≤12∧Rd false l d:=by
 unfold Jj;simp only[Raa,decide_eq_true_eq,List.all_eq_true];constructor;·rintro⟨⟨⟨A,E⟩,H⟩,I⟩;exact⟨A,fun x G=>(eC x).1 (E x G),_,by omega,Rm _ _ _ (aaa _) H⟩
 ·rintro⟨A,E,d,H,I⟩;have:=xw I l.length (aaa _);exact⟨⟨⟨A,fun x G=>(eC x).2 (E x G)⟩,by omega⟩,by omega⟩
noncomputable def fm(x:St)(c:UInt8):List UInt8:=if c=114 then x.reg else if c=110 then x.name else if c=101 then Ej x.e else if c=102 then Ej x.f else Paa x.n
def As(w:List UInt8)(n:Nat):List UInt8:=if n=0 then (if w=[]then []else [32])else if n=1 then [32,61,32]else [44,32]
noncomputable def Gp(w:List UInt8)(x:St):List UInt8→Nat→List UInt8
 | [],_=>[]
 |c::r,n=>As w n++(fm x c++Gp w x r (n+1))
noncomputable def Lj(x:St):List UInt8:=Ai x.kind.toNat++Gp (Ai x.kind.toNat) x (Gh x.kind.toNat) 0
def El:List UInt8:=[32,123,10]
def Pp:List UInt8:=[125,32,101,108,115,101,32,123,10]
def bm:List UInt8:=[125,10]
def Np:List UInt8:=[59,10]
noncomputable def aj:Nat→List UInt8→List St→List UInt8
 |_,_,[]=>[]
 |0,_,_::_=>[]
 |f+1,A,x::r =>
  if x.kind=11∨x.kind=12 then
   A++Lj x++El++aj f (A++[32,32]) (r.take x.body.toNat) ++
    (if 0<x.els then A++Pp++aj f (A++[32,32]) ((r.drop x.body.toNat).take x.els.toNat)else [])++(A++bm)++aj f A (r.drop (x.body.toNat+x.els.toNat))
  else A++Lj x++Np++aj f A r
noncomputable def uu(l:List St):List UInt8:=if Jj l=true then aj l.length [] l else []
inductive Ln:List St→List UInt8→List UInt8→Prop where
 | nil {rt:List UInt8}:Ln [] rt []
 | leaf {x:St} {r:List St} {rt t:List UInt8} (h11:x.kind≠11) (h12:x.kind≠12) (hr:Ln r rt t):Ln (x :: r) rt (rt++Lj x++Np++t)
 | one {x:St} {y r:List St} {rt u t:List UInt8} (hk:x.kind=11∨x.kind=12) (hb:x.body=(y.length:Nat)) (he:x.els=0) (hy:Ln y (rt++[32,32]) u) (hr:Ln r rt t):Ln (x :: (y++r)) rt (rt++Lj x++El++u++(rt++bm)++t)
 | two {x:St} {y z r:List St} {rt u v t:List UInt8} (hk:x.kind=11) (hb:x.body=(y.length:Nat)) (he:x.els=(z.length:Nat)) (hz0:0 < z.length) (hy:Ln y (rt++[32,32]) u) (hz:Ln z (rt++[32,32]) v) (hr:Ln r rt t):Ln (x :: (y++(z++r))) rt (rt++Lj x++El++u++(rt++Pp++v)++(rt++bm)++t)
theorem Vw(f:Nat)(A:List UInt8):aj f A []=[]:=by unfold aj;cases f<;>rfl
theorem kP{b:Bool}{l:List St}{d:Nat}(h:Rd b l d):∀ (J:List UInt8) (f:Nat),l.length≤f→Ln l J (aj f J l):=by
 induction h with
 |nil=>intro J f _;rw[Vw];exact .nil
 | @leaf b x r d A G E H ad hr ih =>
  intro J f I
  cases f with
  |zero=>simp at I
  |succ f =>
   unfold aj
   rw[if_neg Tf]
   exact .leaf A G (ih J f (by simpa using I))
 | @ifs b x y z r d1 d2 d A E H hy hz hr L Q Z =>
  intro J f I
  cases f with
  |zero=>simp at I
  |succ f =>
   simp only[jaa,xaa]at I
   have e1:(y++(z++r)).take x.body.toNat=y:=by rw[E,saa];simp
   have e2:((y++(z++r)).drop x.body.toNat).take x.els.toNat=z:=by rw[E,H,saa,saa];simp
   have M:(y++(z++r)).drop (x.body.toNat+x.els.toNat)=r:=by rw[E,H,saa,saa,← oca,← xaa];simp
   unfold aj
   rw[if_pos (.inl A),e1,e2,M]
   by_cases Y:0<x.els
   ·rw[if_pos Y];exact .two A E H Tf (L _ f Tf) (Q _ f Tf) (Z _ f Tf)
   ·rw[if_neg Y,Maa];have O:z=[]:=pca Tf;subst O;exact .one (.inl A) E H (L _ f Tf) (Z _ f Tf)
 | @loop b x y r d1 d G E H hy hr L Q =>
  intro J f I
  cases f with
  |zero=>simp at I
  |succ f =>
   simp only[jaa,xaa]at I
   have e1:(y++r).take x.body.toNat=y:=by rw[E,saa];simp
   have M:(y++r).drop (x.body.toNat+x.els.toNat)=r:=by rw[E,H,saa];simp
   unfold aj
   rw[if_pos (.inr G),e1,M,if_neg Tf,Maa]
   exact .one (.inr G) E H (L _ f Tf) (Q _ f Tf)
theorem rH{l:List St}{H t:List UInt8}(h:Ln l H t):∀ f,l.length≤f→aj f H l=t:=by
 induction h with
 |nil=>intro f _;exact Vw _ _
 |leaf Q Y hr ih =>
  intro f A
  cases f with
  |zero=>simp at A
  |succ f =>
   unfold aj
   rw[if_neg Tf,ih f (by simpa using A)]
 | @one x y r H u t J E G Z hr L M =>
  intro f A
  cases f with
  |zero=>simp at A
  |succ f =>
   simp only[jaa,xaa]at A
   have e1:(y++r).take x.body.toNat=y:=by rw[E,saa];simp
   have I:(y++r).drop (x.body.toNat+x.els.toNat)=r:=by rw[E,G,saa];simp
   unfold aj
   rw[if_pos J,e1,I,if_neg Tf,Maa,L f Tf,M f Tf]
 | @two x y z r H u v t J E G ad Z hz hr L M i3 =>
  intro f A
  cases f with
  |zero=>simp at A
  |succ f =>
   simp only[jaa,xaa]at A
   have e1:(y++(z++r)).take x.body.toNat=y:=by rw[E,saa];simp
   have O:((y++(z++r)).drop x.body.toNat).take x.els.toNat=z:=by rw[E,G,saa,saa];simp
   have I:(y++(z++r)).drop (x.body.toNat+x.els.toNat)=r:=by rw[E,G,saa,saa,← oca,← xaa];simp
   unfold aj
   rw[if_pos (.inl J),e1,O,I,if_pos Tf,L f Tf,M f Tf,i3 f Tf]
noncomputable def Ym(l:List Kh):List T3:=match Dn l with
 |some e=>e.toks
 |none=>[]
noncomputable def Jo(x:St)(c:UInt8):List T3:=if c=114 then [(1,x.reg,0)]else if c=110 then [(1,x.name,0)]else if c=101 then Ym x.e else if c=102 then Ym x.f else [(2,Paa x.n,x.n)]
def ws(n:Nat):List T3:=if n=0 then []else if n=1 then [(3,[61],0)]else [(3,[44],0)]
noncomputable def io(x:St):List UInt8→Nat→List T3
 | [],_=>[]
 |c::r,n=>ws n++(Jo x c++io x r (n+1))
noncomputable def Yj(x:St):List T3:=(if x.kind=1 then []else [(1,Ai x.kind.toNat,0)])++io x (Gh x.kind.toNat) 0
def Eh(s:List UInt8)(T:List T3)(q:List UInt8):Prop:=∀ pos:Nat,∃ ts:List xh,ts.map yA=T∧Nn [] (Nl pos (s++q))=Nn ts (Nl (pos+s.length) q)
theorem Eh.app{s t q:List UInt8}{T U:List T3}(I:Eh s T (t++q))(ht:Eh t U q):Eh (s++t) (T++U) q:=by intro pos;obtain⟨ts,A,E⟩:=I pos;obtain⟨J,G,H⟩:=ht (pos+s.length);refine⟨ts++J,by rw[Zaa,A,G],?_⟩;rw[oca,E,xaa,← qca,← ak,← H,ak,Maa]
theorem ul(q:List UInt8):Eh [] [] q:=fun pos=>⟨[],rfl,rfl⟩
theorem vG{c:UInt8}(h:gi c=true)(pos:Nat)(l:List UInt8):Nl pos (c::l)=Nl (pos+1) l:=by
 have:li false (c::l)=li false l+1:=by show li false (c::l)=_;unfold li;rw[if_pos h];cases l<;>rfl
 exact td
theorem Wi:∀ (s q:List UInt8),s.all gi=true→Eh s [] q
 | [],q,_=>ul q
 |c::r,q,h=>by simp only[List.all_cons,Raa]at h;intro pos;obtain⟨ts,A,E⟩:=Wi r q h.2 (pos+1);refine⟨ts,A,?_⟩;rw[Kaa,vG h.1,E,jaa,show pos+1+r.length=pos+(r.length+1) by omega]
theorem om{s q:List UInt8}{k n:Int}(E:s≠[])(A:li false (s++q)=0)(h:∀ pos:Int,lj (s++q) pos = .inl (⟨k,s,n,pos⟩,s.length)):Eh s [(k,s,n)] q:=fun pos =>
 ⟨[⟨k,s,n,pos⟩],rfl,by rw[Un E A h pos,ak];rfl⟩
def Dx(s:List UInt8):Prop:=∃ c r,s=c::r∧si c=true∧s.all Xm=true∧s.length≤16
theorem jm{s:List UInt8}(h:Hh s=true):Dx s:=by
 cases s with
 |nil=>cases h
 |cons c r =>
  unfold Hh at h
  simp only[Raa,decide_eq_true_eq]at h
  exact⟨c,r,rfl,h.1.1.2,h.2,h.1.1.1⟩
theorem ap:∀ k,2≤k→k≤14→Dx (Ai k)∧Hh (Ai k)=false
 |0,h,_=>absurd h Tf
 |1,h,_=>absurd h Tf
 |2,_,_=>⟨⟨_,_,rfl,by decide,by decide,by decide⟩,by decide⟩
 |3,_,_=>⟨⟨_,_,rfl,by decide,by decide,by decide⟩,by decide⟩
 |4,_,_=>⟨⟨_,_,rfl,by decide,by decide,by decide⟩,by decide⟩
 |5,_,_=>⟨⟨_,_,rfl,by decide,by decide,by decide⟩,by decide⟩
 |6,_,_=>⟨⟨_,_,rfl,by decide,by decide,by decide⟩,by decide⟩
 |7,_,_=>⟨⟨_,_,rfl,by decide,by decide,by decide⟩,by decide⟩
 |8,_,_=>⟨⟨_,_,rfl,by decide,by decide,by decide⟩,by decide⟩
 |9,_,_=>⟨⟨_,_,rfl,by decide,by decide,by decide⟩,by decide⟩
 |10,_,_=>⟨⟨_,_,rfl,by decide,by decide,by decide⟩,by decide⟩
 |11,_,_=>⟨⟨_,_,rfl,by decide,by decide,by decide⟩,by decide⟩
 |12,_,_=>⟨⟨_,_,rfl,by decide,by decide,by decide⟩,by decide⟩
 |13,_,_=>⟨⟨_,_,rfl,by decide,by decide,by decide⟩,by decide⟩
 |14,_,_=>⟨⟨_,_,rfl,by decide,by decide,by decide⟩,by decide⟩
 |n+15,_,h=>absurd h Tf
theorem LC:Dx Xk:=⟨_,_,rfl,by decide,by decide,by decide⟩
theorem mj{s q:List UInt8}(h:Dx s)(hq:fA q):Eh s [(1,s,0)] q:=by obtain⟨c,r,rfl,A,E,G⟩:=h;refine om Yf (Is (Lw A)) (fun pos=>?_);have ht:=kz (p:=Xm) (c::r) q E hq;rw[Kaa]at ht ⊢;unfold lj;simp only;rw[if_pos A,ht,if_pos G]
theorem Xv{n:Int}{q:List UInt8}(A:0≤n)(E:n≤4294967296)(hq:fA q):Eh (Paa n) [(2,Paa n,n)] q:=by obtain⟨c,r,G,H,_⟩:=Nm A E;exact om (by rw[G];simp) (by rw[G];exact Is (bu H)) (EE A E hq)
theorem Up{l:List Kh}{q:List UInt8}(h:Fh l=true)(hq:fA q):Eh (Ej l) (Ym l) q:=by
 obtain⟨e,I,H,ht,_,hm,_⟩:=Dk h;have e1:Ej l=e.show:=by unfold Ej;rw[if_pos h,ht]
 have A:Ym l=e.toks:=by unfold Ym;rw[ht]
 rw[e1,A];intro pos;obtain⟨ts,E,G⟩:=Fq e I (by rw[H]at hm;exact hm) q pos hq;exact⟨ts,E,by rw[G,ak];rfl⟩
theorem JA(q:List UInt8):Eh [123] [(3,[123],0)] q:=om Yf rfl (fun _=>rfl)
theorem vu(q:List UInt8):Eh [125] [(3,[125],0)] q:=om Yf rfl (fun _=>rfl)
theorem FA(q:List UInt8):Eh [59] [(3,[59],0)] q:=om Yf rfl (fun _=>rfl)
theorem Cs(q:List UInt8):Eh [44] [(3,[44],0)] q:=om Yf rfl (fun _=>rfl)
theorem cy(q:List UInt8):Eh [61] [(3,[61],0)] (32::q):=om Yf rfl (fun _=>rfl)
theorem Qj(q:List UInt8):Eh [32] [] q:=Wi _ _ rfl
theorem Nt(q:List UInt8):Eh [10] [] q:=Wi _ _ rfl
def Vr(x:St)(c:UInt8):Prop:=(c=114∧Hh x.reg=true)∨(c=110∧Hh x.name=true)∨(c=101∧Fh x.e=true)∨(c=102∧Fh x.f=true)∨(c=107∧1≤x.n∧x.n≤8)
theorem Yn:∀ k,k≤14→∀ c∈Gh k,c∈Ii k∧(c=114∨c=110∨c=101∨c=102∨c=107):=by decide
theorem KB:∀ k,k≤14→∀ c∈Ii k,c≠98→c∈Gh k:=by decide
theorem fx(x:St)(c:UInt8):jj x c=true ↔ c∈Ii x.kind.toNat:=by unfold jj;simp
theorem Uo{x:St}(h:Pk x)(c:UInt8)(H:c∈Gh x.kind.toNat):Vr x c:=by
 have I:=h.k1;obtain⟨E,G⟩:=Yn _ Tf c H;have A:=(fx x c).2 E;rcases G with rfl|rfl|rfl|rfl|rfl;·exact .inl ⟨rfl,by have:=h.r;rwa [if_pos A]at this⟩
 ·exact .inr (.inl ⟨rfl,by have:=h.nm;rwa [if_pos A]at this⟩)
 ·exact .inr (.inr (.inl ⟨rfl,by have:=h.e;rwa [if_pos A]at this⟩))
 ·exact .inr (.inr (.inr (.inl ⟨rfl,by have:=h.f;rwa [if_pos A]at this⟩)))
 ·exact .inr (.inr (.inr (.inr ⟨rfl,by have:=h.t;rwa [if_pos A]at this⟩)))
theorem IA{x:St}{c:UInt8}{q:List UInt8}(h:Vr x c)(hq:fA q):Eh (fm x c) (Jo x c) q:=by
 unfold fm Jo;rcases h with⟨rfl,h⟩|⟨rfl,h⟩|⟨rfl,h⟩|⟨rfl,h⟩|⟨rfl,h⟩;·exact mj (jm h) hq
 ·exact mj (jm h) hq
 ·exact Up h hq
 ·exact Up h hq
 ·exact Xv Tf Tf hq
theorem eD(w:List UInt8)(n:Nat)(q:List UInt8):Eh (As w n) (ws n) q:=by
 unfold As ws;by_cases A:n=0
 ·rw[if_pos A,if_pos A];split;·exact ul q
  ·exact Qj q
 ·rw[if_neg A,if_neg A];by_cases E:n=1;·rw[if_pos E,if_pos E];exact Eh.app (s:=[32]) (T:=[]) (Qj _) (Eh.app (s:=[61]) (t:=[32]) (U:=[]) (cy _) (Qj _))
  ·rw[if_neg E,if_neg E];exact Eh.app (s:=[44]) (t:=[32]) (U:=[]) (Cs _) (Qj _)
theorem cN(w:List UInt8)(x:St)(cs:List UInt8)(n:Nat)(A:n≠0){q:List UInt8}(hq:fA q):fA (Gp w x cs n++q):=by
 cases cs with
 |nil=>exact hq
 |cons c r =>
  unfold Gp As
  rw[if_neg A]
  split<;>exact fun c r h=>by cases h;rfl
theorem Wv(w:List UInt8)(x:St):∀ (cs:List UInt8) (n:Nat) {q:List UInt8},(∀ c∈cs,Vr x c)→fA q→Eh (Gp w x cs n) (io x cs n) q
 | [],n,q,_,hq=>ul q
 |c::r,n,q,h,hq=>by unfold Gp io;refine Eh.app (eD w n _) (Eh.app (IA (h c Yf) ?_) (Wv w x r (n+1) (fun c A=>h c (by simp[A])) hq));exact cN w x r (n+1) Tf hq
theorem sI:Ai 1=[]:=rfl
theorem Tp{x:St}{q:List UInt8}(h:Pk x)(hq:fA q):Eh (Lj x) (Yj x) q:=by
 have I:=h.k0;have J:=h.k1;unfold Lj Yj;refine Eh.app ?_ (Wv _ x _ 0 (fun c G=>Uo h c G) hq);by_cases E:x.kind=1;·rw[if_pos E,show x.kind.toNat=1 by omega,sI];exact ul _
 ·rw[if_neg E];refine mj (ap _ Tf Tf).1 ?_;cases L:Gh x.kind.toNat with
  |nil=>exact hq
  |cons c r =>
   have H:Ai x.kind.toNat≠[]:=fun e=>by obtain⟨⟨c,r,A,_⟩,_⟩:=ap x.kind.toNat Tf Tf;rw[e]at A;cases A
   unfold Gp As;rw[if_pos rfl,if_neg H];exact fun c r h=>by cases h;rfl
theorem pn(q:List UInt8):Eh El [(3,[123],0)] q:=Eh.app (s:=[32]) (T:=[]) (Qj _) (Eh.app (s:=[123]) (t:=[10]) (U:=[]) (JA _) (Nt _))
theorem gp(q:List UInt8):Eh bm [(3,[125],0)] q:=Eh.app (s:=[125]) (t:=[10]) (U:=[]) (vu _) (Nt _)
theorem Sp(q:List UInt8):Eh Np [(3,[59],0)] q:=Eh.app (s:=[59]) (t:=[10]) (U:=[]) (FA _) (Nt _)
theorem rz(q:List UInt8):Eh Pp [(3,[125],0),(1,Xk,0),(3,[123],0)] q :=
 Eh.app (s:=[125]) (T:=[(3,[125],0)]) (vu _) (Eh.app (s:=[32]) (T:=[]) (Qj _) (Eh.app (s:=Xk) (t:=[32,123,10]) (U:=[(3,[123],0)]) (mj LC (Kl _)) (pn _)))
def Zh(x:St):St:=⟨x.kind,x.reg,x.name,x.e.map qi,x.f.map qi,x.n,x.body,x.els,0⟩
def qz(cs:List UInt8)(x y:St):St:=⟨y.kind,if 114∈cs then x.reg else y.reg,if 110∈cs then x.name else y.name,if 101∈cs then x.e.map qi else y.e.map qi,if 102∈cs then x.f.map qi else y.f.map qi,if 107∈cs then x.n else y.n,y.body,y.els,0⟩
theorem Rr{A:List xh}{i:Nat}{l:List Kh}(h:Fh l=true)(ha:pk A i (Ym l))(J:Kx A (i+(Ym l).length)):∃ y,Ri A i = .inl (y,i+(Ym l).length)∧y.map qi=l.map qi:=by
 obtain⟨e,Z,H,ht,O,hm,hd⟩:=Dk h;have L:Ym l=e.toks:=by unfold Ym;rw[ht]
 rw[L]at ha J ⊢;obtain⟨E,M,G⟩:=rD A e 12 Z (by rw[H]at hm;exact hm) Tf i ha J;have Y:E.deep=e.deep:=by rw[← E.bare_deep,G,e.bare_deep]
 have I:E.flat.length=e.flat.length:=by rw[← E.bare_len,G,e.bare_len]
 refine⟨E.flat,?_,by rw[← rca,G,rca,H]⟩;have Q:ij A i=(E.flat,((i+e.toks.length:Nat):Int),0,0):=by unfold ij;rw[if_neg Tf,saa,M];simp only;rw[if_neg Tf,if_neg (by rw[I,← H];omega)]
 unfold Ri;rw[Q];simp only[if_pos,saa]
theorem XG{A:List xh}{i:Nat}{x y:St}{c:UInt8}(h:Vr x c)(ha:pk A i (Jo x c))(J:Kx A (i+(Jo x c).length)):∃ z,Rk A c y i = .inl (z,i+(Jo x c).length)∧Zh z=qz [c] x y:=by
 rcases h with⟨rfl,h⟩|⟨rfl,h⟩|⟨rfl,h⟩|⟨rfl,h⟩|⟨rfl,h⟩;·have ha:pk A i ((1,x.reg,0)::[]):=ha;obtain⟨E,G,H,I⟩:=ha.head;refine⟨{ y with reg:=x.reg },?_,rfl⟩;unfold Rk Th;rw[if_pos rfl,if_pos ⟨E,G,by rw[H];exact h⟩,H];rfl
 ·have ha:pk A i ((1,x.name,0)::[]):=ha;obtain⟨E,G,H,I⟩:=ha.head;refine⟨{ y with name:=x.name },?_,rfl⟩;unfold Rk Th;rw[if_neg Uf,if_pos rfl,if_pos ⟨E,G,by rw[H];exact h⟩,H];rfl
 ·have ha:pk A i (Ym x.e):=ha;obtain⟨z,E,G⟩:=Rr h ha J;refine⟨{ y with e:=z },?_,?_⟩;·unfold Rk;rw[if_neg Uf,if_neg Uf,if_pos rfl,E];rfl
  ·show(⟨_,_,_,z.map qi,_,_,_,_,_⟩:St)=_;rw[G];rfl
 ·have ha:pk A i (Ym x.f):=ha;obtain⟨z,E,G⟩:=Rr h ha J;refine⟨{ y with f:=z },?_,?_⟩;·unfold Rk;rw[if_neg Uf,if_neg Uf,if_neg Uf,if_pos rfl,E];rfl
  ·show(⟨_,_,_,_,z.map qi,_,_,_,_⟩:St)=_;rw[G];rfl
 ·have ha:pk A i ((2,Paa x.n,x.n)::[]):=ha;obtain⟨E,G,H,I⟩:=ha.head;refine⟨{ y with n:=x.n },?_,rfl⟩;unfold Rk Gi;rw[if_neg Uf,if_neg Uf,if_neg Uf,if_neg Uf,if_pos ⟨E,G⟩,I,if_pos (by exact h)];rfl
theorem qG(c:UInt8)(cs:List UInt8)(x y z:St)(h:Zh z=qz [c] x y):qz (c::cs) x y=qz cs x z:=by
 unfold Zh qz at h;injection h with I E G H h5 h6 J L M;unfold qz;simp only[Aaa,sca,or_false]at E G H h5 h6;simp only[Aaa];have A:∀ {α:Type} (d:UInt8) (a b q:α),(q=if d=c then a else b)→(if d=c∨d∈cs then a else b)=(if d∈cs then a else q):=by
  intro α d a b q hq;subst hq;by_cases e1:d=c;·simp[e1]
  ·simp[e1]
 rw[A 114 x.reg y.reg _ E,A 110 x.name y.name _ G,A 101 _ _ _ H,A 102 _ _ _ h5,A 107 x.n y.n _ h6,← I,← J,← L]
theorem SI{A:List xh}{i n:Nat}{U:List T3}(ha:pk A i (ws n++U)):zm A n i = .inl ((),i+(ws n).length):=by
 unfold zm;unfold ws at ha ⊢;by_cases E:n=0;·rw[if_pos E,if_pos E];rfl
 ·rw[if_neg E]at ha ⊢;rw[if_neg E];unfold Oh;by_cases G:n=1;·rw[if_pos G]at ha ⊢;rw[if_pos G,if_pos (vj ha)];rfl
  ·rw[if_neg G]at ha ⊢;rw[if_neg G,if_pos (vj ha)];rfl
theorem Uq{A:List xh}{i:Nat}{s:List UInt8}{U:List T3}(h:pk A i ((3,s,0)::U))(J:∀ n,n<5→∀ op∈Rh n,sg op≠s):Kx A i:=fun n I=>by
 by_cases E:opAt n A i=0;·exact E
 ·obtain⟨H,G⟩:=Lk E;rw[Tk h (fun e=>J n I _ H e.symm)]at G;cases G
theorem NE:∀ s∈([[59],[44],[123],[61]]:List (List UInt8)),∀ n,n<5→∀ op∈Rh n,sg op≠s:=by decide
theorem Cw{E:List xh}{x:St}{U:List T3}(O:∀ j,pk E j U→Kx E j):∀ (cs:List UInt8) (n i:Nat) (y:St),(∀ c∈cs,Vr x c)→pk E i (io x cs n++U)→∃ z,Hi E cs n y i = .inl (z,i+(io x cs n).length)∧Zh z=qz cs x y
 | [],n,i,y,_,_=>⟨y,rfl,by unfold qz Zh;simp⟩
 |c::r,n,i,y,h,ha=>by
  have I:pk E i (ws n++(Jo x c++(io x r (n+1)++U))):=by
   have e:io x (c::r) n++U=ws n++(Jo x c++(io x r (n+1)++U)):=by rw[io];simp
   rw[← e];exact ha
  have hs:=SI I;have J:=I.right;have G:=J.right;have H:Kx E (i+(ws n).length+(Jo x c).length):=by
   cases r with
   |nil=>exact O _ G
   |cons d M =>
    have A:pk E (i+(ws n).length+(Jo x c).length) (ws (n+1)++(Jo x d++(io x M (n+1+1)++U))):=by
     have e:io x (d::M) (n+1)++U=ws (n+1)++(Jo x d++(io x M (n+1+1)++U)):=by rw[io];simp
     rw[← e];exact G
    generalize i+(ws n).length+(Jo x c).length=j at A;unfold ws at A;rw[if_neg (Nat.succ_ne_zero n)]at A;by_cases L:n+1=1;·rw[if_pos L]at A;exact Uq (s:=[61]) A (NE _ Uf)
    ·rw[if_neg L]at A;exact Uq (s:=[44]) A (NE _ Uf)
  obtain⟨z,L,Q⟩:=XG (y:=y) (h c Yf) J.left H;obtain⟨z2,Y,Z⟩:=Cw O r (n+1) _ z (fun c hc=>h c (by simp[hc])) G;refine⟨z2,?_,by rw[Z,qG c r x y z Q]⟩;unfold Hi;rw[hs];simp only;rw[L];simp only;rw[Y,io];simp only[xaa,qca]
theorem QI{x:St}(h:Pk x)(p:Int):qz (Gh x.kind.toNat) x { Vh with kind:=x.kind,pos:=p } = { Zh x with body:=0,els:=0 }:=by
 have O:=h.k1;have E:∀ c,c≠98→c ∉ Gh x.kind.toNat→jj x c=false:=fun c G A=>by
  cases H:jj x c with
  |false=>rfl
  |true=>exact absurd (KB _ Tf c ((fx x c).1 H) G) A
 have e1:(if 114∈Gh x.kind.toNat then x.reg else [])=x.reg:=by
  split;·rfl
  ·rename_i A;have:=h.r;rw[if_neg (by rw[E 114 Uf A];decide)]at this;exact this.symm
 have I:(if 110∈Gh x.kind.toNat then x.name else [])=x.name:=by
  split;·rfl
  ·rename_i A;have:=h.nm;rw[if_neg (by rw[E 110 Uf A];decide)]at this;exact this.symm
 have J:(if 101∈Gh x.kind.toNat then x.e.map qi else [])=x.e.map qi:=by
  split;·rfl
  ·rename_i A;have:=h.e;rw[if_neg (by rw[E 101 Uf A];decide)]at this;rw[this];rfl
 have L:(if 102∈Gh x.kind.toNat then x.f.map qi else [])=x.f.map qi:=by
  split;·rfl
  ·rename_i A;have:=h.f;rw[if_neg (by rw[E 102 Uf A];decide)]at this;rw[this];rfl
 have M:(if 107∈Gh x.kind.toNat then x.n else 0)=x.n:=by
  split;·rfl
  ·rename_i A;have:=h.t;rw[if_neg (by rw[E 107 Uf A];decide)]at this;exact this.symm
 show(⟨_,_,_,_,_,_,_,_,_⟩:St)=⟨_,_,_,_,_,_,_,_,_⟩;congr 1
theorem UF:∀ k,k≤14→Ai k≠Xk:=by decide
theorem Jl{A:List xh}{x:St}{i:Nat}{U:List T3}(h:Pk x)(hU:∀ j,pk A j U→Kx A j)(ha:pk A i (Yj x++U)):Nh A i=x.kind.toNat∧Qh A i [125]=false∧Qh A i Xk=false∧∀ p,∃ y,Hi A (Gh x.kind.toNat) 0 { Vh with kind:=(x.kind.toNat:Nat),pos:=p } (if x.kind.toNat=1 then i else i+1) = .inl (y,i+(Yj x).length)∧Zh y = { Zh x with body:=0,els:=0 }:=by
 have h0:=h.k0;have h1:=h.k1;have L:((x.kind.toNat:Nat):Int)=x.kind:=by omega
 have G:=fun c Y=>Uo h c Y;have I:=QI h;by_cases M:x.kind=1
 ·have H:x.kind.toNat=1:=by omega
  have Z:Gh x.kind.toNat=[114,101]:=by rw[H];rfl
  have e:Yj x=io x [114,101] 0:=by unfold Yj;rw[if_pos M,Z];rfl
  rw[Z]at G I;rw[Z,if_pos H,e,L];rw[e]at ha;have hr:Hh x.reg=true:=by
   rcases G 114 Yf with⟨_,g⟩|⟨g,_⟩|⟨g,_⟩|⟨g,_⟩|⟨g,_⟩;·exact g
   ·exact Qf
   ·exact Qf
   ·exact Qf
   ·exact Qf
  have E:pk A i ((1,x.reg,0)::(io x [101] 1++U)):=ha;refine⟨?_,Tk E (fun e=>?_),Tk E (fun e=>?_),fun p=>?_⟩
  ·rw[H];unfold Nh;rw[List.find?_eq_none.2 (fun k M=>?_)];·rfl
   ·rw[List.mem_range'_1]at M;rw[Tk E (fun e=>?_)];·decide
    ·have e:x.reg=Ai k:=e;have:=(ap k Tf Tf).2;rw[← e,hr]at this;cases this
  ·have e:x.reg=[125]:=e;rw[e]at hr;exact absurd hr Uf
  ·have e:x.reg=Xk:=e;rw[e]at hr;exact absurd hr Uf
  ·obtain⟨y,O,Q⟩:=Cw hU [114,101] 0 i { Vh with kind:=x.kind,pos:=p } G ha;exact⟨y,O,Q.trans (I p)⟩
 ·have J:2≤x.kind.toNat:=by omega
  obtain⟨hw,hn⟩:=ap x.kind.toNat J Tf;have e:Yj x=(1,Ai x.kind.toNat,0)::io x (Gh x.kind.toNat) 0:=by unfold Yj;rw[if_neg M];rfl
  rw[if_neg Tf,e,L];rw[e]at ha;have E:pk A i ((1,Ai x.kind.toNat,0)::(io x (Gh x.kind.toNat) 0++U)):=ha;obtain⟨b1,b2,b3,b4⟩:=E.head;refine⟨My J Tf ?_,Tk E (fun e=>?_),Tk E (fun e=>UF x.kind.toNat Tf e),fun p=>?_⟩;·rw[Kz b1,b2,b3];simp
  ·have e:Ai x.kind.toNat=[125]:=e;obtain⟨c,r,e2,Y,_⟩:=hw;rw[e]at e2;cases e2;exact absurd Y Uf
  ·obtain⟨y,O,Q⟩:=Cw hU (Gh x.kind.toNat) 0 (i+1) { Vh with kind:=x.kind,pos:=p } G E.tail;refine⟨y,?_,Q.trans (I p)⟩;rw[O,jaa,show i+1+(io x (Gh x.kind.toNat) 0).length=i+((io x (Gh x.kind.toNat) 0).length+1) by omega]
theorem Mv{A:List xh}{d:Nat}{b:Bool}{i j k:Nat}{x y:List St}(H:Qh A i [125]=false)(E:ej (mi A d) b A i = .inl (x,j))(I:Ij (ej (mi A d) b A) A (A.length+1 - j) j = .inl (y,k))(hi:i<A.length):Ij (ej (mi A d) b A) A (A.length+1 - i) i = .inl (x++y,k):=by have G:=Nq (fun b=>Zq A d b) b;have g:=G _ _ _ E;obtain⟨f,J⟩:∃ f,A.length+1 - i=f+1:=⟨A.length - i,by omega⟩;rw[J];unfold Ij;rw[if_neg (by rw[H];decide),E];simp only;rw[Mt G f (A.length+1 - j) j g.2 Tf Tf,I]
theorem JE{A:List xh}{one:Nat→RS (List St)}{i:Nat}(E:Qh A i [125]=true):Ij one A (A.length+1 - i) i = .inl ([],i):=by have:=Zj E;obtain⟨f,G⟩:∃ f,A.length+1 - i=f+1:=⟨A.length - i,by omega⟩;rw[G];unfold Ij;rw[if_pos E]
theorem ut{A:List xh}{d:Nat}{b:Bool}{i k:Nat}{x:List St}(E:Qh A i [123]=true)(G:Ij (ej (mi A d) b A) A (A.length+1 - (i+1)) (i+1) = .inl (x,k))(H:Qh A k [125]=true):mi A (d+1) b i = .inl (x,k+1):=by unfold mi Oh;rw[if_pos E];simp only;rw[G];simp only;rw[if_pos H]
theorem Qm{l:List xh}{i:Nat}{s:List UInt8}{U:List T3}(h:pk l i ((1,s,0)::U)):Qh l i s=true:=by exact kf
theorem Oo{x y:List St}(h:x.map Zh=y.map Zh):x.length=y.length:=by have:=congrArg List.length h;simpa using this
theorem gr{x y:St}{n m:Int}(h:Zh y = { Zh x with body:=0,els:=0 })(I:n=x.body)(hm:m=x.els):Zh { y with body:=n,els:=m } = Zh x:=by unfold Zh at h ⊢;injection h with A E G H h5 h6 J L M;simp only[A,E,G,H,h5,h6,I,hm]
theorem wt{x y:St}(h:Zh y = { Zh x with body:=0,els:=0 }):y.els=0∧y.body=0:=by unfold Zh at h;injection h with G H I J h5 h6 A E L;exact⟨E,A⟩
theorem lu{A:List xh}{U:List T3}:∀ j,pk A j ((3,[59],0)::U)→Kx A j:=fun j h=>Uq h (NE _ Uf)
theorem Bn{A:List xh}{U:List T3}:∀ j,pk A j ((3,[123],0)::U)→Kx A j:=fun j h=>Uq h (NE _ Uf)
theorem bC(q:List UInt8):fA (El++q):=fun c r h=>by cases h;rfl
theorem Pz(q:List UInt8):fA (Np++q):=fun c r h=>by cases h;rfl
theorem ar{A:List UInt8}(h:A.all gi=true):(A++[32,32]).all gi=true:=by rw[List.all_append,h];rfl
theorem CG{b:Bool}{l:List St}{D:Nat}(h:Rd b l D):(∀ x∈l,Pk x)→∃ T:List T3,(∀ rt,rt.all gi=true→∃ t,Ln l rt t∧∀ q,Eh t T q)∧(∀ (A:List xh) (d i:Nat) (U:List T3),D≤d→pk A i (T++((3,[125],0)::U))→∃ l',Ij (ej (mi A d) b A) A (A.length+1 - i) i = .inl (l',i+T.length)∧l'.map Zh=l.map Zh)∧(∀ (A:List xh) (i:Nat) (U:List T3),pk A i (T++((3,[125],0)::U))→Qh A i Xk=false):=by
 induction h with
 |nil=>exact fun _=>⟨[],fun rt _=>⟨[],.nil,fun q=>ul q⟩,fun A d i U _ ha=>⟨[],JE (vj ha),rfl⟩,fun A i U ha=>Tk ha Uf⟩
 | @leaf b x r D ad aT hb he aZ hr ih =>
  intro Y
  obtain⟨T,a5,a6,bh⟩:=ih (fun y hy=>Y y qh)
  have hx:=Y x Yf
  have k0:=hx.k0
  have k1:=hx.k1
  refine⟨Yj x++((3,[59],0)::T),fun rt hrt=>?_,fun A d i U hd ha=>?_,fun A i U ha=>(Jl hx lu (by simpa using ha)).2.2.1⟩
  ·obtain⟨t,Q,ht2⟩:=a5 rt hrt;refine⟨_,.leaf ad aT Q,fun q=>?_⟩;rw[oca,oca];exact Eh.app (T:=[]) (Wi rt _ hrt) (Eh.app (Tp hx (by rw[oca];exact Pz _)) (Eh.app (T:=[(3,[59],0)]) (Sp _) (ht2 q)))
  ·have E:pk A i (Yj x++((3,[59],0)::(T++((3,[125],0)::U)))):=by simpa using ha
   obtain⟨c1,c2,_,c3⟩:=Jl hx lu E;obtain⟨y,c4,c5⟩:=c3 (Ei A i);have G:=E.right;obtain⟨l',c6,c7⟩:=a6 A d _ U hd G.tail;have h1:ej (mi A d) b A i = .inl ([y],i+(Yj x).length+1):=by unfold ej;rw[c1,if_neg (fun g=>by have:=aZ Tf;rw[this]at g;exact absurd g.2 Uf),c4];simp only;rw[if_neg Tf,if_neg Tf];unfold Oh;rw[if_pos (vj G)]
   have hlt:=E.le;refine⟨y::l',?_,?_⟩;·rw[Mv c2 h1 c6 Ug];simp only[xaa,jaa,List.singleton_append];rw[show i+(Yj x).length+1+T.length=i+((Yj x).length+(T.length+1)) by omega]
   ·have hy:Zh y=Zh x:=by have:=gr (n:=y.body) (m:=y.els) c5 ((wt c5).2.trans hb.symm) ((wt c5).1.trans he.symm);exact this
    rw[tca,tca,hy,c7]
 | @ifs b x y z r d1 d2 D ad hb he hy hz hr i1 i2 i3 =>
  intro Y
  obtain⟨T1,af,al,a0⟩:=i1 (fun y hy=>Y y qh)
  obtain⟨T2,a3,a4,bg⟩:=i2 (fun y hy=>Y y qh)
  obtain⟨T3,ao,av,aV⟩:=i3 (fun y hy=>Y y qh)
  have hx:=Y x Yf
  by_cases bf:0<z.length
  ·refine⟨Yj x++((3,[123],0)::(T1++((3,[125],0)::(1,Xk,0)::(3,[123],0)::(T2++((3,[125],0)::T3))))),fun rt hrt=>?_,fun A d i U hd ha=>?_,fun A i U ha=>(Jl hx Bn (by simpa using ha)).2.2.1⟩;·obtain⟨u,Z,hu2⟩:=af _ (ar hrt);obtain⟨v,a9,bb⟩:=a3 _ (ar hrt);obtain⟨t,Q,ht2⟩:=ao rt hrt;refine⟨_,.two ad hb he bf Z a9 Q,fun q=>?_⟩;simp only[oca];refine Eh.app (T:=[]) (Wi rt _ hrt) (Eh.app (Tp hx (by rw[oca];exact bC _)) (Eh.app (T:=[(3,[123],0)]) (pn _) (Eh.app (hu2 _) (Eh.app (T:=[]) (Wi rt _ hrt) (Eh.app (T:=[(3,[125],0),(1,Xk,0),(3,[123],0)]) (rz _) (Eh.app (bb _) (Eh.app (T:=[]) (Wi rt _ hrt) (Eh.app (T:=[(3,[125],0)]) (gp _) (ht2 q)))))))))
   ·have E:pk A i (Yj x++((3,[123],0)::(T1++((3,[125],0)::(1,Xk,0)::(3,[123],0)::(T2++((3,[125],0)::(T3++((3,[125],0)::U)))))))):=by simpa using ha
    obtain⟨I,rfl⟩:∃ I,d=I+1:=⟨d - 1,by omega⟩;obtain⟨c1,c2,_,c3⟩:=Jl hx Bn E;obtain⟨s,c4,c5⟩:=c3 (Ei A i);have G:=E.right;have J:=G.tail;obtain⟨M,a1,a2⟩:=al A I _ _ Tf J;have L:=J.right;have H:=ut (vj G) a1 (vj L);have O:=L.tail;have aW:=O.tail;have aX:=aW.tail;obtain⟨l2,b1,b2⟩:=a4 A I _ _ Tf aX;have aY:=aX.right;have aU:=ut (vj aW) b1 (vj aY);have a7:=aY.tail;obtain⟨l3,e1,e2⟩:=av A (I+1) _ _ Tf a7;have h1:ej (mi A (I+1)) b A i = .inl ({ s with body:=M.length,els:=l2.length } :: (M++l2),i+(Yj x).length+1+T1.length+1+1+1+T2.length+1):=by unfold ej;rw[c1,if_neg Tf,c4];simp only;rw[if_pos Tf,H];simp only;rw[if_pos (Qm O),aU]
    have hlt:=E.le;refine⟨{ s with body:=M.length,els:=l2.length } :: (M++l2)++l3,?_,?_⟩;·rw[Mv c2 h1 e1 Ug];simp only[xaa,jaa];rw[show i+(Yj x).length+1+T1.length+1+1+1+T2.length+1+T3.length=i+((Yj x).length+(T1.length+(T2.length+(T3.length+1)+1+1+1)+1)) by omega]
    ·have hs:Zh { s with body:=M.length,els:=l2.length } = Zh x:=gr c5 (by rw[Oo a2,hb]) (by rw[Oo b2,he]);simp only[Kaa,tca,Zaa,hs,a2,b2,e2,oca]
  ·obtain rfl:z=[]:=pca Tf;refine⟨Yj x++((3,[123],0)::(T1++((3,[125],0)::T3))),fun rt hrt=>?_,fun A d i U hd ha=>?_,fun A i U ha=>(Jl hx Bn (by simpa using ha)).2.2.1⟩;·obtain⟨u,Z,hu2⟩:=af _ (ar hrt);obtain⟨t,Q,ht2⟩:=ao rt hrt;refine⟨_,.one (.inl ad) hb he Z Q,fun q=>?_⟩;exact Sa
   ·have E:pk A i (Yj x++((3,[123],0)::(T1++((3,[125],0)::(T3++((3,[125],0)::U)))))):=by simpa using ha
    obtain⟨I,rfl⟩:∃ I,d=I+1:=⟨d - 1,by omega⟩;obtain⟨c1,c2,_,c3⟩:=Jl hx Bn E;obtain⟨s,c4,c5⟩:=c3 (Ei A i);have G:=E.right;have J:=G.tail;obtain⟨M,a1,a2⟩:=al A I _ _ Tf J;have L:=J.right;have H:=ut (vj G) a1 (vj L);have O:=L.tail;obtain⟨l3,e1,e2⟩:=av A (I+1) _ _ Tf O;have a8:Qh A ((i+(Yj x).length+1+T1.length+1:Nat):Int) Xk=false:=by exact aV A _ _ O
    have h1:ej (mi A (I+1)) b A i = .inl ({ s with body:=M.length } :: M,i+(Yj x).length+1+T1.length+1):=by unfold ej;rw[c1,if_neg Tf,c4];simp only;rw[if_pos Tf,H];simp only;rw[if_neg (by rw[a8];decide)]
    have hlt:=E.le;refine⟨{ s with body:=M.length } :: M++l3,?_,?_⟩;·exact ob
    ·have hs:Zh { s with body:=M.length } = Zh x:=gr c5 (by rw[Oo a2,hb]) ((wt c5).1.trans (by simpa using he.symm));simp only[Kaa,tca,Zaa,hs,a2,e2,List.nil_append]
 | @loop b x y r d1 D aT hb he hy hr i1 i2 =>
  intro Y
  obtain⟨T1,af,al,a0⟩:=i1 (fun y hy=>Y y qh)
  obtain⟨T3,ao,av,aV⟩:=i2 (fun y hy=>Y y qh)
  have hx:=Y x Yf
  refine⟨Yj x++((3,[123],0)::(T1++((3,[125],0)::T3))),fun rt hrt=>?_,fun A d i U hd ha=>?_,fun A i U ha=>(Jl hx Bn (by simpa using ha)).2.2.1⟩
  ·obtain⟨u,Z,hu2⟩:=af _ (ar hrt);obtain⟨t,Q,ht2⟩:=ao rt hrt;refine⟨_,.one (.inr aT) hb he Z Q,fun q=>?_⟩;exact Sa
  ·have E:pk A i (Yj x++((3,[123],0)::(T1++((3,[125],0)::(T3++((3,[125],0)::U)))))):=by simpa using ha
   obtain⟨I,rfl⟩:∃ I,d=I+1:=⟨d - 1,by omega⟩;obtain⟨c1,c2,_,c3⟩:=Jl hx Bn E;obtain⟨s,c4,c5⟩:=c3 (Ei A i);have G:=E.right;have J:=G.tail;obtain⟨M,a1,a2⟩:=al A I _ _ Tf J;have L:=J.right;have H:=ut (vj G) a1 (vj L);have O:=L.tail;obtain⟨l3,e1,e2⟩:=av A (I+1) _ _ Tf O;have h1:ej (mi A (I+1)) b A i = .inl ({ s with body:=M.length } :: M,i+(Yj x).length+1+T1.length+1):=by unfold ej;rw[c1,if_neg Tf,c4];simp only;rw[if_neg Tf,if_pos Tf,H]
   have hlt:=E.le;refine⟨{ s with body:=M.length } :: M++l3,?_,?_⟩;·exact ob
   ·have hs:Zh { s with body:=M.length } = Zh x:=gr c5 (by rw[Oo a2,hb]) ((wt c5).1.trans he.symm);simp only[Kaa,tca,Zaa,hs,a2,e2]
theorem mq{l:List xh}(h:∀ t∈l,Fi 4000 t){i:Nat}{x:List Kh}{j:Nat}(hr:Ri l i = .inl (x,j)):Fh x=true:=by obtain⟨_,_,e,H,rfl,G,E,A⟩:=Mj hr;exact(aJ H ((nt h (aaa _) (yw h (aaa _) 12) 5).1 i e j G) E A).1
structure bP (cs:List UInt8) (x y:St):Prop where
 r:if 114∈cs then Hh y.reg=true else y.reg=x.reg
 nm:if 110∈cs then Hh y.name=true else y.name=x.name
 e:if 101∈cs then Fh y.e=true else y.e=x.e
 f:if 102∈cs then Fh y.f=true else y.f=x.f
 t:if 107∈cs then 1≤y.n∧y.n≤8 else y.n=x.n
theorem pK{l:List xh}(h:∀ t∈l,Fi 4000 t){c:UInt8}(H:c=114∨c=110∨c=101∨c=102∨c=107){x y:St}{i j:Nat}(hr:Rk l c x i = .inl (y,j)):bP [c] x y:=by
 unfold Rk at hr;rcases H with rfl|rfl|rfl|rfl|rfl
 ·rw[if_pos rfl]at hr;cases A:Th l i with
  |inr e=>rw[A]at hr;cases hr
  |inl q =>obtain⟨s,k⟩:=q;rw[A]at hr;cases hr;obtain⟨_,_,G,E,_⟩:=Si A;exact⟨by rw[if_pos Uf];rw[E];exact G,by rw[if_neg Uf],by rw[if_neg Uf],by rw[if_neg Uf],by rw[if_neg Uf]⟩
 ·rw[if_neg Uf,if_pos rfl]at hr;cases A:Th l i with
  |inr e=>rw[A]at hr;cases hr
  |inl q =>obtain⟨s,k⟩:=q;rw[A]at hr;cases hr;obtain⟨_,_,G,E,_⟩:=Si A;exact⟨by rw[if_neg Uf],by rw[if_pos Uf];rw[E];exact G,by rw[if_neg Uf],by rw[if_neg Uf],by rw[if_neg Uf]⟩
 ·rw[if_neg Uf,if_neg Uf,if_pos rfl]at hr;cases A:Ri l i with
  |inr e=>rw[A]at hr;cases hr
  |inl q =>obtain⟨s,k⟩:=q;rw[A]at hr;cases hr;exact⟨by rw[if_neg Uf],by rw[if_neg Uf],by rw[if_pos Uf];exact mq h A,by rw[if_neg Uf],by rw[if_neg Uf]⟩
 ·rw[if_neg Uf,if_neg Uf,if_neg Uf,if_pos rfl]at hr;cases A:Ri l i with
  |inr e=>rw[A]at hr;cases hr
  |inl q =>obtain⟨s,k⟩:=q;rw[A]at hr;cases hr;exact⟨by rw[if_neg Uf],by rw[if_neg Uf],by rw[if_neg Uf],by rw[if_pos Uf];exact mq h A,by rw[if_neg Uf]⟩
 ·rw[if_neg Uf,if_neg Uf,if_neg Uf,if_neg Uf]at hr;cases A:Gi l i with
  |inr e=>rw[A]at hr;cases hr
  |inl q =>obtain⟨s,k⟩:=q;rw[A]at hr;cases hr;obtain⟨_,_,_,E,h5,_⟩:=Ql A;exact⟨by rw[if_neg Uf],by rw[if_neg Uf],by rw[if_neg Uf],by rw[if_neg Uf],by rw[if_pos Uf];exact⟨E,h5⟩⟩
theorem it{p q:Prop}[Decidable p][Decidable q]{α:Type}{P:α→Prop}{a b c:α}(A:if p then P b else b=a)(E:if q then P c else c=b):if p∨q then P c else c=a:=by
 by_cases hq:q;·rw[if_pos hq]at E;rw[if_pos (.inr hq)];exact E
 ·rw[if_neg hq]at E;subst E;by_cases G:p;·rw[if_pos G]at A;rw[if_pos (.inl G)];exact A
  ·rw[if_neg G]at A;rw[if_neg (by simp[G,hq])];exact A
theorem bP.cons{c:UInt8}{cs:List UInt8}{x y z:St}(h:bP [c] x y)(g:bP cs y z):bP (c::cs) x z:=by
 obtain⟨A,E,G,H,h5⟩:=h;obtain⟨I,J,L,M,O⟩:=g;simp only[Aaa,sca,or_false]at A E G H h5;refine⟨?_,?_,?_,?_,?_⟩<;>simp only[Aaa];·exact it (P:=fun s=>Hh s=true) A I
 ·exact it (P:=fun s=>Hh s=true) E J
 ·exact it (P:=fun s=>Fh s=true) G L
 ·exact it (P:=fun s=>Fh s=true) H M
 ·exact it (P:=fun n:Int=>1≤n∧n≤8) h5 O
theorem Py{l:List xh}(h:∀ t∈l,Fi 4000 t):∀ (cs:List UInt8) (n:Nat) (x y:St) (i j:Nat),(∀ c∈cs,c=114∨c=110∨c=101∨c=102∨c=107)→Hi l cs n x i = .inl (y,j)→bP cs x y
 | [],n,x,y,i,j,_,hr=>by unfold Hi at hr;cases hr;exact⟨by simp,by simp,by simp,by simp,by simp⟩
 |c::r,n,x,y,i,j,E,hr=>by
  unfold Hi at hr
  cases ha:zm l n i with
  |inr e=>rw[ha]at hr;cases hr
  |inl q =>
   obtain⟨u,k⟩:=q
   rw[ha]at hr
   simp only at hr
   cases A:Rk l c x k with
   |inr e=>rw[A]at hr;cases hr
   |inl H =>obtain⟨z,G⟩:=H;rw[A]at hr;simp only at hr;exact(pK h (E c Yf) A).cons (Py h r (n+1) z y G j (fun c hm=>E c (by simp[hm])) hr)
theorem mJ{l:List xh}(h:∀ t∈l,Fi 4000 t)(i:Nat):0≤Ei l i∧Ei l i≤4000:=by
 unfold Ei;split;·rename_i hi;have:=Aw h hi;omega
 ·exact⟨uca _,by decide⟩
theorem CH{l:List xh}(h:∀ t∈l,Fi 4000 t){i J j:Nat}{y:St}(hr:Hi l (Gh (Nh l i)) 0 { Vh with kind:=Nh l i,pos:=Ei l i } J = .inl (y,j))(n m:Int):Pk { y with body:=n,els:=m }∧y.kind=Nh l i∧y.body=0∧y.els=0:=by
 have I:=Ul l i;have M:=mJ h i;obtain⟨_,_,G,_⟩:=Wn hr;have E:=Py h _ _ _ _ _ _ (fun c A=>(Yn _ I.2 c A).2) hr;have e1:y.kind=(Nh l i:Nat):=G.kind;have L:y.pos=Ei l i:=G.pos;have hm:∀ c,c≠98→(jj { y with body:=n,els:=m } c=true ↔ c∈Gh (Nh l i)):=fun c H=>by rw[fx];show c∈Ii y.kind.toNat ↔ _;rw[e1,saa];exact⟨fun A=>KB _ I.2 c A H,fun A=>(Yn _ I.2 c A).1⟩
 refine⟨⟨by show 1≤y.kind;omega,by show y.kind≤14;omega,by show 0≤y.pos;omega,by show y.pos≤4000;omega,?_,?_,?_,?_,?_⟩,e1,G.body,G.els⟩;·simp only[hm 114 Uf];exact E.r
 ·simp only[hm 110 Uf];exact E.nm
 ·simp only[hm 101 Uf];exact E.e
 ·simp only[hm 102 Uf];exact E.f
 ·simp only[hm 107 Uf];exact E.t
def mL(l:List xh)(d:Nat):Prop:=∀ b i x j,mi l d b i = .inl (x,j)→(∀ y∈x,Pk y)∧∃ D,D+1≤d∧Rd b x D
theorem lH{l:List xh}(h:∀ t∈l,Fi 4000 t){d:Nat}(M:mL l d){b:Bool}{i:Nat}{x:List St}{j:Nat}(hr:ej (mi l d) b l i = .inl (x,j)):(∀ y∈x,Pk y)∧∃ D,D≤d∧Rd b x D:=by
 unfold ej at hr;by_cases H:Nh l i=13∧b=false;·rw[if_pos H]at hr;cases hr
 ·rw[if_neg H]at hr;cases O:Hi l (Gh (Nh l i)) 0 { Vh with kind:=Nh l i,pos:=Ei l i } (if Nh l i=1 then i else i+1)with
  |inr e=>rw[O]at hr;cases hr
  |inl q =>
   obtain⟨y,k⟩:=q;rw[O]at hr;simp only at hr;have hf:=CH h O;by_cases E:Nh l i=11
   ·rw[if_pos E]at hr;cases A:mi l d b k with
    |inr e=>rw[A]at hr;cases hr
    |inl q1 =>
     obtain⟨y1,k1⟩:=q1;rw[A]at hr;simp only at hr;obtain⟨f1,I,Y,J⟩:=M _ _ _ _ A;split at hr
     ·cases L:mi l d b (k1+1)with
      |inr e=>rw[L]at hr;cases hr
      |inl Z =>
       obtain⟨y2,k2⟩:=Z;rw[L]at hr;obtain⟨f2,Q,l2,r2⟩:=M _ _ _ _ L;cases hr;refine⟨fun z hz=>?_,max 0 (max (I+1) (Q+1)),by omega,?_⟩
       ·simp only[Aaa,vca]at hz;rcases hz with rfl|hz|hz;·exact(hf _ _).1
        ·exact f1 z hz
        ·exact f2 z hz
       ·have:=Rd.ifs (b:=b) (x:={ y with body:=y1.length,els:=y2.length }) (by show y.kind=11;rw[(hf 0 0).2.1,E];rfl) rfl rfl J r2 .nil;rw[Maa]at this;exact this
     ·cases hr;refine⟨fun z hz=>?_,max 0 (max (I+1) (0+1)),by omega,?_⟩;·exact Uc
      ·have:=Rd.ifs (b:=b) (x:={ y with body:=y1.length }) (z:=[]) (by show y.kind=11;rw[(hf 0 0).2.1,E];rfl) rfl (hf 0 0).2.2.2 J .nil .nil;rw[Maa,Maa]at this;exact this
   ·rw[if_neg E]at hr;by_cases G:Nh l i=12
    ·rw[if_pos G]at hr;cases A:mi l d true k with
     |inr e=>rw[A]at hr;cases hr
     |inl q1 =>
      obtain⟨y1,k1⟩:=q1;rw[A]at hr;obtain⟨f1,I,Y,J⟩:=M _ _ _ _ A;cases hr;refine⟨fun z hz=>?_,max 0 (I+1),by omega,?_⟩;·exact Uc
      ·have:=Rd.loop (b:=b) (x:={ y with body:=y1.length }) (by show y.kind=12;rw[(hf 0 0).2.1,G];rfl) rfl (hf 0 0).2.2.2 J .nil;rw[Maa]at this;exact this
    ·rw[if_neg G]at hr;cases A:Oh l [59] k with
     |inr e=>rw[A]at hr;cases hr
     |inl q1 =>
      obtain⟨u,k1⟩:=q1;rw[A]at hr;cases hr;refine⟨fun z hz=>?_,0,laa _,?_⟩;·simp only[Aaa,sca,or_false]at hz;subst hz;have:=(hf z.body z.els).1;exact this
      ·refine .leaf (by rw[(hf 0 0).2.1];omega) (by rw[(hf 0 0).2.1];omega) (hf 0 0).2.2.1 (hf 0 0).2.2.2 (fun e=>?_) .nil;rw[(hf 0 0).2.1]at e;cases b with
       |true=>rfl
       |false=>exact absurd ⟨by omega,rfl⟩ H
theorem Kt{l:List xh}(h:∀ t∈l,Fi 4000 t){d:Nat}(H:mL l d){b:Bool}:∀ (g i:Nat) (x:List St) (j:Nat),Ij (ej (mi l d) b l) l g i = .inl (x,j)→(∀ y∈x,Pk y)∧∃ D,D≤d∧Rd b x D
 |0,i,x,j,hr=>by unfold Ij at hr;cases hr;exact⟨(fun y G=>by cases G),0,laa _,.nil⟩
 |g+1,i,x,j,hr=>by
  unfold Ij at hr;split at hr;·cases hr;exact⟨(fun y G=>by cases G),0,laa _,.nil⟩
  ·cases A:ej (mi l d) b l i with
   |inr e=>rw[A]at hr;cases hr
   |inl q =>
    obtain⟨y,k⟩:=q
    rw[A]at hr
    simp only at hr
    cases E:Ij (ej (mi l d) b l) l g k with
    |inr e=>rw[E]at hr;cases hr
    |inl M =>obtain⟨z,Y⟩:=M;rw[E]at hr;cases hr;obtain⟨f1,I,Z,O⟩:=lH h H A;obtain⟨f2,J,l2,Q⟩:=Kt h H g k z _ E;exact⟨fun u L=>(vca.1 L).elim (f1 u) (f2 u),max I J,by omega,O.app Q⟩
theorem cz{l:List xh}(h:∀ t∈l,Fi 4000 t):∀ d,mL l d
 |0,b,i,x,j,hr=>by unfold mi at hr;split at hr<;>cases hr
 |d+1,b,i,x,j,hr=>by
  unfold mi at hr
  cases E:Oh l [123] i with
  |inr e=>rw[E]at hr;cases hr
  |inl q =>
   obtain⟨u,k⟩:=q
   rw[E]at hr
   simp only at hr
   cases A:Ij (ej (mi l d) b l) l (l.length+1 - k) k with
   |inr e=>rw[A]at hr;cases hr
   |inl I =>
    obtain⟨z,H⟩:=I
    rw[A]at hr
    simp only at hr
    cases G:Oh l [125] H with
    |inr e=>rw[G]at hr;cases hr
    |inl J =>obtain⟨u3,L⟩:=J;rw[G]at hr;cases hr;obtain⟨f,D,M,r⟩:=Kt h (cz h d) _ _ _ _ A;exact⟨f,D,by omega,r⟩
def Tm{α:Type}(n:Nat)(f:Nat→RS α):Prop:=∀ i e p,f i = .inr (e,p)→¬ e=0∧0≤p∧p≤n
theorem zt{l:List xh}{n:Nat}(h:∀ t∈l,Fi n t)(I:n≤4000){i:Nat}{k e p:Int}(H:1≤k)(hr:cj l i k=(e,p)):¬ e=0∧0≤p∧p≤n:=by
 have A:=Zl l i k H;have E:=pp h I i;rw[hr]at A;have G:p=Ch l i:=by have:=congrArg Prod.snd hr;exact this.symm
 simp only at A;rw[G];exact⟨by omega,E.1,E.2⟩
theorem Km{l:List xh}{n:Nat}(h:∀ t∈l,Fi n t)(hn:n≤4000)(s:List UInt8):Tm n (Oh l s):=fun i e p hr=>by unfold Oh at hr;exact Vd
theorem Us{l:List xh}{n:Nat}(h:∀ t∈l,Fi n t)(hn:n≤4000):Tm n (Th l):=fun i e p hr=>by unfold Th at hr;exact Vd
theorem mD{l:List xh}{n:Nat}(h:∀ t∈l,Fi n t)(hn:n≤4000):Tm n (Gi l):=fun i e p hr=>by
 unfold Gi at hr;split at hr;·exact Vd
 ·exact Cf
theorem ox{l:List xh}{n:Nat}(h:∀ t∈l,Fi n t)(A:n≤4000):Tm n (Ri l):=fun i e p hr=>by
 obtain⟨H,L,I⟩:=Wq hr
 refine⟨H,?_⟩
 rw[← I]
 have J:ij l i=match Dj (ti l 12) l 5 i with
   | .inr (e,p)=>([],0,e,p)
   | .inl (x,t)=>if 12<x.deep then ([],0,7,(tk l i).pos)else if 40<x.flat.length then ([],0,2,(tk l i).pos)else (x.flat,(t:Int),0,0):=by
  unfold ij;rw[if_neg Tf];rfl
 rw[J]
 cases E:Dj (ti l 12) l 5 i with
 |inr q =>
  obtain⟨a,c⟩:=q
  obtain⟨j,rfl⟩:=(nt h A (yw h A 12) 5).2 _ _ _ E
  exact pp h A j
 |inl q =>
  obtain⟨x,t⟩:=q
  have M:=(Nk (Kk l 12) 5).good _ _ _ E
  have G:=Aw h (show i<l.length by omega)
  simp only
  split
  ·exact G
  ·split;·exact G
   ·exact⟨uca _,Int.natCast_nonneg _⟩
theorem zJ{l:List xh}{n:Nat}(h:∀ t∈l,Fi n t)(A:n≤4000)(c:UInt8)(x:St):Tm n (Rk l c x):=fun i e p hr=>by
 unfold Rk at hr;split at hr
 ·cases hq:Th l i with
  |inl q=>rw[hq]at hr;cases hr
  |inr q=>obtain⟨a,c⟩:=q;rw[hq]at hr;cases hr;exact Us h A _ _ _ hq
 ·split at hr
  ·cases hq:Th l i with
   |inl q=>rw[hq]at hr;cases hr
   |inr q=>obtain⟨a,c⟩:=q;rw[hq]at hr;cases hr;exact Us h A _ _ _ hq
  ·split at hr
   ·cases hq:Ri l i with
    |inl q=>rw[hq]at hr;cases hr
    |inr q=>obtain⟨a,c⟩:=q;rw[hq]at hr;cases hr;exact ox h A _ _ _ hq
   ·split at hr
    ·cases hq:Ri l i with
     |inl q=>rw[hq]at hr;cases hr
     |inr q=>obtain⟨a,c⟩:=q;rw[hq]at hr;cases hr;exact ox h A _ _ _ hq
    ·cases hq:Gi l i with
     |inl q=>rw[hq]at hr;cases hr
     |inr q=>obtain⟨a,c⟩:=q;rw[hq]at hr;cases hr;exact mD h A _ _ _ hq
theorem vy{l:List xh}{n:Nat}(h:∀ t∈l,Fi n t)(A:n≤4000):∀ (cs:List UInt8) (m:Nat) (x:St),Tm n (Hi l cs m x)
 | [],m,x,i,e,p,hr=>by unfold Hi at hr;cases hr
 |c::r,m,x,i,e,p,hr=>by
  unfold Hi at hr
  cases ha:zm l m i with
  |inr q =>
   obtain⟨a,c⟩:=q;rw[ha]at hr;cases hr;unfold zm at ha;split at ha;·cases ha
   ·exact Km h A _ _ _ _ ha
  |inl q =>
   obtain⟨u,k⟩:=q
   rw[ha]at hr
   simp only at hr
   cases E:Rk l c x k with
   |inr G=>obtain⟨a,c⟩:=G;rw[E]at hr;cases hr;exact zJ h A _ _ _ _ _ E
   |inl G =>obtain⟨z,H⟩:=G;rw[E]at hr;simp only at hr;exact vy h A r (m+1) z H e p hr
theorem KJ{l:List xh}{n:Nat}(h:∀ t∈l,Fi n t)(hn:n≤4000){A:Bool→Nat→RS (List St)}(H:∀ b,Tm n (A b))(b:Bool):Tm n (ej A b l):=fun i e p hr=>by
 unfold ej at hr;split at hr;·exact Cf
 ·cases I:Hi l (Gh (Nh l i)) 0 { Vh with kind:=Nh l i,pos:=Ei l i } (if Nh l i=1 then i else i+1)with
  |inr q=>obtain⟨a,c⟩:=q;rw[I]at hr;cases hr;exact vy h hn _ _ _ _ _ _ I
  |inl q =>
   obtain⟨y,k⟩:=q;rw[I]at hr;simp only at hr;split at hr
   ·cases E:A b k with
    |inr q1=>obtain⟨a,c⟩:=q1;rw[E]at hr;cases hr;exact H _ _ _ _ E
    |inl q1 =>
     obtain⟨L,k1⟩:=q1;rw[E]at hr;simp only at hr;split at hr
     ·cases G:A b (k1+1)with
      |inr J=>obtain⟨a,c⟩:=J;rw[G]at hr;cases hr;exact H _ _ _ _ G
      |inl J=>obtain⟨O,M⟩:=J;rw[G]at hr;cases hr
     ·cases hr
   ·split at hr
    ·cases E:A true k with
     |inr q1=>obtain⟨a,c⟩:=q1;rw[E]at hr;cases hr;exact H _ _ _ _ E
     |inl q1=>obtain⟨L,k1⟩:=q1;rw[E]at hr;cases hr
    ·cases E:Oh l [59] k with
     |inr q1=>obtain⟨a,c⟩:=q1;rw[E]at hr;cases hr;exact Km h hn _ _ _ _ E
     |inl q1=>obtain⟨L,k1⟩:=q1;rw[E]at hr;cases hr
theorem XC{l:List xh}{n:Nat}{one:Nat→RS (List St)}(H:Tm n one):∀ g,Tm n (Ij one l g)
 |0,i,e,p,hr=>by unfold Ij at hr;cases hr
 |g+1,i,e,p,hr=>by
  unfold Ij at hr;split at hr;·cases hr
  ·cases A:one i with
   |inr q=>obtain⟨a,c⟩:=q;rw[A]at hr;cases hr;exact H _ _ _ A
   |inl q =>
    obtain⟨y,k⟩:=q
    rw[A]at hr
    simp only at hr
    cases E:Ij one l g k with
    |inr G=>obtain⟨a,c⟩:=G;rw[E]at hr;cases hr;exact XC H g _ _ _ E
    |inl G=>obtain⟨z,I⟩:=G;rw[E]at hr;cases hr
theorem ZK{l:List xh}{n:Nat}(h:∀ t∈l,Fi n t)(hn:n≤4000):∀ d b,Tm n (mi l d b)
 |0,b,i,e,p,hr=>by
  unfold mi at hr;split at hr;·injection hr with hr;have:=pp h hn i;injection hr with A E;subst A E;exact⟨by decide,this.1,this.2⟩
  ·exact Cf
 |d+1,b,i,e,p,hr=>by
  unfold mi at hr
  cases A:Oh l [123] i with
  |inr q=>obtain⟨a,c⟩:=q;rw[A]at hr;cases hr;exact Km h hn _ _ _ _ A
  |inl q =>
   obtain⟨u,k⟩:=q
   rw[A]at hr
   simp only at hr
   cases E:Ij (ej (mi l d) b l) l (l.length+1 - k) k with
   |inr H=>obtain⟨a,c⟩:=H;rw[E]at hr;cases hr;exact XC (KJ h hn (fun b=>ZK h hn d b) b) _ _ _ _ E
   |inl H =>
    obtain⟨z,J⟩:=H
    rw[E]at hr
    simp only at hr
    cases G:Oh l [125] J with
    |inr I=>obtain⟨a,c⟩:=I;rw[G]at hr;cases hr;exact Km h hn _ _ _ _ G
    |inl I=>obtain⟨u3,L⟩:=I;rw[G]at hr;cases hr
def ji(b:Bool)(x y:St):Bool:=(x.kind==y.kind)&&(x.reg==y.reg)&&(x.name==y.name)&&(x.n==y.n)&&(x.body==y.body)&&(x.els==y.els)&&(!b||(x.pos==y.pos))&&tj b x.e y.e&&tj b x.f y.f
def Qk(b:Bool):List St→List St→Bool
 | [],[]=>true
 |x::l,y::m=>ji b x y&&Qk b l m
 |_,_=>false
theorem LA{x y:St}(h:Zh x=Zh y):ji false x y=true:=by unfold Zh at h;injection h with A E G H h5 h6 I J L;unfold ji;rw[A,E,G,h6,I,J,np _ _ H,np _ _ h5];simp
theorem dw:∀ {l m:List St},l.map Zh=m.map Zh→Qk false l m=true
 | [],[],_=>rfl
 |x::l,[],h=>by cases h
 | [],y::m,h=>by cases h
 |x::l,y::m,h=>by rw[tca,tca]at h;injection h with A E;unfold Qk;rw[LA A,dw E];rfl
end Go.Proofs.YtjcihcncljihoaaGreatDoor

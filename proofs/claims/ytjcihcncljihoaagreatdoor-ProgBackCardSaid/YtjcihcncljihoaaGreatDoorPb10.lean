/- Chapter 05 (programs), joined: PrgA, StmPlH, StmPlI, PrgB, PrgM, PgpA, PgpB, StmJ, StmK. -/
import Derived.Test.YtjcihcncljihoaaGreatDoorPb09
set_option maxRecDepth 100000
set_option maxHeartbeats 4000000
namespace Go.Proofs.YtjcihcncljihoaaGreatDoor
open Go Go.RowKit
set_option linter.unusedVariables false
open Iff renaming rfl→Fca
open Int renaming toNat_natCast→saa
open List renaming getD_eq_getElem?_getD→faa,getLast?_eq_getElem?→Eca
open Nat renaming le_trans→yba
theorem vd{P:Prop}(h:P:=by rw[List.getD_eq_getElem?_getD,List.getElem?_eq_none (by show 15≤_;omega)];exact Nat.zero_le _):P:=h
theorem ag{P:Prop}(h:P:=by simp only[List.length_append,List.length_cons,List.length_nil];omega):P:=h
theorem Qg{P:Prop}(h:P:=by simp[hz]):P:=h
theorem nh{P:Prop}(h:P:=by rw[List.length_drop];exact h):P:=h
structure Um (k:Nat) (l l':List xh):Prop where
 len:l'.length=l.length
 gt:k < l.length
 at_:∀ i,k≤i→l'[i]? = l[i]?
theorem Um.isA{k:Nat}{l l':List xh}(A:Um k l l'){i:Nat}(h:k≤i)(s:List UInt8):Qh l' i s=Qh l i s:=by unfold Qh;rw[saa,A.at_ i h]
theorem Um.tkA{k:Nat}{l l':List xh}(A:Um k l l'){i:Nat}(h:k≤i):tk l' i=tk l i:=by unfold tk;rw[faa,A.at_ i h,← faa]
theorem Um.plA{k:Nat}{l l':List xh}(A:Um k l l'){i:Nat}(h:k≤i):Ch l' i=Ch l i:=by have:=A.gt;unfold Ch;rw[A.len,saa,faa,faa,A.at_ i h,Eca,Eca,A.len,A.at_ (l.length - 1) Tf]
theorem Mr{l:List xh}{i:Nat}(h:l.length≤i):Ch l i=Ch l l.length:=by unfold Ch;rw[if_neg Tf,if_neg Tf]
structure Loc (k:Nat) (l:List xh) {α:Type} (f f':Nat→RS α):Prop where
 eq:∀ i,k≤i→f' i=f i
 six:∀ i e p,f i = .inr (e,p)→¬ e=0∧(e=6→p=Ch l l.length)
 fw:∀ i x j,f i = .inl (x,j)→i≤j
section
variable {k : Nat} {l l' : List xh} {α β : Type}
theorem Loc.of{F F' G A:Nat→RS β}(h:Loc k l F F')(H:∀ i,G i=F i)(I:∀ i,A i=F' i):Loc k l G A:=by have e1:G=F:=funext H;have E:A=F':=funext I;rw[e1,E];exact h
theorem Loc.bind{f f':Nat→RS α}{g g':α→Nat→RS β}(h:Loc k l f f')(G:∀ x,Loc k l (g x) (g' x)):Loc k l (fun i=>Sum.elim (fun p=>g p.1 p.2) .inr (f i)) (fun i=>Sum.elim (fun p=>g' p.1 p.2) .inr (f' i)):=by
 constructor
 ·intro i hi;rw[h.eq i hi];cases E:f i with
  |inr e=>rfl
  |inl r=>exact(G r.1).eq r.2 (yba hi (h.fw _ _ _ E))
 ·intro i e p;cases E:f i with
  |inr e=>intro A;cases A;exact h.six _ _ _ E
  |inl r=>exact(G r.1).six _ _ _
 ·intro i x j;cases E:f i with
  |inr e=>intro A;cases A
  |inl r=>exact fun A=>yba (h.fw _ _ _ E) ((G r.1).fw _ _ _ A)
theorem Loc.bE{f f':Nat→Dm}{g g':Ex→Nat→RS β}(h:Loc k l f f')(A:∀ x,Loc k l (g x) (g' x)):Loc k l (fun i=>match f i with|.inr e=>.inr e|.inl (x,j)=>g x j) (fun i=>match f' i with|.inr e=>.inr e|.inl (x,j)=>g' x j) :=
 (h.bind A).of (fun i=>by cases f i<;>rfl) (fun i=>by cases f' i<;>rfl)
theorem Loc.bU{f f':Nat→RS Unit}{g g':Unit→Nat→RS β}(h:Loc k l f f')(A:∀ x,Loc k l (g x) (g' x)):Loc k l (fun i=>match f i with|.inr e=>.inr e|.inl (x,j)=>g x j) (fun i=>match f' i with|.inr e=>.inr e|.inl (x,j)=>g' x j) :=
 (h.bind A).of (fun i=>by cases f i<;>rfl) (fun i=>by cases f' i<;>rfl)
theorem Loc.bS{f f':Nat→RS (List UInt8)}{g g':List UInt8→Nat→RS β}(h:Loc k l f f')(A:∀ x,Loc k l (g x) (g' x)):Loc k l (fun i=>match f i with|.inr e=>.inr e|.inl (x,j)=>g x j) (fun i=>match f' i with|.inr e=>.inr e|.inl (x,j)=>g' x j) :=
 (h.bind A).of (fun i=>by cases f i<;>rfl) (fun i=>by cases f' i<;>rfl)
theorem Loc.bN{f f':Nat→RS (List Kh)}{g g':List Kh→Nat→RS β}(h:Loc k l f f')(A:∀ x,Loc k l (g x) (g' x)):Loc k l (fun i=>match f i with|.inr e=>.inr e|.inl (x,j)=>g x j) (fun i=>match f' i with|.inr e=>.inr e|.inl (x,j)=>g' x j) :=
 (h.bind A).of (fun i=>by cases f i<;>rfl) (fun i=>by cases f' i<;>rfl)
theorem Loc.bI{f f':Nat→RS Int}{g g':Int→Nat→RS β}(h:Loc k l f f')(A:∀ x,Loc k l (g x) (g' x)):Loc k l (fun i=>match f i with|.inr e=>.inr e|.inl (x,j)=>g x j) (fun i=>match f' i with|.inr e=>.inr e|.inl (x,j)=>g' x j) :=
 (h.bind A).of (fun i=>by cases f i<;>rfl) (fun i=>by cases f' i<;>rfl)
theorem Loc.bX{f f':Nat→RS St}{g g':St→Nat→RS β}(h:Loc k l f f')(A:∀ x,Loc k l (g x) (g' x)):Loc k l (fun i=>match f i with|.inr e=>.inr e|.inl (x,j)=>g x j) (fun i=>match f' i with|.inr e=>.inr e|.inl (x,j)=>g' x j) :=
 (h.bind A).of (fun i=>by cases f i<;>rfl) (fun i=>by cases f' i<;>rfl)
theorem Loc.bL{f f':Nat→RS (List St)}{g g':List St→Nat→RS β}(h:Loc k l f f')(A:∀ x,Loc k l (g x) (g' x)):Loc k l (fun i=>match f i with|.inr e=>.inr e|.inl (x,j)=>g x j) (fun i=>match f' i with|.inr e=>.inr e|.inl (x,j)=>g' x j) :=
 (h.bind A).of (fun i=>by cases f i<;>rfl) (fun i=>by cases f' i<;>rfl)
theorem Loc.ite{f f' g g':Nat→RS α}{c A:Nat→Prop}{_:∀ i,Decidable (c i)}{_:∀ i,Decidable (A i)}(H:∀ i,k≤i→(A i ↔ c i))(E:Loc k l f f')(G:Loc k l g g'):Loc k l (fun i=>if c i then f i else g i) (fun i=>if A i then f' i else g' i):=by
 constructor;·intro i hi;simp only[E.eq i hi,G.eq i hi,H i hi]
 ·intro i e p;split;·exact E.six _ _ _
  ·exact G.six _ _ _
 ·intro i x j;split;·exact E.fw _ _ _
  ·exact G.fw _ _ _
theorem Loc.dep{ι:Type}{F F':ι→Nat→RS α}(h:∀ a,Loc k l (F a) (F' a)){a a':Nat→ι}(ha:∀ i,k≤i→a' i=a i):Loc k l (fun i=>F (a i) i) (fun i=>F' (a' i) i) :=
 ⟨fun i hi=>by simp only[ha i hi];exact(h _).eq i hi,fun i e p=>(h _).six i e p,fun i=>(h _).fw i⟩
theorem Loc.err{c:Nat→Int × Int}{A:Nat→Int × Int}(E:∀ i,k≤i→A i=c i)(h6:∀ i,¬ (c i).1=0∧((c i).1=6→(c i).2=Ch l l.length)):Loc k l (α:=α) (fun i=>.inr (c i)) (fun i=>.inr (A i)) :=
 ⟨fun i hi=>by simp only[E i hi],fun i e p h=>(by simp only[Sum.inr.injEq]at h;have:=h6 i;rw[h]at this;exact this),fun i x j h=>Gg⟩
theorem Loc.ret(x:α)(n:Nat):Loc k l (fun i=>.inl (x,i+n)) (fun i=>.inl (x,i+n)) :=
 ⟨fun i hi=>rfl,fun i e p h=>Gg,fun i y j h=>(by cases h;omega)⟩
theorem Loc.next{f f':Nat→RS α}(n:Nat)(h:Loc k l f f'):Loc k l (fun i=>f (i+n)) (fun i=>f' (i+n)) :=
 ⟨fun i hi=>h.eq _ Tf,fun i e p=>h.six _ e p,fun i x j A=>by have:=h.fw _ _ _ A;omega⟩
theorem Um.badA(A:Um k l l'){e:Int}(E:¬ e=0)(G:¬ e=6):Loc k l (α:=α) (fun i=>.inr (cj l i e)) (fun i=>.inr (cj l' i e)) :=
 Loc.err (fun i hi=>by unfold cj;rw[A.len,A.plA hi]) fun i=>by
  unfold cj;split;·exact⟨(by decide:¬ (6:Int)=0),fun _=>Mr Xf⟩
  ·exact⟨E,fun h=>absurd h G⟩
theorem Um.signA(A:Um k l l')(s:List UInt8):Loc k l (Oh l s) (Oh l' s) :=
 Loc.ite (c:=fun i=>Qh l i s=true) (fun i hi=>by rw[A.isA hi]) (Loc.ret () 1) (A.badA Uf Uf)
theorem Um.nameA(A:Um k l l'):Loc k l (Th l) (Th l') :=
 Loc.ite (c:=fun i=>i<l.length∧(tk l i).kind=1∧Hh (tk l i).text=true) (fun i hi=>by rw[A.tkA hi,A.len])
  (Loc.dep (F:=fun a i=>.inl (a,i+1)) (fun a=>Loc.ret a 1) (fun i hi=>by rw[A.tkA hi])) (A.badA Uf Uf)
theorem Um.roundsA(A:Um k l l'):Loc k l (Gi l) (Gi l') :=
 Loc.ite (c:=fun i=>i<l.length∧(tk l i).kind=2) (fun i hi=>by rw[A.tkA hi,A.len])
  (Loc.ite (c:=fun i=>1≤(tk l i).n∧(tk l i).n≤8) (fun i hi=>by rw[A.tkA hi]) (Loc.dep (F:=fun a i=>.inl (a,i+1)) (fun a=>Loc.ret a 1) (fun i hi=>by rw[A.tkA hi])) (A.badA Uf Uf)) (A.badA Uf Uf)
theorem Um.opn(A:Um k l l')(n:Nat){i:Nat}(h:k≤i):opAt n l' i=opAt n l i:=by unfold opAt;simp only[A.isA h]
theorem Um.lpA(A:Um k l l'){f f':Nat→Dm}{n:Nat}(h:Loc k l f f'):∀ g x,Loc k l (lp f n l g x) (lp f' n l' g x)
 |0,x=>Loc.ret x 0
 |g+1,x=>Loc.ite (fun i hi=>by rw[A.opn n hi]) (Loc.ret x 0) (Loc.dep (ι:=Kh) (a:=fun i=>⟨opAt n l i,0,[],(tk l i).pos⟩) (a':=fun i=>⟨opAt n l' i,0,[],(tk l' i).pos⟩)
  (F:=fun a i=>match f (i+1)with|.inr e=>.inr e|.inl (y,j)=>if n=2 then .inl (.two a x y,j)else lp f n l g (.two a x y) j) (F':=fun a i=>match f' (i+1)with|.inr e=>.inr e|.inl (y,j)=>if n=2 then .inl (.two a x y,j)else lp f' n l' g (.two a x y) j)
  (fun a=>Loc.bE (Loc.next 1 h) (fun y=>Loc.ite (fun i hi=>Fca) (Loc.ret (Ex.two a x y) 0) (Um.lpA A h g (Ex.two a x y)))) (fun i hi=>by rw[A.opn n hi,A.tkA hi]))
theorem Um.flA(A:Um k l l'){pr E:Nat→Dm}(h:Loc k l pr E):∀ m,Loc k l (Dj pr l m) (Dj E l' m)
 |0=>h
 |m+1=>Loc.bE (g:=fun x i=>lp (Dj pr l m) (4 - m) l (l.length - i) x i) (g':=fun x i=>lp (Dj E l' m) (4 - m) l' (l'.length - i) x i) (Um.flA A h m) (fun x=>Loc.dep (F:=fun a i=>lp (Dj pr l m) (4 - m) l a x i)
  (F':=fun a i=>lp (Dj E l' m) (4 - m) l' a x i) (a:=fun i=>l.length - i) (a':=fun i=>l'.length - i) (fun a=>A.lpA (Um.flA A h m) a x) (fun i _=>by rw[A.len]))
theorem Um.baseA(A:Um k l l'):Loc k l (Fk l) (Fk l') :=
 Loc.ite (fun i hi=>by rw[A.tkA hi]) (Loc.dep (F:=fun a i=>.inl (a,i+1)) (fun a=>Loc.ret a 1) (fun i hi=>by rw[A.tkA hi]))
  (Loc.ite (fun i hi=>by rw[A.tkA hi]) (Loc.dep (F:=fun a i=>.inl (a,i+1)) (fun a=>Loc.ret a 1) (fun i hi=>by rw[A.tkA hi])) (Loc.err (fun i hi=>by rw[A.plA hi]) (fun i=>⟨(by decide:¬ (5:Int)=0),fun h=>absurd h (by decide:¬ (5:Int)=6)⟩)))
theorem Um.end_(A:Um k l l'){f f':Nat→RS α}(h:Loc k l f f'):Loc k l (fun i=>if l.length≤i then .inr (6,Ch l i)else f i) (fun i=>if l'.length≤i then .inr (6,Ch l' i)else f' i) :=
 ⟨fun i hi=>by simp only[A.len,A.plA hi,h.eq i hi],fun i e p=>by
  split;·intro E;cases E;exact⟨by decide,fun _=>Mr Xf⟩
  ·exact h.six _ _ _,fun i x j=>by
  split;·intro E;cases E
  ·exact h.fw _ _ _⟩
theorem Um.prA(A:Um k l l'):∀ d,Loc k l (ti l d) (ti l' d)
 |0=>A.end_ (Loc.ite (fun i hi=>by rw[Gt,Gt,Nx,Nx,A.isA hi,A.isA hi,A.isA hi]) (Loc.err (fun i hi=>by rw[A.plA hi]) (fun i=>⟨(by decide:¬ (7:Int)=0),fun h=>absurd h (by decide:¬ (7:Int)=6)⟩)) A.baseA)
 |d+1=>A.end_ (Loc.ite (fun i hi=>by rw[Gt,Gt,A.isA hi,A.isA hi])
  (Loc.dep (ι:=Kh) (F:=fun a i=>match ti l d (i+1)with|.inr e=>.inr e|.inl (x,E)=>.inl (Ex.one a x,E)) (F':=fun a i=>match ti l' d (i+1)with|.inr e=>.inr e|.inl (x,E)=>.inl (Ex.one a x,E))
   (fun a=>Loc.bE (Loc.next 1 (Um.prA A d)) (fun x=>Loc.ret _ 0)) (fun i hi=>by rw[A.tkA hi]))
  (Loc.ite (fun i hi=>by rw[Nx,Nx,A.isA hi]) (Loc.bE (Loc.next 1 (A.flA (Um.prA A d) 5)) (fun x=>Loc.ite (fun i hi=>by rw[A.isA hi]) (Loc.ret x 1) (A.badA (e:=5) Uf Uf))) A.baseA))
theorem fC(l:List xh):Ri l=fun i=>match Dj (ti l 12) l 5 i with
  | .inr e=>.inr e
  | .inl (x,t)=>if 12<x.deep then .inr (7,(tk l i).pos)else if 40<x.flat.length then .inr (2,(tk l i).pos)else .inl (x.flat,t):=by
 funext i
 have G:ij l i=match Dj (ti l 12) l 5 i with
   | .inr (e,p)=>([],0,e,p)
   | .inl (x,t)=>if 12<x.deep then ([],0,7,(tk l i).pos)else if 40<x.flat.length then ([],0,2,(tk l i).pos)else (x.flat,(t:Int),0,0):=by
  unfold ij;rw[if_neg Tf];rfl
 unfold Ri
 rw[G]
 cases hr:Dj (ti l 12) l 5 i with
 |inr q =>
  obtain⟨e,p⟩:=q
  have:=(Nk (Kk l 12) 5).bad _ _ _ hr
  exact if_neg (by show ¬ e=0;omega)
 |inl q =>
  obtain⟨x,t⟩:=q
  simp only
  by_cases A:12<x.deep
  ·rw[if_pos A,if_pos A];rfl
  ·by_cases E:40<x.flat.length;·rw[if_neg A,if_neg A,if_pos E,if_pos E];rfl
   ·rw[if_neg A,if_neg A,if_neg E,if_neg E];rfl
theorem Um.exprA(A:Um k l l'):Loc k l (Ri l) (Ri l'):=by
 rw[fC,fC];exact Loc.dep (F:=fun a i=>match Dj (ti l 12) l 5 i with|.inr e=>.inr e|.inl (x,t)=>if 12<x.deep then .inr (7,a)else if 40<x.flat.length then .inr (2,a)else .inl (x.flat,t))
  (F':=fun a i=>match Dj (ti l' 12) l' 5 i with|.inr e=>.inr e|.inl (x,t)=>if 12<x.deep then .inr (7,a)else if 40<x.flat.length then .inr (2,a)else .inl (x.flat,t))
  (fun a=>Loc.bE (A.flA (A.prA 12) 5) (fun x=>Loc.ite (fun i _=>Fca) (Loc.err (fun i _=>rfl) (fun i=>⟨(by decide:¬ (7:Int)=0),fun h=>absurd h (by decide:¬ (7:Int)=6)⟩)) (Loc.ite (fun i _=>Fca) (Loc.err (fun i _=>rfl) (fun i=>⟨(by decide:¬ (2:Int)=0),fun h=>absurd h (by decide:¬ (2:Int)=6)⟩)) (Loc.ret _ 0)))) (fun i hi=>by rw[A.tkA hi])
theorem Um.kindA(A:Um k l l'){i:Nat}(h:k≤i):Nh l' i=Nh l i:=by unfold Nh;simp only[A.isA h]
theorem Um.posA(A:Um k l l'){i:Nat}(h:k≤i):Ei l' i=Ei l i:=by unfold Ei;rw[A.len,A.tkA h]
theorem Um.partA(A:Um k l l')(c:UInt8)(x:St):Loc k l (Rk l c x) (Rk l' c x) :=
 Loc.ite (fun i _=>Fca) (Loc.bS A.nameA fun s=>Loc.ret _ 0) (Loc.ite (fun i _=>Fca) (Loc.bS A.nameA fun s=>Loc.ret _ 0) (Loc.ite (fun i _=>Fca) (Loc.bN A.exprA fun s=>Loc.ret _ 0)
  (Loc.ite (fun i _=>Fca) (Loc.bN A.exprA fun s=>Loc.ret _ 0) (Loc.bI A.roundsA fun s=>Loc.ret _ 0))))
theorem Um.partsA(A:Um k l l'):∀ (cs:List UInt8) (n:Nat) (x:St),Loc k l (Hi l cs n x) (Hi l' cs n x)
 | [],n,x=>Loc.ret x 0
 |c::r,n,x=>Loc.bU (Loc.ite (fun i _=>Fca) (Loc.ret () 0) (A.signA _)) fun _=>Loc.bX (A.partA c x) fun y=>Um.partsA A r (n+1) y
theorem Um.oneA(A:Um k l l'){G E:Bool→Nat→RS (List St)}(H:∀ b,Loc k l (G b) (E b))(b:Bool):Loc k l (ej G b l) (ej E b l'):=by
 have J:∀ a:Nat × Int,Loc k l
  (fun i=>if a.1=13∧b=false then .inr (cj l i 5)else match Hi l (Gh a.1) 0 { Vh with kind:=a.1,pos:=a.2 } (if a.1=1 then i else i+1)with|.inr e=>.inr e|.inl (x,j)=>if a.1=11 then (match G b j with|.inr e=>.inr e|.inl (y,j2)=>if Qh l j2 Xk=true then (match G b (j2+1)with|.inr e=>.inr e|.inl (z,I)=>.inl ({ x with body:=y.length,els:=z.length } :: (y++z),I))else .inl ({ x with body:=y.length } :: y,j2))else if a.1=12 then (match G true j with|.inr e=>.inr e|.inl (y,j2)=>.inl ({ x with body:=y.length } :: y,j2))else (match Oh l [59] j with|.inr e=>.inr e|.inl (_,j2)=>.inl ([x],j2)))
  (fun i=>if a.1=13∧b=false then .inr (cj l' i 5)else match Hi l' (Gh a.1) 0 { Vh with kind:=a.1,pos:=a.2 } (if a.1=1 then i else i+1)with|.inr e=>.inr e|.inl (x,j)=>if a.1=11 then (match E b j with|.inr e=>.inr e|.inl (y,j2)=>if Qh l' j2 Xk=true then (match E b (j2+1)with|.inr e=>.inr e|.inl (z,I)=>.inl ({ x with body:=y.length,els:=z.length } :: (y++z),I))else .inl ({ x with body:=y.length } :: y,j2))else if a.1=12 then (match E true j with|.inr e=>.inr e|.inl (y,j2)=>.inl ({ x with body:=y.length } :: y,j2))else (match Oh l' [59] j with|.inr e=>.inr e|.inl (_,j2)=>.inl ([x],j2))):=fun a =>
  Loc.ite (fun i _=>Fca) (A.badA Uf Uf) (Loc.bX (f:=fun i=>Hi l (Gh a.1) 0 { Vh with kind:=a.1,pos:=a.2 } (if a.1=1 then i else i+1))
   (f':=fun i=>Hi l' (Gh a.1) 0 { Vh with kind:=a.1,pos:=a.2 } (if a.1=1 then i else i+1)) (by
    by_cases L:a.1=1;·simp only[if_pos L];exact A.partsA _ _ _
    ·simp only[if_neg L];exact Loc.next 1 (A.partsA _ _ _))
   fun x=>Loc.ite (fun i _=>Fca)
    (Loc.bL (H b) fun y=>Loc.ite (fun i hi=>by rw[A.isA hi]) (Loc.bL (Loc.next 1 (H b)) fun z=>Loc.ret _ 0) (Loc.ret _ 0))
    (Loc.ite (fun i _=>Fca) (Loc.bL (H true) fun y=>Loc.ret _ 0) (Loc.bU (A.signA _) fun _=>Loc.ret _ 0)))
 exact Loc.dep J (a:=fun i=>(Nh l i,Ei l i)) (a':=fun i=>(Nh l' i,Ei l' i)) (fun i hi=>by rw[A.kindA hi,A.posA hi])
theorem Um.stsA(A:Um k l l'){one E:Nat→RS (List St)}(h:Loc k l one E):∀ g,Loc k l (Ij one l g) (Ij E l' g)
 |0=>Loc.ret _ 0
 |g+1=>Loc.ite (fun i hi=>by rw[A.isA hi]) (Loc.ret _ 0) (Loc.bL h fun x=>Loc.bL (Um.stsA A h g) fun y=>Loc.ret _ 0)
theorem Um.stsL(A:Um k l l'){one E:Nat→RS (List St)}(h:Loc k l one E):Loc k l (fun i=>Ij one l (l.length+1 - i) i) (fun i=>Ij E l' (l'.length+1 - i) i) :=
 Loc.dep (fun a=>A.stsA h a) (fun i _=>by rw[A.len])
theorem Um.blkA(A:Um k l l'):∀ d b,Loc k l (mi l d b) (mi l' d b)
 |0,b=>Loc.ite (fun i hi=>by rw[A.isA hi]) (Loc.err (fun i hi=>by rw[A.plA hi]) (fun i=>⟨(by decide:¬ (7:Int)=0),fun h=>absurd h (by decide:¬ (7:Int)=6)⟩)) (A.badA Uf Uf)
 |d+1,b=>Loc.bU (A.signA _) fun _=>Loc.bL (A.stsL (A.oneA (Um.blkA A d) b)) fun x=>Loc.bU (A.signA _) fun _=>Loc.ret x 0
end
end Go.Proofs.YtjcihcncljihoaaGreatDoor
namespace Go.Proofs.YtjcihcncljihoaaGreatDoor
open Go Go.RowKit
set_option linter.unusedVariables false
open List renaming append_nil→Maa,drop_drop→waa,drop_eq_getElem_cons→taa,length_append→xaa,length_cons→jaa,length_drop→vaa,length_nil→Xaa,length_take→nca
open Nat renaming le_refl→aaa,lt_of_lt_of_le→mba,zero_le→laa
open bi renaming below→aca
theorem lE(f g:Nat)(b:Bool)(l:List St)(A:l.length≤f)(E:l.length≤g):vi f b l=vi g b l:=by
 by_cases h:0≤vi f b l;·have:=xw (Rm f b l A h) g E;omega
 ·by_cases G:0≤vi g b l;·have:=xw (Rm g b l E G) f A;omega
  ·have a:=ym f b l;have c:=ym g b l;omega
def Ip(b:Bool)(l:List St):Int:=vi l.length b l
theorem rx{f:Nat}{b:Bool}{l:List St}(h:l.length≤f):vi f b l=Ip b l:=lE f l.length b l h (aaa _)
theorem mN(b:Bool):Ip b []=0:=rfl
theorem nu(b:Bool)(l:List St):-1≤Ip b l:=ym _ _ _
def Cx(x:St)(n:Nat)(b:Bool):Prop:=(x.body<0∨x.els<0∨(n:Int)<x.body+x.els)∨((x.kind≠11∧x.kind≠12∧0<x.body)∨(x.kind≠11∧0<x.els)∨(x.kind=13∧b=false))
theorem nN{x:St}{r:List St}{b:Bool}(h:Cx x r.length b):Ip b (x::r) = -1:=by
 unfold Ip;rw[jaa,vi];rcases h with h|h;·rw[if_pos h]
 ·by_cases A:x.body<0∨x.els<0∨(r.length:Int)<x.body+x.els;·rw[if_pos A]
  ·rw[if_neg A,if_pos h]
theorem EK{x:St}{r:List St}{b:Bool}(h:¬ Cx x r.length b)(A:¬ (x.kind=11∨x.kind=12)):Ip b (x::r)=Ip b r∧x.body=0∧x.els=0:=by
 unfold Cx at h;refine⟨?_,by omega,by omega⟩;conv=>lhs;unfold Ip
 rw[jaa,vi,if_neg (fun e=>h (.inl e)),if_neg (fun e=>h (.inr e)),if_neg A];rfl
theorem MH{x:St}{r:List St}{b:Bool}(h:¬ Cx x r.length b)(A:x.kind=11∨x.kind=12) :
 Ip b (x::r)=if Ip (b||decide (x.kind=12)) (r.take x.body.toNat)<0∨Ip (b||decide (x.kind=12)) ((r.drop x.body.toNat).take x.els.toNat)<0 then -1
  else if Ip b (r.drop (x.body.toNat+x.els.toNat))<0 then -1
  else max (Ip b (r.drop (x.body.toNat+x.els.toNat))) (max (Ip (b||decide (x.kind=12)) (r.take x.body.toNat)+1) (Ip (b||decide (x.kind=12)) ((r.drop x.body.toNat).take x.els.toNat)+1)):=by
 conv=>lhs;unfold Ip
 rw[jaa,vi,if_neg (fun e=>h (.inl e)),if_neg (fun e=>h (.inr e)),if_pos A]
 rw[rx (by rw[nca];omega),rx (by rw[nca,vaa];omega),rx (by rw[vaa];omega)]
def Mm(b:Bool)(l:List St)(i:Nat)(n:Int):Int:=if Ip b (l.drop i)<0 then -1 else max n (Ip b (l.drop i))
theorem YA(b:Bool)(l:List St):Mm b l 0 0=Ip b l:=by unfold Mm;have:=nu b l;rw[List.drop_zero];split<;>omega
theorem FG{b:Bool}{l:List St}{i:Nat}{n:Int}(h:l.length≤i)(A:0≤n):Mm b l i n=n:=by unfold Mm;rw[List.drop_eq_nil_of_le h,mN];simp;omega
theorem GG{b:Bool}{l:List St}{i:Nat}{n:Int}(hi:i<l.length)(h:Cx l[i] (l.length - (i+1)) b):Mm b l i n = -1:=by unfold Mm;rw[taa hi,nN nh];rfl
theorem oD{b:Bool}{l:List St}{i:Nat}{n:Int}(hi:i<l.length)(h:¬ Cx l[i] (l.length - (i+1)) b)(E:¬ (l[i].kind=11∨l[i].kind=12)):Mm b l i n=Mm b l (i+1) n∧l[i].body=0∧l[i].els=0:=by have A:=EK (x:=l[i]) (r:=l.drop (i+1)) (b:=b) nh E;unfold Mm;rw[taa hi,A.1];exact⟨rfl,A.2⟩
theorem Eu{b:Bool}{l:List St}{i:Nat}{n:Int}(hi:i<l.length)(h:¬ Cx l[i] (l.length - (i+1)) b)(H:l[i].kind=11∨l[i].kind=12){p q:Int}(I:Ip (b||decide (l[i].kind=12)) ((l.drop (i+1)).take l[i].body.toNat)=p)(hq:Ip (b||decide (l[i].kind=12)) ((l.drop (i+1+l[i].body.toNat)).take l[i].els.toNat)=q):Mm b l i n=if p<0∨q<0 then -1 else Mm b l (i+1+l[i].body.toNat+l[i].els.toNat) (max n (max (p+1) (q+1))):=by
 have G:=MH (x:=l[i]) (r:=l.drop (i+1)) (b:=b) nh H;rw[waa,waa,I,hq]at G;unfold Mm;rw[taa hi,G,← Nat.add_assoc];by_cases A:p<0∨q<0;·rw[if_pos A,if_pos A];rfl
 ·rw[if_neg A,if_neg A];by_cases E:Ip b (l.drop (i+1+l[i].body.toNat+l[i].els.toNat))<0;·rw[if_pos E,if_pos E];rfl
  ·rw[if_neg E,if_neg E,if_neg Tf];omega
noncomputable def Wm(A:List UInt8)(l:List St):List UInt8:=aj l.length A l
theorem ko{b:Bool}{l:List St}{d:Nat}(h:Rd b l d)(A:List UInt8):Ln l A (Wm A l):=kP h A _ (aaa _)
theorem fu{l:List St}{A t:List UInt8}(h:Ln l A t):Wm A l=t:=rH h _ (aaa _)
theorem DM(A:List UInt8):Wm A []=[]:=rfl
theorem cM{x:St}{r:List St}{d:Nat}(h:Rd true (x::r) d)(A:List UInt8) :
 (x.kind≠11∧x.kind≠12∧x.body=0∧x.els=0∧(∃ H,Rd true r H)∧Wm A (x::r)=A++Lj x++Np++Wm A r) ∨
 ((x.kind=11∨x.kind=12)∧∃ L ne:Nat,x.body=L∧x.els=ne∧L+ne≤r.length∧(∃ H,Rd true (r.take L) H)∧(∃ H,Rd true ((r.drop L).take ne) H)∧(∃ H,Rd true (r.drop (L+ne)) H) ∧
  Wm A (x::r)=A++Lj x++El++Wm (A++[32,32]) (r.take L)++(if 0<ne then A++Pp++Wm (A++[32,32]) ((r.drop L).take ne)else [])++(A++bm)++Wm A (r.drop (L+ne))):=by
 cases h with
 |leaf E G I J ad hr=>exact .inl ⟨E,G,I,J,⟨_,hr⟩,fu (.leaf E G (ko hr A))⟩
 | @ifs _ _ y z r d1 H d E I J O Z hr =>
  right
  have e1:(y++(z++r)).take y.length=y:=by simp
  have Q:((y++(z++r)).drop y.length).take z.length=z:=by simp
  have Y:(y++(z++r)).drop (y.length+z.length)=r:=by rw[← List.append_assoc,← xaa];simp
  refine⟨.inl E,y.length,z.length,I,J,by simp only[xaa];omega,⟨_,by rw[e1];exact O⟩,⟨_,by rw[Q];exact Z⟩,⟨_,by rw[Y];exact hr⟩,?_⟩
  rw[e1,Q,Y]
  by_cases M:0<z.length
  ·rw[if_pos M];exact fu (.two E I J M (ko O _) (ko Z _) (ko hr A))
  ·rw[if_neg M];have:z=[]:=List.eq_nil_of_length_eq_zero Tf;subst this;simp only[List.nil_append,Maa];exact fu (.one (.inl E) I J (ko O _) (ko hr A))
 | @loop _ _ y r d1 d G I J O hr =>
  right
  have e1:(y++r).take y.length=y:=by simp
  have Q:((y++r).drop y.length).take 0=[]:=by simp
  have Y:(y++r).drop (y.length+0)=r:=by simp
  refine⟨.inr G,y.length,0,I,J,by simp only[xaa];omega,⟨_,by rw[e1];exact O⟩,⟨_,by rw[Q];exact .nil⟩,⟨_,by rw[Y];exact hr⟩,?_⟩
  rw[e1,Q,Y,if_neg Tf,Maa]
  exact fu (.one (.inr G) I J (ko O _) (ko hr A))
theorem iB(w:List UInt8)(x:St):∀ (cs:List UInt8) (n:Nat),(∀ c∈cs,(fm x c).length≤800)→(Gp w x cs n).length≤803*cs.length
 | [],_,_=>laa _
 |c::r,n,h=>by
  have E:=iB w x r (n+1) (fun c A=>h c (by simp[A]));have G:=h c Yf;have H:(As w n).length≤3:=by
   unfold As;split;·split<;>simp
   ·split<;>simp
  unfold Gp;simp only[xaa,jaa];omega
theorem FM(k:Nat):(Gh k).length≤4:=by
 by_cases h:k<15
 ·have:∀ k,k<15→(Gh k).length≤4:=by decide
  exact this k h
 ·unfold Gh Ii;exact vd
theorem qL(k:Nat):(Ai k).length≤6:=by
 by_cases h:k<15
 ·have:∀ k,k<15→(Ai k).length≤6:=by decide
  exact this k h
 ·unfold Ai;exact vd
theorem BO{l:List St}{G t:List UInt8}(h:Ln l G t):(∀ x∈l,(Lj x).length≤4000)→G.length+2*l.length≤200→t.length≤5000*l.length:=by
 induction h with
 |nil=>intro _ _;exact laa _
 | @leaf x r G t O Q hr ih =>
  intro A E
  have L:=A x Yf
  simp only[jaa]at E
  have:=ih (fun y hy=>A y qh) Tf
  simp only[xaa,jaa,Np,Xaa]
  omega
 | @one x y r G u t hk H Z hy hr I J =>
  intro A E
  have L:=A x Yf
  simp only[jaa,xaa]at E
  have M:=I (fun z hz=>A z Qg) ag
  have Y:=J (fun z hz=>A z Qg) Tf
  simp only[xaa,jaa,El,bm,Xaa]
  omega
 | @two x y z r G u v t hk H Z ad hy hz hr I J i3 =>
  intro A E
  have L:=A x Yf
  simp only[jaa,xaa]at E
  have M:=I (fun z hz=>A z Qg) ag
  have Y:=J (fun z hz=>A z Qg) ag
  have h3:=i3 (fun z hz=>A z Qg) Tf
  simp only[xaa,jaa,El,bm,Pp,Xaa]
  omega
structure Xh where
 name:List UInt8
 n:Int
 pos:Int
structure Jt where
 name:List UInt8
 regs:List (List UInt8)
 body:List St
 pos:Int
structure zE where
 e:List Kh
 pos:Int
structure lk where
 lines:List (List Xh)
 vols:List Xh
 locks:List Xh
 thrs:List Jt
 rcv:List Jt
 clms:List zE
def fj:lk:=⟨[],[],[],[],[],[]⟩
def Yl(l:List xh)(o k:Nat):RS (List St):=match Ij (ej (mi l 12) false l) l (l.length+1 - k) k with
 | .inr e=>.inr e
 | .inl (x,j)=>match Oh l [125] j with
  | .inr e=>.inr e
  | .inl (_,t)=>if 40<x.length then .inr (2,(tk l o).pos)else .inl (x,t)
def il(b:Bool)(l:List xh)(i:Nat):RS Xh:=match Th l i with
 | .inr e=>.inr e
 | .inl (s,j)=>if b=true∧Qh l j [61]=true then (if j+1<l.length∧(tk l (j+1)).kind=2 then .inl (⟨s,(tk l (j+1)).n,(tk l i).pos⟩,j+2)else .inr (cj l (j+1) 5))else .inl (⟨s,0,(tk l i).pos⟩,j)
def Oj(b:Bool)(l:List xh):Nat→Nat→RS (List Xh)
 |0,i=>.inr (cj l i 5)
 |g+1,i=>match il b l i with
  | .inr e=>.inr e
  | .inl (c,j)=>if Qh l j [44]=true then match Oj b l g (j+1)with
    | .inr e=>.inr e
    | .inl (r,t)=>.inl (c::r,t)
   else match Oh l [59] j with
    | .inr e=>.inr e
    | .inl (_,t)=>.inl ([c],t)
def fl(b:Bool)(l:List xh)(i:Nat):RS (List Xh):=Oj b l (l.length+1 - i) i
def yk:List UInt8:=[114,101,103]
def Zp(l:List xh)(i:Nat):RS (List (List UInt8)):=if Qh l i yk=true then match fl false l (i+1)with
  | .inr e=>.inr e
  | .inl (r,t)=>.inl (r.map (·.name),t)
 else .inl ([],i)
def kn(l:List xh)(s:List UInt8)(p:Int)(i:Nat):RS Jt:=match Oh l [123] i with
 | .inr e=>.inr e
 | .inl (_,j)=>match Zp l j with
  | .inr e=>.inr e
  | .inl (r,k)=>match Yl l i k with
   | .inr e=>.inr e
   | .inl (x,t)=>.inl (⟨s,r,x,p⟩,t)
def mQ:List (List UInt8):=[[108,105,110,101],[118,111,108],[108,111,99,107],[116,104,114,101,97,100],[114,101,99,111,118,101,114],[97,108,119,97,121,115]]
def pw(j:Nat):List UInt8:=mQ.getD j []
def Qi(j:Nat)(l:List xh)(p:lk)(i:Nat):RS lk :=
 if j=0 then (match fl true l (i+1)with|.inr e=>.inr e|.inl (r,t)=>.inl ({ p with lines:=p.lines++[r] },t))
 else if j=1 then (match fl true l (i+1)with|.inr e=>.inr e|.inl (r,t)=>.inl ({ p with vols:=p.vols++r },t))
 else if j=2 then (match fl false l (i+1)with|.inr e=>.inr e|.inl (r,t)=>.inl ({ p with locks:=p.locks++r },t))
 else if j=3 then (match Th l (i+1)with|.inr e=>.inr e|.inl (s,k)=>match kn l s (tk l (i+1)).pos k with|.inr e=>.inr e|.inl (r,t)=>.inl ({ p with thrs:=p.thrs++[r] },t))
 else if j=4 then (if p.rcv=[]then (match kn l [] (tk l i).pos (i+1)with|.inr e=>.inr e|.inl (r,t)=>.inl ({ p with rcv:=[r] },t))else .inr (cj l i 5))
 else (match Ri l (i+1)with|.inr e=>.inr e|.inl (x,k)=>match Oh l [59] k with|.inr e=>.inr e|.inl (_,t)=>.inl ({ p with clms:=p.clms++[⟨x,(tk l i).pos⟩] },t))
def Ek(j:Nat)(l:List xh):Nat→lk→Nat→RS lk
 |0,p,i=>.inl (p,i)
 |g+1,p,i=>if Qh l i (pw j)=true then match Qi j l p i with
   | .inr e=>.inr e
   | .inl (q,t)=>Ek j l g q t
  else .inl (p,i)
def Di(l:List xh):Nat→Nat→lk→Nat→RS lk
 |0,_,p,i=>.inl (p,i)
 |n+1,j,p,i=>match Ek j l (l.length - i) p i with
  | .inr e=>.inr e
  | .inl (q,t)=>Di l n (j+1) q t
def eB(l:List xh):RS lk:=match Di l 6 0 fj 0 with
 | .inr e=>.inr e
 | .inl (p,t)=>if t<l.length then .inr (cj l t 5)else .inl (p,t)
def Aj(s:List UInt8):lk × Int × Int:=if (Li s).2.1=0 then (match eB (Li s).1 with|.inr (e,p)=>(fj,e,p)|.inl (p,_)=>(p,0,0))else (fj,(Li s).2.1,(Li s).2.2)
def vk(n:Int):Bool:=decide (0≤n)&&decide (n≤4000)
def jl(m:Int)(c:Xh):Bool:=Hh c.name&&decide (0≤c.n)&&decide (c.n≤m)&&vk c.pos
def yi(m:Int)(l:List Xh):Bool:=l.all (jl m)
noncomputable def Xi(t:Jt):Bool:=vk t.pos&&t.regs.all Hh&&Jj t.body
noncomputable def Mi(p:lk):Bool:=p.lines.all (fun l=>!l.isEmpty&&yi 4294967296 l)&&yi 4294967296 p.vols&&yi 0 p.locks&&decide (p.rcv.length≤1) &&
 p.thrs.all (fun t=>Hh t.name&&Xi t)&&p.rcv.all (fun t=>(t.name==[])&&Xi t)&&p.clms.all (fun c=>vk c.pos&&Fh c.e)
def Wj:List (List UInt8)→List UInt8
 | []=>[]
 | [s]=>s
 |s::r=>s++([44,32]++Wj r)
noncomputable def sk(c:Xh):List UInt8:=c.name++(if c.n=0 then []else [32,61,32]++Lib.itoa c.n)
noncomputable def dl(w:List UInt8)(l:List Xh):List UInt8:=w++([32]++(Wj (l.map sk)++Np))
def Gs(s:List UInt8):Xh:=⟨s,0,0⟩
noncomputable def Fu(l:List (List UInt8)):List UInt8:=if l=[]then []else [32,32]++dl yk (l.map Gs)
noncomputable def Xo(h:List UInt8)(t:Jt):List UInt8:=h++(El++(Fu t.regs++(Wm [32,32] t.body++bm)))
noncomputable def Hv(t:Jt):List UInt8:=Xo (pw 3++([32]++t.name)) t
noncomputable def sr(c:zE):List UInt8:=pw 5++([32]++(Ej c.e++Np))
noncomputable def Ml(p:lk):List UInt8:=p.lines.flatMap (dl (pw 0))++((if p.vols=[]then []else dl (pw 1) p.vols)++((if p.locks=[]then []else dl (pw 2) p.locks) ++
 (p.thrs.flatMap Hv++(p.rcv.flatMap (Xo (pw 4))++p.clms.flatMap sr))))
noncomputable def Sn(p:lk):List UInt8:=if Mi p=true then Ml p else []
def nj(b:Bool)(x y:Xh):Bool:=(x.name==y.name)&&(x.n==y.n)&&(!b||x.pos==y.pos)
def Yh{α:Type}(f:α→α→Bool):List α→List α→Bool
 | [],[]=>true
 |x::a,y::b=>f x y&&Yh f a b
 |_,_=>false
def Ak(b:Bool)(x y:Jt):Bool:=(x.name==y.name)&&(x.regs==y.regs)&&(!b||x.pos==y.pos)&&Qk b x.body y.body
def Lm(b:Bool)(x y:zE):Bool:=tj b x.e y.e&&(!b||x.pos==y.pos)
def cm(b:Bool)(x y:lk):Bool:=Yh (Yh (nj b)) x.lines y.lines&&Yh (nj b) x.vols y.vols&&Yh (nj b) x.locks y.locks&&Yh (Ak b) x.thrs y.thrs&&Yh (Ak b) x.rcv y.rcv&&Yh (Lm b) x.clms y.clms
def xi(c:Xh):Xh:=⟨c.name,c.n,0⟩
def kj(t:Jt):Jt:=⟨t.name,t.regs,t.body.map Zh,0⟩
def gm(c:zE):zE:=⟨c.e.map qi,0⟩
def Ni(p:lk):lk:=⟨p.lines.map (·.map xi),p.vols.map xi,p.locks.map xi,p.thrs.map kj,p.rcv.map kj,p.clms.map gm⟩
def Xh.cells(c:Xh):List Value:=[.string (vh c.name),.int .i64 c.n,.int .i64 c.pos]
theorem Xh.cells_len(c:Xh):c.cells.length=3:=rfl
abbrev Aq(w:World)(v:Value)(l:List Xh):Prop:=bi w v 3 l.length (l.flatMap Xh.cells)
structure Tv where
 name:List UInt8
 rv:Value
 regs:List (List UInt8)
 bv:Value
 pl:List Sv
 pos:Int
def Tv.t(x:Tv):Jt:=⟨x.name,x.regs,x.pl.map (·.s),x.pos⟩
def Tv.cells(x:Tv):List Value:=[.string (vh x.name),x.rv,x.bv,.int .i64 x.pos]
structure Kv where
 ev:Value
 c:zE
def Kv.cells(x:Kv):List Value:=[x.ev,.int .i64 x.c.pos]
structure qj where
 lines:List (Value × List Xh)
 vols:List Xh
 locks:List Xh
 thrs:List Tv
 rcv:List Tv
 clms:List Kv
def qj.p(q:qj):lk:=⟨q.lines.map (·.2),q.vols,q.locks,q.thrs.map Tv.t,q.rcv.map Tv.t,q.clms.map (·.c)⟩
def Xr:qj:=⟨[],[],[],[],[],[]⟩
def qj.n(q:qj):Nat→Nat
 |0=>q.lines.length|1=>q.vols.length|2=>q.locks.length|3=>q.thrs.length|4=>q.rcv.length|_=>q.clms.length
def qj.cs(q:qj):Nat→List Value
 |0=>q.lines.map (·.1)|1=>q.vols.flatMap Xh.cells|2=>q.locks.flatMap Xh.cells|3=>q.thrs.flatMap Tv.cells|4=>q.rcv.flatMap Tv.cells|_=>q.clms.flatMap Kv.cells
def lI:Nat→Nat
 |0=>1|1=>3|2=>3|3=>4|4=>4|_=>2
def CK:Nat→TypeId
 |0=>23|1=>48|2=>48|3=>41|4=>41|_=>50
def Fx(u:World)(x:Tv):Prop:=Tr u x.rv x.regs∧Kp u x.bv x.pl
structure Deep (u:World) (q:qj):Prop where
 lines:∀ x∈q.lines,Aq u x.1 x.2
 thrs:∀ x∈q.thrs,Fx u x
 rcv:∀ x∈q.rcv,Fx u x
 clms:∀ x∈q.clms,Wh u x.ev x.c.e
structure Lp (w:World) (o:Nat→Value) (q:qj):Prop where
 rows:∀ j,j < 6→bi w (o j) (lI j) (q.n j) (q.cs j)
 deep:Deep w q
theorem Fx.below{w w':World}{x:Tv}(h:Fx w x)(A:Below w.heap.size w w'):Fx w' x:=⟨aca h.1 A,h.2.below A⟩
theorem Deep.below{w w':World}{q:qj}(h:Deep w q)(E:Below w.heap.size w w'):Deep w' q :=
 ⟨fun x A=>aca (h.lines x A) E,fun x A=>(h.thrs x A).below E,fun x A=>(h.rcv x A).below E,fun x A=>aca (h.clms x A) E⟩
theorem Lp.below{w w':World}{o:Nat→Value}{q:qj}(h:Lp w o q)(A:Below w.heap.size w w'):Lp w' o q:=⟨fun j E=>aca (h.rows j E) A,h.deep.below A⟩
theorem xl{w w':World}{A:Nat}{e:TypeId}{size:Nat}{v:Value}{n:Nat}{I:List Value}(h:w.ownsRow A e size v n I)(L:∀ b,v.ownBlock=some b→w'.heap[b]? = w.heap[b]?):w'.ownsRow A e size v n I:=by
 obtain⟨J,G⟩:=h;refine⟨J,?_⟩;rcases G with G|⟨g,E,cur,H,M,O,r⟩;·exact .inl G
 ·exact .inr ⟨g,E,cur,H,M,(L g (by rw[H];rfl)).trans O,r⟩
def Vm(S:Nat→Prop)(o:Nat→Value):Nat→Prop:=fun k=>S k∨∃ j,j<6∧(o j).ownBlock=some k
def fp(o:Nat→Value)(k:Nat)(u:Value):Nat→Value:=fun j=>if j=k then u else o j
theorem rG(o:Nat→Value)(k:Nat)(u:Value):fp o k u k=u:=if_pos rfl
theorem cD(o:Nat→Value){j k:Nat}(u:Value)(h:j≠k):fp o k u j=o j:=if_neg h
structure wj (B:Nat) (S:Nat→Prop) (w:World) (o:Nat→Value) (q:qj):Prop where
 sB:∀ k,S k→k < w.heap.size∧∀ j,j < 6→(o j).ownBlock≠some k
 row:∀ j,j < 6→w.ownsRow B (CK j) (lI j) (o j) (q.n j) (q.cs j)
 apart:∀ j k,j < 6→k < 6→j≠k→∀ b,(o j).ownBlock=some b→(o k).ownBlock≠some b
 deep:Ok (Vm S o) w (fun u=>Deep u q)
section
variable {B : Nat} {S : Nat → Prop} {w w' : World} {o : Nat → Value} {q : qj}
theorem wj.step(h:wj B S w o q)(J:w.heap.size≤w'.heap.size)(I:∀ k,k<w.heap.size→¬ S k→w'.heap[k]? = w.heap[k]?):wj B S w' o q :=
 ⟨fun k A=>⟨mba (h.sB k A).1 J,(h.sB k A).2⟩,fun j E=>xl (h.row j E) (fun b H=>I b ((h.row j E).lt b H).2 (fun A=>(h.sB b A).2 j E H)),h.apart,
  h.deep.step J (fun k G L=>I k G (fun A=>L (.inl A))) (fun _ _ e=>e)⟩
theorem wj.below(h:wj B S w o q)(A:Below w.heap.size w w'):wj B S w' o q:=h.step A.size (fun k E _=>A.block k E)
theorem wj.set(h:wj B S w o q){g:Nat}(A:S g)(j:Nat)(u:Value):wj B S (w.setCell ⟨g,j,none⟩ u) o q :=
 h.step (by simp[World.setCell]) (fun k _ E=>Below.heap_setCell _ _ _ _ (fun e=>E (by rw[e];exact A)))
theorem wj.push{j:Nat}{v':Value}{q':qj}(h:wj B S w o q)(O:j<6)(Z:w'.ownsRow B (CK j) (lI j) v' (q'.n j) (q'.cs j))(hg:w.grownBy w' (o j).ownBlock)(J:v'.ownBlock=(o j).ownBlock∨v'.ownBlock=some w.heap.size)(hq:∀ k,k<6→k≠j→q'.n k=q.n k∧q'.cs k=q.cs k)(hd:Ok (Vm S o) w (fun u=>Deep u q')):wj B S w' (fp o j v') q':=by
 have M:∀ k b,k<6→(o k).ownBlock=some b→b<w.heap.size:=fun k b I L=>((h.row k I).lt b L).2;refine⟨fun k hS=>⟨mba (h.sB k hS).1 hg.size,fun i hi A=>?_⟩,fun k I=>?_,fun a b ha L Y x A=>?_,?_⟩
 ·unfold fp at A;by_cases H:i=j
  ·rw[if_pos H]at A;rcases J with e|e;·exact(h.sB k hS).2 j O (e▸A)
   ·rw[e]at A;injection A with A;have:=(h.sB k hS).1;omega
  ·rw[if_neg H]at A;exact(h.sB k hS).2 i hi A
 ·by_cases G:k=j;·subst G;rw[rG];exact Z
  ·rw[cD _ _ G,(hq k I G).1,(hq k I G).2];exact xl (h.row k I) (fun b L=>hg.block b (M k b I L) (fun e=>h.apart k j I O G b L e.symm))
 ·unfold fp at A ⊢;by_cases H:a=j
  ·have Q:¬ b=j:=fun e=>Y (H.trans e.symm);rw[if_pos H]at A;rw[if_neg Q];intro E;rcases J with e|e;·exact h.apart j b O L (fun e=>Q e.symm) x (e▸A) E
   ·rw[e]at A;injection A with A;have:=M b x L E;omega
  ·rw[if_neg H]at A;by_cases Q:b=j
   ·rw[if_pos Q];intro E;rcases J with e|e;·exact h.apart a j ha O H x A (e▸E)
    ·rw[e]at E;injection E with E;have:=M a x ha A;omega
   ·rw[if_neg Q];exact h.apart a b ha L Y x A
 ·refine hd.step hg.size (fun k I hn=>hg.block k I (fun e=>hn (.inr ⟨j,O,e.symm⟩))) (fun k I e=>?_);rcases e with e|⟨a,ha,e⟩;·exact .inl e
  ·unfold fp at e;by_cases H:a=j
   ·rw[if_pos H]at e;rcases J with e2|e2;·exact .inr ⟨j,O,e2▸e⟩
    ·rw[e2]at e;injection e with e;omega
   ·rw[if_neg H]at e;exact .inr ⟨a,ha,e⟩
theorem wj.off(h:wj B S w o q){n:Nat}(L:n≤B)(H:Ok (iL n) w (fun u=>Deep u q)):Ok (iL n) w (fun u=>Lp u o q):=fun w' A E =>
 ⟨fun j G=>Gm (S:=iL n) (h.row j G) (fun k I e=>by have:=((h.row j G).lt k I).1;have J:k<n:=e;omega) w' A E,H w' A E⟩
end
end Go.Proofs.YtjcihcncljihoaaGreatDoor
namespace Go.Proofs.YtjcihcncljihoaaGreatDoor
open Go Go.RowKit
set_option linter.unusedVariables false
open Go.Lib renaming hid→kaa
open Go.RowKit.Below renaming refl→Gaa
open Go.World renaming cell?_of_block→Gca,cell?_setCell_other→fca,drewN→Eba,setCell→eca
open Nat renaming le_refl→aaa,le_trans→yba,lt_of_lt_of_le→mba
open Go.Proofs.Tryz renaming prog→maa
structure PG (w:World) (g:Nat) (v:Value) (i e p:Int) (o:Nat→Value):Prop where
 lt:g < w.heap.size
 c0:w.cell? ⟨g,0,none⟩=some v
 c1:w.cell? ⟨g,1,none⟩=some (.int .i64 i)
 c2:w.cell? ⟨g,2,none⟩=some (.int .i64 e)
 c3:w.cell? ⟨g,3,none⟩=some (.int .i64 p)
 co:∀ j,j < 6→w.cell? ⟨g,4+j,none⟩=some (o j)
 fr:∀ j,w.frozen? ⟨g,j,none⟩=false
section
variable {w w' : World} {g B : Nat} {v : Value} {i e p : Int} {o : Nat → Value}
theorem PG.belowB(h:PG w g v i e p o)(G:Below B w w')(E:g<B):PG w' g v i e p o:=by have J:=G.size;have I:=h.lt;have A:=fun j=>G.cell (p:=⟨g,j,none⟩) E;exact⟨by omega,(A 0).trans h.c0,(A 1).trans h.c1,(A 2).trans h.c2,(A 3).trans h.c3,fun j H=>(A _).trans (h.co j H),fun j=>(G.frozen (p:=⟨g,j,none⟩) E).trans (h.fr j)⟩
theorem PG.below(h:PG w g v i e p o)(A:Below w.heap.size w w'):PG w' g v i e p o:=h.belowB A h.lt
theorem PG.drew(h:PG w g v i e p o):PG w.drew g v i e p o:=h.below (dm (Gaa _ _))
theorem wh{w:World}{g j k:Nat}{x u:Value}(h:w.cell? ⟨g,j,none⟩=some x)(A:j≠k):(w.setCell ⟨g,k,none⟩ u).cell? ⟨g,j,none⟩=some x:=by rw[fca _ _ _ _ (by simp[])];exact h
theorem ui{w:World}{g k:Nat}{x u:Value}(h:w.cell? ⟨g,k,none⟩=some x)(A:w.frozen? ⟨g,k,none⟩=false):(w.setCell ⟨g,k,none⟩ u).cell? ⟨g,k,none⟩=some u:=by simp[*,go_sem]
theorem jk{w:World}{g k:Nat}{u:Value}(h:g<w.heap.size):g<(w.setCell ⟨g,k,none⟩ u).heap.size:=by simpa[eca]using h
theorem di{w:World}{g k:Nat}{u:Value}(h:∀ j,w.frozen? ⟨g,j,none⟩=false)(j:Nat):(w.setCell ⟨g,k,none⟩ u).frozen? ⟨g,j,none⟩=false:=by simpa using h j
theorem PG.set1(h:PG w g v i e p o)(j:Int):PG (w.setCell ⟨g,1,none⟩ (.int .i64 j)) g v j e p o :=
 ⟨jk h.lt,wh h.c0 Uf,ui h.c1 (h.fr 1),wh h.c2 Uf,wh h.c3 Uf,fun j A=>wh (h.co j A) Tf,di h.fr⟩
theorem PG.set2(h:PG w g v i e p o)(j:Int):PG (w.setCell ⟨g,2,none⟩ (.int .i64 j)) g v i j p o :=
 ⟨jk h.lt,wh h.c0 Uf,wh h.c1 Uf,ui h.c2 (h.fr 2),wh h.c3 Uf,fun j A=>wh (h.co j A) Tf,di h.fr⟩
theorem PG.set3(h:PG w g v i e p o)(j:Int):PG (w.setCell ⟨g,3,none⟩ (.int .i64 j)) g v i e j o :=
 ⟨jk h.lt,wh h.c0 Uf,wh h.c1 Uf,wh h.c2 Uf,ui h.c3 (h.fr 3),fun j A=>wh (h.co j A) Tf,di h.fr⟩
theorem PG.seto(h:PG w g v i e p o)(k:Nat)(G:k<6)(u:Value):PG (w.setCell ⟨g,4+k,none⟩ u) g v i e p (fp o k u) :=
 ⟨jk h.lt,wh h.c0 Tf,wh h.c1 Tf,wh h.c2 Tf,wh h.c3 Tf,fun j E=>by
  unfold fp;by_cases A:j=k;·subst A;rw[if_pos rfl];exact ui (h.co j E) (h.fr _)
  ·rw[if_neg A];exact wh (h.co j E) Tf,di h.fr⟩
theorem PG.other{q j:Nat}{u:Value}(h:PG w g v i e p o)(E:g≠q):PG (w.setCell ⟨q,j,none⟩ u) g v i e p o:=by have A:=fun k=>fca w ⟨q,j,none⟩ ⟨g,k,none⟩ u (by simp[]);exact⟨by simpa[eca]using h.lt,(A 0).trans h.c0,(A 1).trans h.c1,(A 2).trans h.c2,(A 3).trans h.c3,fun j G=>(A _).trans (h.co j G),fun j=>by simpa using h.fr j⟩
theorem PG.grown{row:Option Nat}(h:PG w g v i e p o)(H:w.grownBy w' row)(E:row≠some g):PG w' g v i e p o:=by have G:=H.block g h.lt (Ne.symm E);have A:=fun j=>Gca (a:=⟨g,j,none⟩) G;exact⟨mba h.lt H.size,(A 0).trans h.c0,(A 1).trans h.c1,(A 2).trans h.c2,(A 3).trans h.c3,fun j I=>(A _).trans (h.co j I),fun j=>(World.frozen?_of_block (a:=⟨g,j,none⟩) G).trans (h.fr j)⟩
structure GK (w:World) (g:Nat) (v:Value) (i e p:Int) (o:Nat→Value) (u:World):Prop where
 pg:PG u g v i e p o
 kp:uh g w u
theorem GK.refl(h:PG w g v i e p o):GK w g v i e p o w:=⟨h,uh.refl _ _⟩
variable {u u' : World}
theorem GK.below(h:GK w g v i e p o u)(A:Below u.heap.size u u'):GK w g v i e p o u':=⟨h.pg.below A,h.kp.trans (uh.of A)⟩
theorem GK.drew(h:GK w g v i e p o u):GK w g v i e p o u.drew:=h.below (dm (Gaa _ _))
theorem GK.drewN(h:GK w g v i e p o u)(n:Nat):GK w g v i e p o (u.drewN n):=h.below (Hn (Gaa _ _) _)
theorem GK.alloc(h:GK w g v i e p o u)(x:Obj):GK w g v i e p o (u.alloc x):=h.below (al _ _)
theorem GK.set1(h:GK w g v i e p o u)(j:Int):GK w g v j e p o (u.setCell ⟨g,1,none⟩ (.int .i64 j)):=⟨h.pg.set1 j,h.kp.set _ _⟩
theorem GK.set2(h:GK w g v i e p o u)(j:Int):GK w g v i j p o (u.setCell ⟨g,2,none⟩ (.int .i64 j)):=⟨h.pg.set2 j,h.kp.set _ _⟩
theorem GK.set3(h:GK w g v i e p o u)(j:Int):GK w g v i e j o (u.setCell ⟨g,3,none⟩ (.int .i64 j)):=⟨h.pg.set3 j,h.kp.set _ _⟩
theorem GK.trans{E A H:Int}{G:Nat→Value}(h:GK w g v i e p o u)(k:GK u g v E A H G u'):GK w g v E A H G u':=⟨k.pg,h.kp.trans k.kp⟩
end
theorem kq(l:List xh)(hl:l.length≤100000)(g:Nat)(v:Value)(o:Nat→Value)(i:Nat)(e p:Int)(w:World)(M:PG w g v i e p o)(hc:Jm g v l w):Calls maa 24 #[.pointer (some ⟨g,0,none⟩)] w fun r w'=>r = .returned (.tuple #[])∧GK w g v i (wE l i e 5) (wP l i e p) o w':=by
 obtain⟨A,c,rfl,ao⟩:=(hc.now M.lt).shape;have H:=kaa (GK.refl M);have HP:Hid (∀ u:World,uh g w u→Calls maa 87 #[.slice A l.length c,.int .i64 i] u (Vj l i u)):=fun u hu=>gv l Tf i _ u ((hc.keep hu M.lt).now (mba M.lt hu.size));clear hc;by_cases he:e=0
 ·subst he;rw[show wP l i 0 p=Ch l i from if_pos rfl];obtain⟨b,hd,av,hE⟩:∃ b,decide ((l.length:Int)≤(i:Int))=b∧decide (l.length≤i)=b∧wE l i 0 5=if b=true then 6 else 5:=⟨decide (l.length≤i),by simp,rfl,by unfold wE;simp⟩;rw[hE];clear hE;obtain⟨pl,p0,p1,O,Q,Z,I⟩:=M;have J:=I 2;have ad:=I 3;go_enter Tryz.func24,Tryz.ntmps24;go_upto_region 1 with fail;go_region_held3 (fun u=>u.cell? ⟨g,0,none⟩=some (.slice A l.length c)∧u.cell? ⟨g,1,none⟩=some (.int .i64 i))
   (first|exact⟨(H.out.drew.set2 5).pg.c0,(H.out.drew.set2 5).pg.c1⟩|exact⟨E.pg.c0,E.pg.c1⟩|exact⟨(E.set2 5).pg.c0,(E.set2 5).pg.c1⟩|exact⟨(E.set3 _).pg.c0,(E.set3 _).pg.c1⟩|exact⟨((E.set2 5).set3 _).pg.c0,((E.set2 5).set3 _).pg.c1⟩|exact⟨((E.set3 _).set2 5).pg.c0,((E.set3 _).set2 5).pg.c1⟩|exact⟨H.out.drew.pg.c0,H.out.drew.pg.c1⟩)
   (first|(go_at_call 87;(with_reducible refine(HP.out _ (by first|exact H.out.drew.kp|exact(H.out.drew.set2 5).kp)).mono ?_);rintro r w5 ⟨rfl,L⟩;(first|have E:=H.out.drew.below L|have E:=(H.out.drew.set2 5).below L);have q2:=E.pg.c2;have q3:=E.pg.c3;have af:=E.pg.fr 2;have al:=E.pg.fr 3))
  all_goals
   generalize hX:eca _ _ _=X;have hF:GK w g (.slice A l.length c) i 5 (Ch l i) o X:=by subst hX;first|exact(E.set2 5).set3 _|exact(E.set3 _).set2 5|exact E.set3 _
   clear pl p0 p1 O Q Z I J ad E q2 q3 af al L hX;obtain⟨pl,p0,p1,O,Q,Z,I⟩:=hF.pg;have HF:=kaa hF;have J:=I 2;go_upto_region 2 with fail;go_quiet (fail);have G:=kaa (HF.out.drewN nq);clear pl p0 p1 O Q Z I J hF;generalize Eba _ _=Y at G ⊢;obtain⟨pl,p0,p1,O,Q,Z,I⟩:=G.out.pg;have J:=I 2;cases b;all_goals
    go_wp2_with fail;first|refine bodyPost_end (results_none rfl _ _ _) rfl ?_|refine bodyPost_ret (results_none rfl _ _ _) rfl ?_
    first|exact⟨rfl,G.out⟩|exact⟨rfl,G.out.set2 6⟩
 ·have aT:(e==0)=false:=by simpa using he
  rw[show wE l i e 5=e from if_neg he,show wP l i e p=p from if_neg he];obtain⟨pl,p0,p1,O,Q,Z,I⟩:=M;go_enter Tryz.func24,Tryz.ntmps24;go_wp2_with fail;first|refine bodyPost_end (results_none rfl _ _ _) rfl ?_|refine bodyPost_ret (results_none rfl _ _ _) rfl ?_
  exact⟨rfl,H.out⟩
def hB(l:List xh)(s:List UInt8)(i:Nat)(e:Int):Bool:=decide (e=0)&&Qh l i s
theorem Qr{l:List xh}{s:List UInt8}{i:Nat}(h:Qh l i s=true):hB l s i 0=true∧mI l s i 0=i+1:=by unfold hB mI;rw[h];exact⟨rfl,if_pos ⟨rfl,rfl⟩⟩
theorem Oy{l:List xh}{s:List UInt8}{i:Nat}{e:Int}(h:e=0→Qh l i s=false):hB l s i e=false∧mI l s i e=i:=by
 unfold hB mI;by_cases A:e=0;·rw[h A];exact⟨by simp,if_neg Yf⟩
 ·exact⟨by simp[A],if_neg (fun h=>A h.1)⟩
theorem WD(l:List xh)(hl:l.length≤100000)(s:List UInt8)(g:Nat)(v:Value)(o:Nat→Value)(i:Nat)(hi:i≤1000000000)(e p:Int)(w:World)(G:PG w g v i e p o)(M:Jm g v l w):Calls maa 185 #[.pointer (some ⟨g,0,none⟩),.string (vh s)] w fun r w'=>r = .returned (.bool (hB l s i e))∧GK w g v (mI l s i e:Nat) e p o w':=by
 obtain⟨A,c,rfl,af⟩:=(M.now G.lt).shape;have HG:=kaa (GK.refl G);by_cases I:e=0
 ·subst I;have E:=kaa (fun(u:World) (hu:uh g w u)=>Tu l Tf i s _ u ((M.keep hu G.lt).now (mba G.lt hu.size)));unfold Vk at E;have al:(i:Int)≤1000000000:=by omega
  have H:Hid (hB l s i 0=Qh l i s):=by show _=_;unfold hB;simp
  have HI:Hid (mI l s i 0=if Qh l i s=true then i+1 else i):=by show _=_;unfold mI;simp
  rw[H.out,HI.out];clear H HI M;generalize Qh l i s=b at E ⊢;obtain⟨pl,p0,p1,Q,Y,Z,L⟩:=G;cases b;all_goals simp only[if_true,if_false,Bool.false_eq_true];go_enter Tryz.func185,Tryz.ntmps185;go_upto_region 1 with fail;go_quiet (first|(go_at_call 23;refine(E.out _ ?_).mono ?_;(repeat (first|exact uh.refl _ _|refine uh.drewN ?_ _|refine uh.drew ?_));rintro e w' ⟨I,hw⟩;exact⟨I,_,hw.symm⟩));have J:=kaa (HG.out.drewN nq);clear pl p0 p1 Q Y Z L;generalize Eba _ _=X at J ⊢;obtain⟨pl,p0,p1,Q,Y,Z,L⟩:=J.out.pg;have ao:=L 1;go_wp2_with fail;go_ret;first|exact⟨rfl,J.out⟩|exact⟨rfl,J.out.set1 _⟩
 ·have O:(e==0)=false:=by simpa using I
  have ad:(e != 0)=true:=by rw[bne,O];rfl
  have H:=kaa (Oy (l:=l) (s:=s) (i:=i) (fun h=>absurd h I));rw[H.out.1,H.out.2];obtain⟨pl,p0,p1,Q,Y,Z,L⟩:=G;go_enter Tryz.func185,Tryz.ntmps185;go_upto_region 1 with fail;go_quiet (fail);go_wp2_with fail;go_ret;exact⟨rfl,HG.out.drewN _⟩
theorem Nz(l:List xh)(M:l.length≤100000)(s:List UInt8)(g:Nat)(v:Value)(o:Nat→Value)(i:Nat)(hi:i≤1000000000)(e p:Int)(w:World)(L:PG w g v i e p o)(J:Jm g v l w):Calls maa 147 #[.pointer (some ⟨g,0,none⟩),.string (vh s)] w fun r w'=>r = .returned (.tuple #[])∧GK w g v (mI l s i e:Nat) (mE l s i e) (mP l s i e p) o w':=by
 have H:=kaa (WD l M s g v o i hi e p w L J);have O:=kaa (fun(u:World) (j:Nat) (h:GK w g v j e p o u)=>kq l M g v o j e p u h.pg (J.keep h.kp L.lt));by_cases E:e=0∧Qh l i s=true
 ·obtain⟨rfl,E⟩:=E;have I:mE l s i 0=0:=if_pos ⟨rfl,E⟩;have A:mP l s i 0 p=p:=if_pos ⟨rfl,E⟩;rw[(Qr E).1]at H;rw[I,A];generalize mI l s i 0=j at H ⊢;clear E I A L J;go_enter Tryz.func147,Tryz.ntmps147;go_wp2_with (go_at_call 185;refine H.out.mono ?_;rintro r Z ⟨rfl,A⟩);first|refine bodyPost_end (results_none rfl _ _ _) rfl ?_|refine bodyPost_ret (results_none rfl _ _ _) rfl ?_
  exact⟨rfl,A⟩
 ·have I:mE l s i e=wE l i e 5:=if_neg E;have A:mP l s i e p=wP l i e p:=if_neg E;have G:=Oy (l:=l) (s:=s) (i:=i) (e:=e) (fun Y=>by cases Q:Qh l i s;rfl;exact absurd ⟨Y,Q⟩ E);rw[G.1,G.2]at H;rw[I,A,G.2];clear E I A G L J;go_enter Tryz.func147,Tryz.ntmps147;go_wp2_with (first|(go_at_call 185;refine H.out.mono ?_;rintro r Z ⟨rfl,A⟩)|(go_at_call 24;refine(O.out _ _ A).mono ?_;rintro r w3 ⟨rfl,G⟩));first|refine bodyPost_end (results_none rfl _ _ _) rfl ?_|refine bodyPost_ret (results_none rfl _ _ _) rfl ?_
  exact⟨rfl,A.trans G⟩
def Wr(l:List xh)(w:World)(g:Nat)(v:Value)(i:Nat)(p:Int)(o:Nat→Value)(r:Ending)(w':World):Prop:=match Th l i with
 | .inl (s,j)=>r = .returned (.tuple #[.string (vh s),.int .i64 (tk l i).pos])∧GK w g v j 0 p o w'
 | .inr (A,E)=>r = .returned (.tuple #[.string ⟨#[]⟩,.int .i64 0])∧GK w g v i A E o w'
theorem sP{l:List xh}{w w':World}{g:Nat}{v:Value}{i j:Nat}{p:Int}{o:Nat→Value}{s:List UInt8}{x:Value}{n:Int}(h:Th l i = .inl (s,j))(G:x = .string (vh s))(E:n=(tk l i).pos)(A:GK w g v j 0 p o w'):Wr l w g v i p o (.returned (.tuple #[x,.int .i64 n])) w':=by unfold Wr;rw[h,G,E];exact⟨rfl,A⟩
theorem QJ{l:List xh}{w w':World}{g:Nat}{v:Value}{i:Nat}{p:Int}{o:Nat→Value}(h:Th l i = .inr (cj l i 5))(A:GK w g v i (wE l i 0 5) (wP l i 0 p) o w'):Wr l w g v i p o (.returned (.tuple #[.string ⟨#[]⟩,.int .i64 0])) w':=by unfold Wr;rw[h];exact⟨rfl,A⟩
theorem zF(l:List xh)(hl:l.length≤100000)(aZ:∀ t∈l,t.text.length≤1000000)(g:Nat)(v:Value)(o:Nat→Value)(i:Nat)(hi:i≤1000000000)(p:Int)(w:World)(hp:PG w g v i 0 p o)(hc:Jm g v l w):Calls maa 144 #[.pointer (some ⟨g,0,none⟩)] w (Wr l w g v i p o):=by
 have Y:=kaa (GK.refl hp);have HW:=kaa (fun(u:World) (h:GK w g v i 0 p o u)=>kq l hl g v o i 0 p u h.pg (hc.keep h.kp hp.lt));have a2:(0:Int)≤(i:Int):=Int.natCast_nonneg _;by_cases E:i<l.length∧(tk l i).kind=1
 ·obtain⟨G,hk⟩:=E;obtain⟨H,off,c,rfl,ao,aX,O⟩:=hc.at_ Tf;have a1:(i:Int)<(l.length:Int):=by omega
  have hd:decide (l.length≤i)=false:=by simp;omega
  have hx:∀ u,uh g w u→u.cell? ⟨H,off+i*4,none⟩=some (.int .i64 1)∧u.cell? ⟨H,off+i*4+1,none⟩=some (.string (vh (tk l i).text))∧u.cell? ⟨H,off+i*4+3,none⟩=some (.int .i64 (tk l i).pos):=fun u hu=>by have h:=O u (hu.below (Nat.le_of_lt hp.lt)) i G;rw[← rj G]at h;exact⟨hk▸h.kind,h.text,h.pos⟩
  have Z:=kaa hx;have aU:(tk l i).text.length≤1000000:=by rw[rj G];exact aZ _ (List.getElem_mem G)
  have M:=kaa (fun(u:World) (hu:uh g w u)=>dq (tk l i).text aU u ((hc.keep hu hp.lt).env));unfold Gj at M;have af:Hid (Hh (tk l i).text=true→Th l i = .inl ((tk l i).text,i+1)):=fun h=>if_pos ⟨G,hk,h⟩;have ad:Hid (Hh (tk l i).text=false→Th l i = .inr (cj l i 5)):=fun h=>if_neg (fun h2=>by rw[h]at h2;cases h2.2.2);have aW:Hid (Value.string (vh (tk l i).text) = .string (vh (tk l i).text)):=rfl;have aV:Hid ((tk l i).pos=(tk l i).pos):=rfl;obtain⟨x0,x1,x3⟩:=Z.out w (uh.refl _ _);clear hx O hc hk aU;generalize hT:vh (tk l i).text=T at Z M x1;generalize I:(tk l i).pos=Q at Z x3;have HT:=kaa hT;have HQ:=kaa I;clear hT I aW aV;generalize av:Hh (tk l i).text=b at M;rw[av]at af ad;clear av;obtain⟨pl,p0,p1,p2,p3,p4,pf⟩:=hp;have a3:(i:Int)≤1000000000:=by omega
  have a4:(i:Int)+1 - 1=(i:Int):=by omega
  cases b;all_goals
   go_enter Tryz.func144,Tryz.ntmps144;go_upto_region 1 with fail;go_region_held3 (fun u=>u.cell? ⟨g,0,none⟩=some (.slice (some ⟨H,off,none⟩) l.length c)∧u.cell? ⟨g,1,none⟩=some (.int .i64 i)∧u.cell? ⟨g,2,none⟩=some (.int .i64 0)∧u.cell? ⟨H,off+i*4,none⟩=some (.int .i64 1)∧u.cell? ⟨H,off+i*4+1,none⟩=some (.string T))
    (first|exact⟨I.pg.c0,I.pg.c1,I.pg.c2,(Z.out _ I.kp).1,(Z.out _ I.kp).2.1⟩|exact⟨Y.out.drew.pg.c0,Y.out.drew.pg.c1,Y.out.drew.pg.c2,(Z.out _ Y.out.drew.kp).1,(Z.out _ Y.out.drew.kp).2.1⟩)
    (first|(go_at_call 44;(with_reducible refine(M.out _ Y.out.drew.kp).mono ?_);rintro r w5 ⟨rfl,al⟩;have I:=Y.out.drew.below al))
  all_goals have J:=kaa I;clear pl p0 p1 p2 p3 p4 pf I al x0 x1 x3;obtain⟨pl,p0,p1,p2,p3,p4,pf⟩:=J.out.pg;have a0:=pf 1
  ·go_wp2_with (go_at_call 24;refine(HW.out _ J.out).mono ?_;rintro r w6 ⟨rfl,h6⟩);refine bodyPost_ret (results_tmp2 rfl _ _ _) rfl ?_;exact QJ (ad.out Mg) (J.out.trans h6)
  ·go_upto_region 5 with fail;have L:=kaa (J.out.set1 (i+1));clear pl p0 p1 p2 p3 p4 pf a0;generalize eca _ _ _=X at L ⊢;obtain⟨pl,p0,p1,p2,p3,p4,pf⟩:=L.out.pg;obtain⟨x0,x1,x3⟩:=Z.out _ L.out.kp;go_quiet (fail);go_wp2_with fail;refine bodyPost_ret (results_tmp2 rfl _ _ _) rfl ?_;exact sP (af.out Mg) (congrArg Value.string HT.out.symm) HQ.out.symm (L.out.drewN _)
 ·have HR:Hid (Th l i = .inr (cj l i 5)):=if_neg (fun h=>E ⟨h.1,h.2.1⟩);have aT:(∃ H off c,v = .slice (some ⟨H,off,none⟩) l.length c∧(i:Int)<(l.length:Int)∧decide (l.length≤i)=false∧w.cell? ⟨H,off+i*4,none⟩=some (.int .i64 (tk l i).kind)∧((tk l i).kind==1)=false∧((tk l i).kind != 1)=true)∨(∃ A c,v = .slice A l.length c∧decide (l.length≤i)=true):=by
   rcases Nat.lt_or_ge i l.length with G|aY;·obtain⟨H,off,c,h1,ao,aX,O⟩:=(hc.now hp.lt).at_ Tf;have h:=O i G;rw[← rj G]at h;exact .inl ⟨H,off,c,h1,by omega,by simp;omega,h.kind,by simpa using fun hk=>E ⟨G,hk⟩,by simpa using fun hk=>E ⟨G,hk⟩⟩
   ·obtain⟨A,c,h1,ao⟩:=(hc.now hp.lt).shape;exact .inr ⟨A,c,h1,by simpa using aY⟩
  clear E hc;generalize (tk l i).kind=K at aT;obtain⟨pl,p0,p1,p2,p3,p4,pf⟩:=hp;rcases aT with⟨H,off,c,rfl,h1,h2,h3,h4,h5⟩|⟨A,c,rfl,h1⟩;all_goals go_enter Tryz.func144,Tryz.ntmps144;go_upto_region 1 with fail;go_quiet (fail);have J:=kaa (Y.out.drewN nq);clear pl p0 p1 p2 p3 p4 pf;generalize Eba _ _=X at J ⊢;obtain⟨pl,p0,p1,p2,p3,p4,pf⟩:=J.out.pg;go_wp2_with (go_at_call 24;refine(HW.out _ J.out).mono ?_;rintro r w6 ⟨rfl,h6⟩);refine bodyPost_ret (results_tmp2 rfl _ _ _) rfl ?_;exact QJ HR.out (J.out.trans h6)
structure KR (g:Nat) (o o':Value) (w w':World):Prop where
 os:w'.os=w.os
 tape:w'.tape=w.tape
 output:w'.output=w.output
 size:w.heap.size≤w'.heap.size
 block:∀ k,k < w.heap.size→k≠g→o.ownBlock≠some k→w'.heap[k]? = w.heap[k]?
 own:o'.ownBlock=o.ownBlock∨∃ b,o'.ownBlock=some b∧w.heap.size≤b
theorem KR.of{g:Nat}{w w':World}(o:Value)(h:uh g w w'):KR g o o w w':=⟨h.os,h.tape,h.output,h.size,fun k E A _=>h.block k E A,.inl rfl⟩
theorem KR.trans{g:Nat}{o I J:Value}{a b c:World}(h:KR g o I a b)(k:KR g I J b c):KR g o J a c:=by
 refine⟨k.os.trans h.os,k.tape.trans h.tape,k.output.trans h.output,yba h.size k.size,fun i hi G H=>?_,?_⟩
 ·refine(k.block i (mba hi h.size) G (fun e=>?_)).trans (h.block i hi G H);rcases h.own with h1|⟨A,h1,E⟩;·exact H (h1.symm.trans e)
  ·exact Kf
 ·rcases k.own with k1|⟨A,k1,M⟩
  ·rcases h.own with h1|⟨L,h1,E⟩;·exact .inl (k1.trans h1)
   ·exact .inr ⟨L,k1.trans h1,E⟩
  ·exact .inr ⟨A,k1,yba h.size M⟩
theorem KR.drewN{g:Nat}{o o':Value}{w w':World}(h:KR g o o' w w')(n:Nat):KR g o o' w (w'.drewN n):=⟨h.os,h.tape,h.output,h.size,h.block,h.own⟩
theorem SB.kr{w w':World}{b g:Nat}{x:St}{ev fv o o':Value}(h:SB w b x ev fv)(hk:KR g o o' w w')(A:b≠g)(E:o.ownBlock≠some b):SB w' b x ev fv:=by have hb:=hk.block b h.lt A E;exact Ta
theorem KR.ne{g b:Nat}{o o':Value}{w w':World}(h:KR g o o' w w')(G:b<w.heap.size)(A:o.ownBlock≠some b):o'.ownBlock≠some b:=fun e=>by
 rcases h.own with h1|⟨q,h1,E⟩;·exact A (h1.symm.trans e)
 ·exact Kf
def uk(r:RS (List St))(j:Nat)(e p p0:Int)(pl:List Sv):Prop:=match r with
 | .inl (x,t)=>j=t∧e=0∧p=p0∧pl.map (·.s)=x
 | .inr (a,c)=>e=a∧p=c∧¬ a=0
theorem Am{α:Type}{e p:Int}{i:Nat}{r:RS α}{d:α}(hr:∀ x j,r = .inl (x,j)→i≤j):i≤(ri e p i r d).2.1:=by
 unfold ri;split
 ·split;·exact hr _ _ rfl
  ·exact aaa _
 ·exact aaa _
theorem gG(l:List xh)(σ:Sg)(o:NF):σ.i≤(Bi l σ o).i:=by
 cases o with
 |reg=>exact Am (fun x j hr=>by have:=Si hr;omega)
 |name=>exact Am (fun x j hr=>by have:=Si hr;omega)
 |nodes=>exact Am (fun x j hr=>by have:=Mj hr;omega)
 |more=>exact Am (fun x j hr=>by have:=Mj hr;omega)
 |times=>exact Am (fun x j hr=>by have:=Ql hr;omega)
 |sign s=>exact Am (fun x j hr=>by have:=yj hr;omega)
theorem Do(l:List xh):∀ (A:List NF) (σ:Sg),σ.i≤(ki l σ A).i
 | [],σ=>aaa _
 |o::r,σ=>yba (gG l σ o) (Do l r (Bi l σ o))
theorem Sw(l:List xh)(s:List UInt8)(i:Nat)(e:Int):i≤mI l s i e:=by unfold mI;split<;>omega
theorem iq{l:List xh}(A:l.length≤100000)(s:List UInt8){i:Nat}(hi:i≤1000000)(e:Int):mI l s i e≤1000000:=by
 unfold mI;split;·rename_i h;have:=Zj h.2;omega
 ·exact hi
theorem Qq{l:List xh}{s:List UInt8}{i:Nat}{e:Int}(h:mE l s i e=0):e=0:=by
 unfold mE at h;split at h;·rename_i A;exact A.1
 ·unfold wE at h;split at h;·assumption
  ·exact h
def Su(A:Bool→Nat→RS (List St))(b:Bool)(l:List xh)(i k:Nat)(P:Int):RS (List St) :=
 if k=13∧b=false then .inr (cj l i 5)
 else match Hi l (Gh k) 0 { Vh with kind:=k,pos:=P } (if k=1 then i else i+1)with
  | .inr e=>.inr e
  | .inl (x,j) =>
   if k=11 then match A b j with
    | .inr e=>.inr e
    | .inl (y,j2)=>if Qh l j2 Xk=true then match A b (j2+1)with
      | .inr e=>.inr e
      | .inl (z,E)=>.inl ({ x with body:=y.length,els:=z.length } :: (y++z),E)
     else .inl ({ x with body:=y.length } :: y,j2)
   else if k=12 then match A true j with
    | .inr e=>.inr e
    | .inl (y,j2)=>.inl ({ x with body:=y.length } :: y,j2)
   else match Oh l [59] j with
    | .inr e=>.inr e
    | .inl (_,j2)=>.inl ([x],j2)
theorem SB.below{w w':World}{b:Nat}{x:St}{ev fv:Value}(h:SB w b x ev fv)(A:Below w.heap.size w w'):SB w' b x ev fv:=h.keep (g:=b+1) (uh.of A) Tf
theorem MJ{S:Nat→Prop}{B:Nat}{w:World}{v:Value}{l:List Kh}(h:Wh w v l)(M:dj B v)(J:∀ k,S k→k<B):Ok S w (fun u=>Wh u v l):=fun w' Z I=>by obtain⟨Q,A,c,rfl,L,hr⟩:=h;refine⟨Q,A,c,rfl,L,fun H=>?_⟩;obtain⟨b,off,rfl,G,E⟩:=hr H;refine⟨b,off,rfl,by omega,fun j x O=>?_⟩;exact(Gca (a:=⟨b,off+j,none⟩) (I b G (fun Y=>by have:=M _ _ _ rfl;have:=J b Y;simp only at *;omega))).trans (E j x O)
theorem An{l:List xh}{k i:Nat}{P p:Int}{x:St}{j:Nat}{e1 p1:Int}(h:ki l ⟨{ Vh with kind:=k,pos:=P },i,0,p⟩ (Kn k)=⟨x,j,e1,p1⟩):(Hi l (Gh k) 0 { Vh with kind:=k,pos:=P } i = .inl (x,j)∧e1=0∧p1=p)∨(Hi l (Gh k) 0 { Vh with kind:=k,pos:=P } i = .inr (e1,p1)∧¬ e1=0):=by
 have hr:=my l (Gh k) 0 { Vh with kind:=k,pos:=P } i p
 cases A:Hi l (Gh k) 0 { Vh with kind:=k,pos:=P } i with
 |inl q =>
  obtain⟨y,t⟩:=q
  rw[A]at hr
  have:=(show ki l _ (Pj (Gh k) 0)=_ from hr).symm.trans h
  cases this
  exact .inl ⟨rfl,rfl,rfl⟩
 |inr q =>
  obtain⟨a,b⟩:=q
  rw[A]at hr
  have E:ki l ⟨{ Vh with kind:=k,pos:=P },i,0,p⟩ (Pj (Gh k) 0)=⟨x,j,e1,p1⟩:=h
  simp only[E]at hr
  exact .inr ⟨by rw[hr.1,hr.2.1],by rw[hr.1];exact hr.2.2⟩
theorem Kw{l:List xh}{G:Bool→Nat→RS (List St)}{b:Bool}{i k:Nat}{P p:Int}{x:St}{j:Nat}{e1 p1:Int}(J:¬ (k=13∧b=false))(H:k≠11)(I:k≠12)(h:ki l ⟨{ Vh with kind:=k,pos:=P },if k=1 then i else i+1,0,p⟩ (Kn k)=⟨x,j,e1,p1⟩)(ev fv:Value):uk (Su G b l i k P) (mI l [59] j e1) (mE l [59] j e1) (mP l [59] j e1 p1) p [⟨x,ev,fv⟩]:=by
 unfold Su;rw[if_neg J];rcases An h with⟨L,rfl,rfl⟩|⟨L,he⟩
 ·rw[L];simp only;rw[if_neg H,if_neg I];unfold Oh mI mE mP;by_cases E:Qh l j [59]=true;·have A:(0:Int)=0∧Qh l j [59]=true:=⟨rfl,E⟩;rw[if_pos A,if_pos A,if_pos A,if_pos E];exact⟨rfl,rfl,rfl,rfl⟩
  ·have A:¬ ((0:Int)=0∧Qh l j [59]=true):=fun h=>E h.2;rw[if_neg A,if_neg A,if_neg A,if_neg E];exact⟨rfl,rfl,Bv Uf⟩
 ·rw[L];unfold mI mE mP wE wP;have A:¬ (e1=0∧Qh l j [59]=true):=fun h=>he h.1;rw[if_neg A,if_neg A,if_neg A,if_neg he,if_neg he];exact⟨rfl,rfl,he⟩
theorem Js{l:List xh}{k i:Nat}{P p:Int}{x:St}{j:Nat}{e1 p1:Int}(h:ki l ⟨{ Vh with kind:=k,pos:=P },if k=1 then i else i+1,0,p⟩ (Kn k)=⟨x,j,e1,p1⟩)(E:e1=0):i<j:=by
 rcases An h with⟨H,_,_⟩|⟨_,G⟩
 ·have g:=Wn H;by_cases A:k=1;·rw[if_pos A,A]at g;exact g.2.2.2 Uf
  ·rw[if_neg A]at g;omega
 ·exact absurd E G
theorem kH{l:List xh}{A:Bool→Nat→RS (List St)}{b:Bool}{i k:Nat}{P p:Int}{x:St}{j:Nat}{e1 p1:Int}(E:¬ (k=13∧b=false))(h:ki l ⟨{ Vh with kind:=k,pos:=P },if k=1 then i else i+1,0,p⟩ (Kn k)=⟨x,j,e1,p1⟩)(G:¬ e1=0)(t:Nat)(r:List Sv):uk (Su A b l i k P) t e1 p1 p r:=by
 unfold Su;rw[if_neg E];rcases An h with⟨_,H,_⟩|⟨I,_⟩;·exact absurd H G
 ·rw[I];exact⟨rfl,rfl,G⟩
theorem JJ{l:List xh}{A:Bool→Nat→RS (List St)}{b:Bool}{i:Nat}{P p:Int}{x:St}{j:Nat}{e1 p1:Int}(h:ki l ⟨{ Vh with kind:=(12:Nat),pos:=P },if (12:Nat)=1 then i else i+1,0,p⟩ (Kn 12)=⟨x,j,e1,p1⟩)(O:e1=0){ev fv:Value}{j2:Nat}{G H:Int}{r:List Sv}(E:uk (A true j) j2 G H p1 r):uk (Su A b l i 12 P) j2 G H p (⟨{ x with body:=(r.length:Nat) },ev,fv⟩::r):=by
 unfold Su;rw[if_neg (fun h=>absurd h.1 Uf)];rcases An h with⟨Q,_,rfl⟩|⟨_,hn⟩
 ·rw[Q];simp only[show((12:Nat)=11) ↔ False by decide,if_false,if_true];cases hr:A true j with
  |inr q=>obtain⟨a,c⟩:=q;rw[hr]at E;exact E
  |inl q =>obtain⟨y,t⟩:=q;rw[hr]at E;obtain⟨I,J,L,M⟩:=E;subst M;exact⟨I,J,L,by simp⟩
 ·exact absurd O hn
theorem fF{l:List xh}{A:Bool→Nat→RS (List St)}{b:Bool}{i:Nat}{P p:Int}{x:St}{j:Nat}{e1 p1:Int}(h:ki l ⟨{ Vh with kind:=(11:Nat),pos:=P },if (11:Nat)=1 then i else i+1,0,p⟩ (Kn 11)=⟨x,j,e1,p1⟩)(Q:e1=0){ev fv:Value}{j2:Nat}{G J:Int}{r:List Sv}(E:uk (A b j) j2 G J p1 r)(H:¬ (G=0∧Qh l j2 Xk=true)):uk (Su A b l i 11 P) j2 G J p (⟨{ x with body:=(r.length:Nat) },ev,fv⟩::r):=by
 unfold Su;rw[if_neg (fun h=>absurd h.1 Uf)];rcases An h with⟨Z,_,rfl⟩|⟨_,H⟩
 ·rw[Z];simp only[if_true];cases hr:A b j with
  |inr q=>obtain⟨a,c⟩:=q;rw[hr]at E;exact E
  |inl q =>obtain⟨y,t⟩:=q;rw[hr]at E;obtain⟨L,I,M,O⟩:=E;subst O L;simp only;rw[if_neg (fun Y=>H ⟨I,Y⟩)];exact⟨rfl,I,M,by simp⟩
 ·exact absurd Q H
theorem xM{l:List xh}{A:Bool→Nat→RS (List St)}{b:Bool}{i:Nat}{P p:Int}{x:St}{j:Nat}{e1 p1:Int}(h:ki l ⟨{ Vh with kind:=(11:Nat),pos:=P },if (11:Nat)=1 then i else i+1,0,p⟩ (Kn 11)=⟨x,j,e1,p1⟩)(he:e1=0){ev fv:Value}{j2:Nat}{Q p2:Int}{r:List Sv}(G:uk (A b j) j2 Q p2 p1 r)(I:Q=0)(hi:Qh l j2 Xk=true){Z:Nat}{Y p3:Int}{O:List Sv}(E:uk (A b (j2+1)) Z Y p3 p2 O):uk (Su A b l i 11 P) Z Y p3 p (⟨{ x with body:=(r.length:Nat),els:=(O.length:Nat) },ev,fv⟩::(r++O)):=by
 unfold Su;rw[if_neg (fun h=>absurd h.1 Uf)];rcases An h with⟨hp,_,rfl⟩|⟨_,hn⟩
 ·rw[hp];simp only[if_true];cases hr:A b j with
  |inr q=>obtain⟨a,c⟩:=q;rw[hr]at G;exact absurd (G.1▸I) G.2.2
  |inl q =>
   obtain⟨y,t⟩:=q
   rw[hr]at G
   obtain⟨J,I,L,M⟩:=G
   subst M J L
   simp only
   rw[if_pos hi]
   cases H:A b (j2+1)with
   |inr q=>obtain⟨a,c⟩:=q;rw[H]at E;exact E
   |inl q =>obtain⟨y,t⟩:=q;rw[H]at E;obtain⟨J,I,L,M⟩:=E;subst M;exact⟨J,I,L,by simp⟩
 ·exact absurd he hn
theorem KR.drew{g:Nat}{o o':Value}{w w':World}(h:KR g o o' w w'):KR g o o' w w'.drew:=⟨h.os,h.tape,h.output,h.size,h.block,h.own⟩
theorem pz{α:Type}(pl r:List α)(a y:α):(pl++a::r).set pl.length y=pl++y::r:=by rw[List.set_append];simp
theorem bq{w:World}{G:Nat}{e:TypeId}{size:Nat}{v:Value}{n:Nat}{I:List Value}(h:w.ownsRow G e size v n I)(Q:0<n):∃ H c,v = .slice (some ⟨H,0,none⟩) n c∧v.ownBlock=some H∧(∀ j x,I[j]? = some x→w.cell? ⟨H,j,none⟩=some x):=by
 have Y:=Ti h;rcases h.2 with⟨rfl,h0,_⟩|⟨q,cap,cur,rfl,hq,hh,r⟩;·omega
 ·refine⟨q,cap,rfl,rfl,?_⟩;obtain⟨_,A,c,L,Z,hr⟩:=Y;obtain⟨b,off,J,O,E⟩:=hr Q;cases L;cases J;intro j x M;have:=E j x M;rwa [Nat.zero_add]at this
end Go.Proofs.YtjcihcncljihoaaGreatDoor

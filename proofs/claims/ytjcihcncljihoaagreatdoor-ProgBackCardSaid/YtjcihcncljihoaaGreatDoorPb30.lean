/- Chapter 05 (programs), joined: ScnD. -/
import Derived.Test.YtjcihcncljihoaaGreatDoorPb29
import Derived.WalkMore
set_option maxRecDepth 100000
set_option maxHeartbeats 4000000
namespace Go.Proofs.YtjcihcncljihoaaGreatDoor
open Go Go.RowKit
set_option linter.unusedVariables false
open Go.Ending renaming returned→daa
open Go.Lib renaming hid→kaa
open Int renaming zero_add→Oea
open List renaming drop_drop→waa,drop_succ_cons→Nea,length_cons→jaa,takeWhile_cons→iaa
open Nat renaming le_refl→aaa,le_trans→yba
open Option.some renaming injEq→dda
open xh renaming cells→cda
open Go.Proofs.Tryz renaming prog→maa
instance(c:UInt8)(r:List UInt8):Decidable (Ir c r):=inferInstanceAs (Decidable (_∧_))
theorem Na{P:Prop}(h:P:=by
 have hd4:decide ((4000:Int)<(s.size:Int))=true:=by simp;omega
 have HX:Hid (Li s.data.toList=([],2,4000)):=Bo (by simpa using h4);clear h4;go_enter Tryz.func21,Tryz.ntmps21;go_wp2_with fail;go_step3;go_wp2_with fail;rw[Exit.noGoto_ret];refine bodyPost_ret (results_tmp3 rfl _ _ _) rfl ?_;exact ay HX.out (Below.refl _ _)):P:=h
theorem Mf{P:Prop}(h:P:=by rw[nx]at this;exact this):P:=h
theorem Ds:∀ (l:List UInt8) (p:Nat),Zi false p l=Zi false (p+(l.takeWhile gi).length) (l.drop (l.takeWhile gi).length)
 | [],p=>rfl
 |c::r,p=>by
  cases h:gi c with
  |true =>rw[Zr h,jaa,Nea,Vp p h,Ds r (p+1),show p+1+(r.takeWhile gi).length=p+((r.takeWhile gi).length+1) by omega]
  |false =>rw[iaa,h];rfl
theorem Ax:∀ (l:List UInt8) (c:UInt8) (r:List UInt8),l.drop (l.takeWhile gi).length=c::r→gi c=false
 | [],_,_,h=>by cases h
 |d::l,c,r,h=>by
  cases A:gi d with
  |true=>rw[Zr A,jaa,Nea]at h;exact Ax l c r h
  |false =>rw[iaa,A]at h;injection h with h _;rw[← h];exact A
theorem RJ{c:UInt8}(h:Ht c=false):c.toNat=10:=by unfold Ht at h;simpa using h
theorem AM{c:UInt8}(h:Ht c=true):¬ c.toNat=10:=by unfold Ht at h;simpa using h
theorem jy:∀ (l:List UInt8) (p:Nat),Zi true p l=Zi false (p+(l.takeWhile Ht).length) (l.drop (l.takeWhile Ht).length)
 | [],p=>by rw[Gq,List.takeWhile_nil,List.drop_nil,Gq]
 |c::r,p=>by
  cases h:Ht c with
  |true =>rw[Zr h,jaa,Nea,KA p (AM h),jy r (p+1),show p+1+(r.takeWhile Ht).length=p+((r.takeWhile Ht).length+1) by omega]
  |false =>have A:=RJ h;rw[iaa,h];show Zi true p (c::r)=Zi false p (c::r);rw[iy p A,Vp p (by unfold gi;simp[A])]
theorem tz{c:UInt8}{r:List UInt8}(p:Nat)(A:gi c=false)(h:Ir c r):Zi false p (c::r)=Zi false (p+((c::r).takeWhile Ht).length) ((c::r).drop ((c::r).takeWhile Ht).length)∧1≤((c::r).takeWhile Ht).length:=by
 have E:Ht c=true:=by unfold Ht;rw[h.1];rfl
 rw[Zr E,jaa,Nea,gy p A h,jy r (p+1),show p+1+(r.takeWhile Ht).length=p+((r.takeWhile Ht).length+1) by omega];exact⟨rfl,by omega⟩
theorem SE(c:UInt8)(r:List UInt8):[47,47].isPrefixOf (c::r)=decide (Ir c r):=by
 rw[Bool.eq_iff_iff,decide_eq_true_eq]
 unfold Ir
 cases r with
 |nil=>simp
 |cons d r =>
  simp only[List.isPrefixOf,Bool.and_true,Bool.and_eq_true,beq_iff_eq,List.head?_cons,dda]
  constructor
  ·rintro⟨rfl,rfl⟩;exact⟨rfl,rfl⟩
  ·rintro⟨A,E⟩;exact⟨(UInt8.toNat_inj.1 (by rw[A];rfl)).symm,E.symm⟩
theorem nx(s:ByteArray)(p:Nat):(s.extract p s.size).data.toList=s.data.toList.drop p:=by rw[← ByteArray.toList_eq,Wl];exact List.take_of_length_le Yf
structure Ct (s:ByteArray) (w:World) (p:Nat) (ts:List xh) (v:Value) (wr:World):Prop where
 le:p≤s.size
 tp:ts.length≤p
 own:wr.ownsRow w.heap.size 66 4 v ts.length (ts.flatMap cda)
 below:Below w.heap.size w wr
 res:Nn ts (Zi false p (s.data.toList.drop p))=Li s.data.toList
theorem Ct.move{s:ByteArray}{w wr:World}{p q:Nat}{ts:List xh}{v:Value}(h:Ct s w p ts v wr)(E:p≤q)(hq:q≤s.size)(A:Zi false p (s.data.toList.drop p)=Zi false q (s.data.toList.drop q)):Ct s w q ts v wr :=
 ⟨hq,by have:=h.tp;omega,h.own,h.below,by rw[← A];exact h.res⟩
theorem Ct.fin{s:ByteArray}{w wr:World}{ts:List xh}{v:Value}(h:Ct s w s.size ts v wr):Li s.data.toList=(ts,0,0):=by rw[← h.res,DK s s.size (aaa _),Gq,nC]
theorem Ct.err{s:ByteArray}{w wr:World}{q:Nat}{ts:List xh}{v:Value}(h:Ct s w q ts v wr){c:UInt8}{r:List UInt8}(G:s.data.toList.drop q=c::r)(E:gi c=false)(hr:¬ Ir c r){e:Int}(ht:lj (s.data.toList.drop q) 0 = .inr e):Li s.data.toList=([],e,(q:Int)):=by have A:=Ev (s.data.toList.drop q) 0 q;rw[ht,Oea]at A;rw[← h.res];rw[G]at A ⊢;rw[ky (Xt E hr) A,mC _ _ _ (by rcases Fv ht with h|h|h<;>omega)]
theorem Ct.step{s:ByteArray}{w wr w':World}{q n:Nat}{ts:List xh}{v v':Value}(h:Ct s w q ts v wr){c:UInt8}{r:List UInt8}(H:s.data.toList.drop q=c::r)(M:gi c=false)(hr:¬ Ir c r){t:xh}(ht:lj (s.data.toList.drop q) 0 = .inl (t,n))(G:w'.ownsRow w.heap.size 66 4 v' (ts.length+1) (ts.flatMap cda++(⟨t.kind,t.text,t.n,q⟩:xh).cells))(I:Below w.heap.size w w'):Ct s w (q+n) (ts++[⟨t.kind,t.text,t.n,q⟩]) v' w':=by
 have J:=Yk ht;have A:=Ev (s.data.toList.drop q) 0 q;rw[ht,Oea]at A;have A:lj (s.data.toList.drop q) q = .inl (iQ q t,n):=A;have Q:(iQ q t)=⟨t.kind,t.text,t.n,q⟩:=by unfold iQ;rw[J.2.2.2,Oea]
 rw[Q]at A;have O:n≤s.size - q:=by simpa using J.2.1
 have hq:=h.le;have E:(c::r).length=s.size - q:=by rw[← H];simp
 have L:0<s.size - q:=by rw[← E];simp
 refine⟨by omega,by have:=h.tp;have:=J.1;simp;omega,by simpa using G,I,?_⟩;rw[← h.res];rw[H]at A;rw[H,fy (Xt M hr) A,ak,← H,waa]
theorem dG{l:List UInt8}{t:xh}{n:Nat}(h:lj l 0 = .inl (t,n)):t.text.length=n:=by have A:=Yk h;rw[A.2.2.1,List.length_take,Nat.min_eq_left A.2.1]
theorem RO{s:ByteArray}{w wr w1:World}{p0:Nat}{ts:List xh}{v:Value}(h:Ct s w p0 ts v wr)(A:Below wr.heap.size wr w1)(k:Int)(x:List UInt8)(m:Int)(q:Nat):((w1.alloc (.cells #[.int .i64 k,.string (vh x),.int .i64 m,.int .i64 q] 66)).alloc (.cells #[.int .i64 k,.string (vh x),.int .i64 m,.int .i64 q] 66)).ownsRow w.heap.size 66 4 v ts.length (ts.flatMap cda)∧Below w.heap.size w ((w1.alloc (.cells #[.int .i64 k,.string (vh x),.int .i64 m,.int .i64 q] 66)).alloc (.cells #[.int .i64 k,.string (vh x),.int .i64 m,.int .i64 q] 66))∧(∀ j u,(cda ⟨k,x,m,q⟩)[j]? = some u→((w1.alloc (.cells #[.int .i64 k,.string (vh x),.int .i64 m,.int .i64 q] 66)).alloc (.cells #[.int .i64 k,.string (vh x),.int .i64 m,.int .i64 q] 66)).cell? ((⟨w1.heap.size+1,0,none⟩:Addr).add j)=some u)∧w.heap.size≤((w1.alloc (.cells #[.int .i64 k,.string (vh x),.int .i64 m,.int .i64 q] 66)).alloc (.cells #[.int .i64 k,.string (vh x),.int .i64 m,.int .i64 q] 66)).heap.size∧(∀ E:World,((w1.alloc (.cells #[.int .i64 k,.string (vh x),.int .i64 m,.int .i64 q] 66)).alloc (.cells #[.int .i64 k,.string (vh x),.int .i64 m,.int .i64 q] 66)).grownBy E v.ownBlock→E.cell? ⟨w1.heap.size,1,none⟩=some (.string (vh x))):=by
 have G:=h.below.size;have H:=A.size;refine⟨((Ih h.own A).alloc _).alloc _,((h.below.trans (A.mono G)).alloc (yba G H) _).alloc Ag _,?_,by simp;omega,?_⟩;·have:=qE (w1.alloc (.cells #[.int .i64 k,.string (vh x),.int .i64 m,.int .i64 q] 66)) (.int .i64 k) (.string (vh x)) (.int .i64 m) (.int .i64 q) 66;rw[World.size_alloc]at this;exact this
 ·intro E I;rw[I.cell_far _ Ag (fun e=>by have:=(h.own.lt _ e.symm).2;simp at this;omega),World.cell?_alloc_lt _ _ _ Yf,World.cell?_alloc_new];rfl
theorem dM(s:ByteArray)(hs:s.size≤1000000)(h4:s.size≤4000)(w:World)(hE:Xj w):Calls maa 21 #[.string s] w (On (Li s.data.toList) w):=by
 obtain⟨i0,hi,bT,bU,bV⟩:=info_parts iK;have b2:decide ((4000:Int)<(s.size:Int))=false:=by simp;omega
 have HE:=kaa hE;clear hE;go_enter Tryz.func21,Tryz.ntmps21;go_wp2_with fail;go_step3;go_wp2_with fail;go_step3;go_wp2_with fail;go_loopw [5,6,7,8] (fun v i _ _ wr=>∃ (p:Nat) (ts:List xh),i = .int .i64 p∧Ct s w p ts v wr) (fun _ i _ _ _=>s.size - (intOf i).toNat);case atStart =>refine⟨0,[],rfl,Nat.zero_le _,aaa _,⟨rfl,.inl ⟨rfl,rfl⟩⟩,Below.refl _ _,?_⟩;rw[UL (by simpa using h4)];exact Zv _ _ _
 case round =>
  obtain⟨p,ts,rfl,hinv⟩:=hrel;have HI:=kaa hinv;have bW:=hinv.le;clear hinv;have J:Hid (∀ u,Calls maa 76 #[.string (s.extract p s.size),.func (.func 77) #[] #[]] u fun e w'=>e = .returned (.int .i64 ((s.data.toList.drop p).takeWhile gi).length)∧u=w'):=fun u=>by have:=xG (s.extract p s.size) Ag u;exact Mf
  have Y:=kaa (Ds (s.data.toList.drop p) p);have aV:=kaa (Ax (s.data.toList.drop p));have bh:((s.data.toList.drop p).takeWhile gi).length≤s.size - p:=by have:=Hk gi (s.data.toList.drop p);simpa using this
  generalize ((s.data.toList.drop p).takeWhile gi).length=n at J Y aV bh;obtain⟨q,G⟩:∃ q,q=p+n:=⟨_,rfl⟩;have bX:(p:Int)+(n:Int)=(q:Int):=by omega
  have bs:q≤s.size:=by omega
  have a5:Hid (p≤q):=by show p≤q;omega
  have A:Hid (Ct s w q ts u5 wr):=HI.out.move Tf bs (by rw[Y.out,waa,← G]);have a7:Hid (∀ c r,s.data.toList.drop q=c::r→gi c=false):=fun c r h=>aV.out c r (by rw[waa,← G];exact h);clear HI Y aV G;by_cases O:q=s.size
  ·have aW:((q:Int)==(s.size:Int))=true:=by rw[beq_iff_eq];omega
   have HF:Hid (Li s.data.toList=(ts,0,0)):=by have:=A.out;rw[O]at this;exact this.fin
   clear O;go_wp2_with (go_at_call 76;refine(J.out _).mono ?_;rintro e w' ⟨rfl,rfl⟩);refine bodyPost_ret (results_tmp3 rfl _ _ _) rfl ?_;exact EA HF.out (Ti A.out.own) A.out.below
  ·have av:q<s.size:=by omega
   have aW:((q:Int)==(s.size:Int))=false:=by rw[beq_eq_false_iff_ne];omega
   have hD:=FF s q av;have hb:=a7.out _ _ hD;have HD:=kaa hD;clear O;by_cases E:Ir (s[q]'av) (s.data.toList.drop (q+1))
   ·have Q:Hid (∀ u:World,Calls maa 78 #[.string (s.extract q s.size),.string ⟨#[47,47]⟩] u fun e w'=>e = .returned (.bool true)∧u=w'):=fun u =>
     (Tryz.strings_HasPrefix (s.extract q s.size) ⟨#[47,47]⟩ u).mono fun _ _ ⟨h1,h2⟩=>⟨by rw[h1,nx,hD];show daa (.bool ([47,47].isPrefixOf _))=_;rw[SE,decide_eq_true E],h2.symm⟩
    have a6:Hid (∀ u,Calls maa 76 #[.string (s.extract q s.size),.func (.func 79) #[] #[]] u fun e w'=>e = .returned (.int .i64 ((s.data.toList.drop q).takeWhile Ht).length)∧u=w'):=fun u=>by have:=jO (s.extract q s.size) Ag u;exact Mf
    have Y:=kaa (tz q hb E);rw[← hD]at Y;have aX:((s.data.toList.drop q).takeWhile Ht).length≤s.size - q:=by have:=Hk Ht (s.data.toList.drop q);simpa using this
    clear hD hb E;generalize ((s.data.toList.drop q).takeWhile Ht).length=n2 at a6 Y aX;obtain⟨q2,G⟩:∃ q2,q2=q+n2:=⟨_,rfl⟩;have bR:(q:Int)+(n2:Int)=(q2:Int):=by omega
    have aZ:q2≤s.size:=by omega
    have aT:Hid (q<q2):=by have:=Y.out.2;show q<q2;omega
    have bE:Hid (Ct s w q2 ts u5 wr):=A.out.move Tf aZ (by rw[Y.out.1,waa,← G]);clear A Y G;go_wp2_with (first|(go_at_call 76;(with_reducible refine(J.out _).mono ?_);rintro e w' ⟨rfl,rfl⟩)|(go_at_call 76;(with_reducible refine(a6.out _).mono ?_);rintro e w' ⟨rfl,rfl⟩)|(go_at_call 78;refine(Q.out _).mono ?_;rintro e w' ⟨rfl,rfl⟩));go_roundw;case rel=>exact⟨q2,ts,rfl,bE.out⟩
    case measure=>have:=aT.out;have:=a5.out;simp[intOf];omega
   ·have Q:Hid (∀ u:World,Calls maa 78 #[.string (s.extract q s.size),.string ⟨#[47,47]⟩] u fun e w'=>e = .returned (.bool false)∧u=w'):=fun u =>
     (Tryz.strings_HasPrefix (s.extract q s.size) ⟨#[47,47]⟩ u).mono fun _ _ ⟨h1,h2⟩=>⟨by rw[h1,nx,hD];show daa (.bool ([47,47].isPrefixOf _))=_;rw[SE,decide_eq_false E],h2.symm⟩
    have HB:=kaa hb;have al:=kaa E;have a2:=kaa (HE.out.below A.out.below);have Z:Hid (∀ u:World,Xj u→Calls maa 80 #[.string (s.extract q s.size)] u fun e w'=>e = .returned (TC (lj (s.data.toList.drop q) 0))∧Below u.heap.size u w'):=fun u hu=>by have:=DL (s.extract q s.size) Ag Ag u hu;unfold Cm at this;exact Mf
    clear hD hb E;cases ht:lj (s.data.toList.drop q) 0 with
    |inr e0 =>
     have HF:=kaa (A.out.err HD.out HB.out al.out ht);have b3:(e0 != 0)=true:=by rcases Fv ht with h|h|h<;>subst h<;>rfl
     have L:Hid (∀ u:World,Xj u→Calls maa 80 #[.string (s.extract q s.size)] u fun e w'=>e = .returned (.tuple #[.agg #[.int .i64 0,.string (vh []),.int .i64 0,.int .i64 0],.int .i64 e0])∧Below u.heap.size u w'):=fun u hu=>by have:=Z.out u hu;rw[ht]at this;exact this
     clear ht Z;go_wp2_with (first|(go_at_call 76;refine(J.out _).mono ?_;rintro e w' ⟨rfl,rfl⟩)|(go_at_call 78;refine(Q.out _).mono ?_;rintro e w' ⟨rfl,rfl⟩)|(go_at_call 80;refine(L.out _ a2.out).mono ?_;rintro e w1 ⟨rfl,M⟩;have a1:=kaa M;clear M));refine bodyPost_ret (results_tmp3 rfl _ _ _) rfl ?_;exact ay HF.out ((A.out.below.trans (a1.out.mono A.out.below.size)).alloc (yba A.out.below.size a1.out.size) _)
    |inl x =>
     obtain⟨t,n3⟩:=x;have bI:=kaa ht;have ao:=dG ht;have bL:=(Yk ht).1;have ad:=(Yk ht).2.1;have bk:=(Yk ht).2.2.2;rw[List.length_drop]at ad;have ad:n3≤s.size - q:=by simpa using ad
     obtain⟨q3,G⟩:∃ q3,q3=q+n3:=⟨_,rfl⟩;have bS:(q:Int)+((vh t.text).size:Int)=(q3:Int):=by rw[Dh,ao];omega
     have bN:q3≤s.size:=by omega
     have aT:Hid (q<q3):=by show q<q3;omega
     have L:Hid (∀ u:World,Xj u→Calls maa 80 #[.string (s.extract q s.size)] u fun e w'=>e = .returned (.tuple #[.agg #[.int .i64 t.kind,.string (vh t.text),.int .i64 t.n,.int .i64 t.pos],.int .i64 0])∧Below u.heap.size u w'):=fun u hu=>by have:=Z.out u hu;rw[ht]at this;exact this
     have bF:=kaa G;have af:Hid (ts.length+1≤maxLen∧(ts.length+1)*40≤140737488355328):=by have:=A.out.tp;show _∧_;unfold maxLen;constructor<;>omega
     have a3:=kaa A.out.own.lt;have bY:Hid (w.heap.size≤wr.heap.size):=A.out.below.size;clear ht Z ao bL ad bk G;go_wp2_with (first|(go_at_call 76;refine(J.out _).mono ?_;rintro e w' ⟨rfl,rfl⟩)|(go_at_call 78;refine(Q.out _).mono ?_;rintro e w' ⟨rfl,rfl⟩)|(go_at_call 80;refine(L.out _ a2.out).mono ?_;rintro e w1 ⟨rfl,M⟩;obtain⟨a8,a9,bb,bf,bg⟩:=RO A.out M t.kind t.text t.n q;have a4:=kaa a8;have a0:=kaa a9;have aU:=kaa bb;have I:=kaa bf;have bt:=kaa bg;clear a8 a9 bb bf bg M)|(at_builtin;refine wpList_append_own_at _ rfl _ _ 53 rfl w.heap.size 66 i0 _ 4 40 Tryz.underlying53 hi bT bU bV rfl Uf u5 ts.length (ts.flatMap cda) rfl a4.out ⟨w1.heap.size+1,0,none⟩ 1 1 (cda ⟨t.kind,t.text,t.n,q⟩) rfl rfl aU.out (EL _) af.out.1 af.out.2 I.out ?_;intro v2 w2 aY H b0 bZ;have b1:=bt.out w2 H));go_roundw;case rel =>refine⟨q3,ts++[⟨t.kind,t.text,t.n,q⟩],rfl,?_⟩;rw[bF.out];exact A.out.step HD.out HB.out al.out bI.out aY (a0.out.grown H I.out (fun g hg=>(a3.out g hg).1))
     case measure=>have:=aT.out;have:=a5.out;simp[intOf];omega
theorem eM(s:ByteArray)(E:s.size≤1000000)(w:World)(A:Xj w):Calls maa 21 #[.string s] w (On (Li s.data.toList) w):=by
 by_cases h4:s.size≤4000;·exact dM s E h4 w A
 ·exact Na
end Go.Proofs.YtjcihcncljihoaaGreatDoor

/- Chapter 05 (programs), joined: StrD, StrF, PgrA, BldA, PgsA. -/
import Derived.Test.YtjcihcncljihoaaGreatDoorPb16
import Derived.Laws.Externs
import Derived.Lib.AppendStr
import Derived.Lib.Builder
import Derived.Lib.OthersKept
import Derived.Lib.UnsafeStr
import Derived.Lib.Walk
import Derived.OwnWalk
set_option maxRecDepth 100000
set_option maxHeartbeats 8000000
namespace Go.Proofs.YtjcihcncljihoaaGreatDoor
open Go Go.RowKit
set_option linter.unusedVariables false
open _root_.Array renaming getElem?_eq_some_iff→zca
open _root_.ByteArray renaming append_assoc→Qda
open Go.Extern.AbiNoEscape renaming same→Jda
open Go.Lib renaming BuilderAt→Kda,IsBuilder→Eda,byteCells→Fda,cell_of_heap→Nda,hid→kaa,itoa→Paa,strCells→Mda
open Go.Lib.BuilderAt renaming put→Oda
open Go.Lib.OthersKept renaming refl→Lda
open Go.Oper renaming upon_value→Ida
open Go.Result renaming andThen→Hda
open Go.RowKit.Below renaming refl→Gaa
open Kv renaming cells→Cda
open List renaming all_eq_true→pda,getElem?_eq_some_iff→zda,getElem_mem→dba,length_append→xaa,length_cons→jaa,length_map→Oca,length_nil→Xaa
open Nat renaming add_zero→Ada,le_refl→aaa,le_trans→yba,mul_one→Bda,zero_le→laa
open Option renaming map_eq_some_iff→Gda
open Option.some renaming inj→Pda
open Tv renaming cells→Dda
open Wh renaming shape→Nca
open Xh renaming cells→Kca
open Go.Proofs.Tryz renaming prog→maa
theorem Gb{P:Prop}(h:P:=by go_enter Tryz.func197,Tryz.ntmps197;go_wp2_with (go_at_call 198;refine(HC.out _).mono ?_;rintro e w' ⟨rfl,rfl⟩);go_ret;exact⟨rfl,rfl⟩):P:=h
theorem Yb{P:Prop}(h:P:=by
 go_roundw;case rel=>exact⟨j+1,A6,c6,by omega,by go_num,rfl,by rw[HNX.out];exact hown6,hB6⟩
 case measure=>simp[intOf];omega):P:=h
theorem Cc{P:Prop}(h:P:=by go_enter Tryz.func199,Tryz.ntmps199;go_wp2_with fail;go_ret;exact⟨rfl,Below.refl _ _⟩):P:=h
theorem Dc{P:Prop}(h:P:=by have HY:=Lib.hid (yO (fun j' h=>HNO.out j' h (by omega)));go_wp2_with fail;go_ret;exact⟨HB.out,-1,rfl,by rw[HY.out];rfl⟩):P:=h
theorem Lc{P:Prop}(h:P:=by
 go_roundw;case rel=>exact⟨j+1,by omega,by go_num,bt HB.out hb2,HNX.out (by trivial)⟩
 case measure=>simp[intOf];omega):P:=h
theorem qe{P:Prop}(h:P:=by go_ret;exact⟨bt HB.out hb2,j,rfl,by rw[HON.out (by trivial)];simp⟩):P:=h
theorem Ve{P:Prop}(h:P:=by
 rcases h with h|h;·exact .inl (hx _ h)
 ·exact .inr (hx _ h)):P:=h
theorem BH:∀ k,k<15→∀ c∈([114,110,101,102,107]:List UInt8),decide (0≤Lib.indexByte (Ii k) c)=(Ii k).contains c:=by decide
theorem wO(k:Nat)(I:k<15)(c:UInt8)(E:c∈([114,110,101,102,107]:List UInt8))(b:Nat)(w:World)(H:w.cell? ⟨b,0,none⟩=some (.string (vh (Ii k)))):Calls maa 197 #[.string ⟨#[c]⟩,.pointer (some ⟨b,0,none⟩)] w fun e w'=>e = .returned (.bool ((Ii k).contains c))∧w=w':=by have HC:Hid (∀ u,Calls maa 198 #[.string (vh (Ii k)),.string ⟨#[c]⟩] u fun e w'=>e = .returned (.bool ((Ii k).contains c))∧u=w'):=fun u=>(Tryz.strings_Contains_one (vh (Ii k)) c u).mono (fun e w' h=>by obtain⟨A,G⟩:=h;rw[Yi,BH k I c E]at A;exact⟨A,G.symm⟩);generalize vh (Ii k)=S at H HC;generalize (Ii k).contains c=B at HC ⊢;clear E;exact Gb
theorem ID(c:UInt8)(b:Nat)(w:World)(G:w.cell? ⟨b,0,none⟩=some (.string ⟨#[]⟩)):Calls maa 197 #[.string ⟨#[c]⟩,.pointer (some ⟨b,0,none⟩)] w fun e w'=>e = .returned (.bool false)∧w=w':=by have HC:Hid (∀ u,Calls maa 198 #[.string ⟨#[]⟩,.string ⟨#[c]⟩] u fun e w'=>e = .returned (.bool false)∧u=w'):=fun u=>(Tryz.strings_Contains_one ⟨#[]⟩ c u).mono (fun e w' h=>by obtain⟨A,E⟩:=h;exact⟨A.trans jg,E.symm⟩);exact Gb
def xo(b:Bool)(s:List UInt8):Bool:=if b=true then Hh s else s==[]
theorem OJ(b:Bool)(s:List UInt8)(O:s.length≤1000000)(w:World)(J:Xj w):Calls maa 199 #[.bool b,.string (vh s)] w fun e w'=>e = .returned (.bool (xo b s))∧Below w.heap.size w w':=by
 have H:=kaa (dq s O w J);unfold Gj at H;cases b
 ·have E:Hid (xo false s=((vh s).toList==[])):=by show _=_;unfold xo;rw[Ah];rfl
  cases G:((vh s).toList==[])
  ·rw[G]at E;rw[E.out];have A:¬ (vh s).toList=[]:=by simpa using G
   have I:(vh s).toList.isEmpty=false:=by
    cases h:(vh s).toList with
    |nil=>exact absurd h A
    |cons a r=>rfl
   exact Cc
  ·rw[G]at E;rw[E.out];have A:(vh s).toList=[]:=by simpa using G
   have I:(vh s).toList.isEmpty=true:=by rw[A];rfl
   exact Cc
 ·have E:Hid (xo true s=Hh s):=rfl;rw[E.out];cases M:Hh s;all_goals rw[M]at H;go_enter Tryz.func199,Tryz.ntmps199;go_wp2_with (go_at_call 44;refine H.out.mono ?_;rintro e w' ⟨rfl,L⟩);all_goals go_ret;exact⟨rfl,L⟩
noncomputable def tm(b:Bool)(l:List Kh):Bool:=if b=true then Fh l else l.isEmpty
theorem NJ(b:Bool)(l:List Kh)(O:l.length≤100000)(I:∀ x∈l,x.name.length≤1000000)(v:Value)(w:World)(G:Wh w v l)(J:Xj w):Calls maa 200 #[.bool b,v] w fun e w'=>e = .returned (.bool (tm b l))∧Below w.heap.size w w':=by
 have H:=kaa (bA l O I v w G J);obtain⟨A,c,rfl,_⟩:=Nca G;clear G I;cases b
 ·have E:Hid (tm false l=((l.length:Int)==0)):=by show _=_;unfold tm;cases l with
   |nil=>rfl
   |cons x r=>simp;omega
  cases M:((l.length:Int)==0);all_goals rw[M]at E;rw[E.out];go_enter Tryz.func200,Tryz.ntmps200;go_wp2_with fail;all_goals go_ret;exact⟨rfl,Gaa _ _⟩
 ·have E:Hid (tm true l=Fh l):=rfl;rw[E.out];cases hr:Fh l;all_goals rw[hr]at H;go_enter Tryz.func200,Tryz.ntmps200;go_wp2_with (go_at_call 49;refine H.out.mono ?_;rintro e w' ⟨rfl,L⟩);all_goals go_ret;exact⟨rfl,L⟩
def SO(l:List Sv)(w:World):Prop:=∀ x∈l,∀ u,Below w.heap.size w u→Calls maa 157 #[GQ x] u fun e w'=>e = .returned (.bool (!Vl x.s))∧Below u.heap.size u w'
theorem kK(l:List Sv)(hl:l.length≤100000)(v:Value)(w:World)(hv:Kp w v l)(HC:Hid (SO l w)):Calls maa 195 #[v,.func (.func 157) #[] #[]] w fun e w'=>Below w.heap.size w w'∧∃ z:Int,e = .returned (.int .i64 z)∧(decide (0≤z)=!l.all (fun x=>Vl x.s)):=by
 obtain⟨A0,c0,rfl,aT⟩:=hv.shape;have HV:=kaa hv;clear hv;go_enter Tryz.func195,Tryz.ntmps195;go_wp2_with fail;go_loopw [8] (fun k wr=>∃ j:Nat,j≤l.length∧k = .int .i64 j∧Below w.heap.size w wr∧∀ j' (h:j'<l.length),j'<j→Vl (l[j']).s=true) (fun k _=>l.length - (intOf k).toNat);case atStart=>exact⟨0,laa _,rfl,Gaa _ _,fun j' _ h=>absurd h Tf⟩
 case round =>
  obtain⟨j,hj,rfl,hb,af⟩:=hrel;have HNO:=kaa af;have HB:=kaa hb;clear af;by_cases hjl:j<l.length
  ·obtain⟨b,off,c,al,aU,ao,ad⟩:=HV.out.at_ Tf;cases al;have x1:=ad j hjl;obtain⟨H,I,J,L,M,O,Q,Y,Z⟩:=x1.below hb ao;have G:=kaa (HV.out.2 _ (dba hjl));have A:=kaa (HC.out (l[j]) (dba hjl) wr hb);clear hb ad x1;have av:(j:Int)<(l.length:Int):=by omega
   cases his:Vl (l[j]).s
   ·have HR:Hid (l.all (fun x=>Vl x.s)=false):=by exact Sc
    rw[his]at A;clear his;generalize l[j]=x at H I J L M O Q Y Z A G;obtain⟨xs,xe,xf⟩:=x;have E:=G.out;unfold GQ YC at A;dsimp only at E H I J L M O Q Y Z A;obtain⟨A5,c5,rfl,_⟩:=Nca E.1;obtain⟨A6,c6,rfl,_⟩:=Nca E.2;clear E G;go_wp2_with (go_at_call 157;refine(A.out).mono ?_;rintro e w2 ⟨rfl,hb2⟩);exact lf
   ·have HF:Hid (∀ j' (h:j'<l.length),j'<j+1→Vl (l[j']).s=true):=fun j' h aW=>by exact Md
    rw[his]at A;clear his;generalize l[j]=x at H I J L M O Q Y Z A G;obtain⟨xs,xe,xf⟩:=x;have E:=G.out;unfold GQ YC at A;dsimp only at E H I J L M O Q Y Z A;obtain⟨A5,c5,rfl,_⟩:=Nca E.1;obtain⟨A6,c6,rfl,_⟩:=Nca E.2;clear E G;go_wp2_with (go_at_call 157;refine(A.out).mono ?_;rintro e w2 ⟨rfl,hb2⟩);exact ed
  ·have aV:j=l.length:=by omega
   have HY:Hid (l.all (fun x=>Vl x.s)=true):=by exact Hc
   exact Je
theorem kC(l:List Sv)(I:l.length≤100000)(v:Value)(w:World)(A:Kp w v l)(E:Hid (SO l w)):Calls maa 156 #[v,.func (.func 157) #[] #[]] w fun e w'=>e = .returned (.bool (!l.all (fun x=>Vl x.s)))∧Below w.heap.size w w':=by obtain⟨J,c0,rfl,H⟩:=A.shape;have G:=kaa (kK l I _ w A E);clear A;go_enter Tryz.func156,Tryz.ntmps156;go_wp2_with (go_at_call 195;refine(G.out).mono ?_;rintro e w1 ⟨hb1,z,rfl,hz⟩);exact Se
theorem Ki{α:Type}{f:α→List Value}{m:Nat}(hm:∀ x,(f x).length=m){w:World}{v:Value}{l:List α}(h:bi w v m l.length (l.flatMap f))(L:0<l.length):∃ b off c,v = .slice (some ⟨b,off,none⟩) l.length c∧b<w.heap.size∧∀ u,Below w.heap.size w u→∀ k (I:k<l.length),∀ i x,(f l[k])[i]? = some x→u.cell? ⟨b,off+k*m+i,none⟩=some x:=by
 obtain⟨_,A,c,Y,Z,O⟩:=h;obtain⟨b,off,M,G,E⟩:=O L;subst M;refine⟨b,off,c,Y,G,fun u Q k I i x J=>?_⟩;have hi:i<m:=by rw[← hm l[k]];exact(zda.1 J).1
 have H:=ei f m hm l k i I hi;rw[J]at H;refine(Q.cell (p:=⟨b,off+k*m+i,none⟩) G).trans ?_;rw[Nat.add_assoc];exact E _ _ H
theorem Ts{α:Type}{l:List α}{good:α→Bool}{j:Nat}(G:∀ A (h:A<l.length),A<j→good l[A]=true)(J:j<l.length)(H:good l[j]=true):∀ A (h:A<l.length),A<j+1→good l[A]=true:=fun A h I=>by
 by_cases E:A<j;·exact G A h E
 ·obtain rfl:A=j:=by omega
  exact H
theorem yO{α:Type}{l:List α}{good:α→Bool}(G:∀ A (h:A<l.length),good l[A]=true):l.all good=true:=by rw[pda];intro x H;obtain⟨A,E,rfl⟩:=List.mem_iff_getElem.1 H;exact G A E
theorem Nw{α:Type}{l:List α}{good:α→Bool}{j:Nat}(E:j<l.length)(A:good l[j]=false):l.all good=false:=by rw[Bool.eq_false_iff];intro h;rw[pda]at h;rw[h _ (dba E)]at A;cases A
theorem NM(mb:Nat)(good:Xh→Bool)(l:List (Xh))(hl:l.length≤100000)(v:Value)(w:World)(L:bi w v 3 l.length (l.flatMap Kca))(Y:Hid (∀ x∈l,∀ u,Below w.heap.size w u→Calls maa 105 #[.agg #[.string (vh x.name),.int .i64 x.n,.int .i64 x.pos],.pointer (some ⟨mb,0,none⟩)] u fun e w'=>e = .returned (.bool (!good x))∧Below u.heap.size u w')):Calls maa 153 #[v,.func (.func 105) #[] #[.pointer (some ⟨mb,0,none⟩)]] w fun e w'=>Below w.heap.size w w'∧∃ z:Int,e = .returned (.int .i64 z)∧(decide (0≤z)=!l.all good):=by
 obtain⟨_,A0,c0,rfl,af,_⟩:=id L;have Z:=kaa L;clear L;go_enter Tryz.func153,Tryz.ntmps153;go_wp2_with fail;go_loopw [8] (fun k wr=>∃ j:Nat,j≤l.length∧k = .int .i64 j∧Below w.heap.size w wr∧∀ j' (h:j'<l.length),j'<j→good l[j']=true) (fun k _=>l.length - (intOf k).toNat);case atStart=>exact⟨0,laa _,rfl,Gaa _ _,fun j' _ h=>absurd h Tf⟩
 case round =>
  obtain⟨j,hj,rfl,H,I⟩:=hrel;have HNO:=kaa I;have HB:=kaa H;clear I;by_cases A:j<l.length
  ·obtain⟨b,off,c,J,ad,G⟩:=Ki (f:=Kca) (fun _=>rfl) Z.out Tf;cases J;have Q:=G wr H j A 0 _ rfl;have x1:=G wr H j A 1 _ rfl;have x2:=G wr H j A 2 _ rfl;simp only[Ada]at Q;have E:=kaa (Y.out (l[j]) (dba A) wr H);have HNX:=kaa (fun h=>Ts HNO.out A h);have HON:=kaa (fun h=>Nw (good:=good) A h);clear H G;have O:(j:Int)<(l.length:Int):=by omega
   generalize l[j]=x at Q x1 x2 E HNX HON;generalize M:good _=bg at E HNX HON;have HG:=kaa M;clear M;cases bg;·go_wp2_with (go_at_call 105;refine(E.out).mono ?_;rintro e w2 ⟨rfl,hb2⟩);exact qe
   ·go_wp2_with (go_at_call 105;refine(E.out).mono ?_;rintro e w2 ⟨rfl,hb2⟩);exact Lc
  ·exact Dc
theorem rN(mb:Nat)(good:Xh→Bool)(l:List (Xh))(I:l.length≤100000)(v:Value)(w:World)(A:bi w v 3 l.length (l.flatMap Kca))(E:Hid (∀ x∈l,∀ u,Below w.heap.size w u→Calls maa 105 #[.agg #[.string (vh x.name),.int .i64 x.n,.int .i64 x.pos],.pointer (some ⟨mb,0,none⟩)] u fun e w'=>e = .returned (.bool (!good x))∧Below u.heap.size u w')):Calls maa 104 #[v,.func (.func 105) #[] #[.pointer (some ⟨mb,0,none⟩)]] w fun e w'=>e = .returned (.bool (!l.all good))∧Below w.heap.size w w':=by have G:=kaa (NM mb good l I _ w A E);obtain⟨_,J,c0,rfl,H,_⟩:=id A;clear A;go_enter Tryz.func104,Tryz.ntmps104;go_wp2_with (go_at_call 153;refine(G.out).mono ?_;rintro e w1 ⟨hb1,z,rfl,hz⟩);exact Se
theorem KM(good:List UInt8→Bool)(l:List (List UInt8))(hl:l.length≤100000)(v:Value)(w:World)(L:bi w v 1 l.length (l.flatMap Mh))(Y:Hid (∀ x∈l,∀ u,Below w.heap.size w u→Calls maa 110 #[.string (vh x)] u fun e w'=>e = .returned (.bool (!good x))∧Below u.heap.size u w')):Calls maa 155 #[v,.func (.func 110) #[] #[]] w fun e w'=>Below w.heap.size w w'∧∃ z:Int,e = .returned (.int .i64 z)∧(decide (0≤z)=!l.all good):=by
 obtain⟨_,A0,c0,rfl,af,_⟩:=id L;have Z:=kaa L;clear L;go_enter Tryz.func155,Tryz.ntmps155;go_wp2_with fail;go_loopw [8] (fun k wr=>∃ j:Nat,j≤l.length∧k = .int .i64 j∧Below w.heap.size w wr∧∀ j' (h:j'<l.length),j'<j→good l[j']=true) (fun k _=>l.length - (intOf k).toNat);case atStart=>exact⟨0,laa _,rfl,Gaa _ _,fun j' _ h=>absurd h Tf⟩
 case round =>
  obtain⟨j,hj,rfl,I,H⟩:=hrel;have HNO:=kaa H;have HB:=kaa I;clear H;by_cases E:j<l.length
  ·obtain⟨b,off,c,J,ad,G⟩:=Ki (f:=Mh) (fun _=>rfl) Z.out Tf;cases J;have Q:=G wr I j E 0 _ rfl;simp only[Bda,Ada]at Q;have A:=kaa (Y.out (l[j]) (dba E) wr I);have HNX:=kaa (fun h=>Ts HNO.out E h);have HON:=kaa (fun h=>Nw (good:=good) E h);clear I G;have O:(j:Int)<(l.length:Int):=by omega
   generalize l[j]=x at Q A HNX HON;generalize M:good _=bg at A HNX HON;have HG:=kaa M;clear M;cases bg;·go_wp2_with (go_at_call 110;refine(A.out).mono ?_;rintro e w2 ⟨rfl,hb2⟩);exact qe
   ·go_wp2_with (go_at_call 110;refine(A.out).mono ?_;rintro e w2 ⟨rfl,hb2⟩);exact Lc
  ·exact Dc
theorem oN(good:List UInt8→Bool)(l:List (List UInt8))(I:l.length≤100000)(v:Value)(w:World)(A:bi w v 1 l.length (l.flatMap Mh))(E:Hid (∀ x∈l,∀ u,Below w.heap.size w u→Calls maa 110 #[.string (vh x)] u fun e w'=>e = .returned (.bool (!good x))∧Below u.heap.size u w')):Calls maa 111 #[v,.func (.func 110) #[] #[]] w fun e w'=>e = .returned (.bool (!l.all good))∧Below w.heap.size w w':=by have G:=kaa (KM good l I _ w A E);obtain⟨_,J,c0,rfl,H,_⟩:=id A;clear A;go_enter Tryz.func111,Tryz.ntmps111;go_wp2_with (go_at_call 155;refine(G.out).mono ?_;rintro e w1 ⟨hb1,z,rfl,hz⟩);exact Se
theorem LM(good:Value × List Xh→Bool)(l:List (Value × List Xh))(hl:l.length≤100000)(v:Value)(w:World)(O:bi w v 1 l.length (l.flatMap (fun x:Value × List Xh=>[x.1])))(HS:Hid (∀ x∈l,∃ A n c,x.1 = .slice A n c))(HC:Hid (∀ x∈l,∀ u,Below w.heap.size w u→Calls maa 41 #[x.1] u fun e w'=>e = .returned (.bool (!good x))∧Below u.heap.size u w')):Calls maa 118 #[v,.func (.func 41) #[] #[]] w fun e w'=>Below w.heap.size w w'∧∃ z:Int,e = .returned (.int .i64 z)∧(decide (0≤z)=!l.all good):=by
 obtain⟨_,A0,c0,rfl,af,_⟩:=id O;have HV:=kaa O;clear O;go_enter Tryz.func118,Tryz.ntmps118;go_wp2_with fail;go_loopw [8] (fun k wr=>∃ j:Nat,j≤l.length∧k = .int .i64 j∧Below w.heap.size w wr∧∀ j' (h:j'<l.length),j'<j→good l[j']=true) (fun k _=>l.length - (intOf k).toNat);case atStart=>exact⟨0,laa _,rfl,Gaa _ _,fun j' _ h=>absurd h Tf⟩
 case round =>
  obtain⟨j,hj,rfl,L,J⟩:=hrel;have HNO:=kaa J;have HB:=kaa L;clear J;by_cases G:j<l.length
  ·obtain⟨b,off,c,M,ad,I⟩:=Ki (f:=(fun x:Value × List Xh=>[x.1])) (fun _=>rfl) HV.out Tf;cases M;have Q:=I wr L j G 0 _ rfl;simp only[Bda,Ada]at Q;have E:=kaa (HC.out (l[j]) (dba G) wr L);have H:=kaa (HS.out (l[j]) (dba G));have HNX:=kaa (fun h=>Ts HNO.out G h);have HON:=kaa (fun h=>Nw (good:=good) G h);clear L I;have Z:(j:Int)<(l.length:Int):=by omega
   generalize l[j]=x at Q E HNX HON H;obtain⟨A5,n5,c5,h5⟩:=H.out;rw[h5]at Q E;clear h5 H;generalize Y:good _=bg at E HNX HON;have HG:=kaa Y;clear Y;cases bg;·go_wp2_with (go_at_call 41;refine(E.out).mono ?_;rintro e w2 ⟨rfl,hb2⟩);exact qe
   ·go_wp2_with (go_at_call 41;refine(E.out).mono ?_;rintro e w2 ⟨rfl,hb2⟩);exact Lc
  ·exact Dc
theorem pN(good:Value × List Xh→Bool)(l:List (Value × List Xh))(L:l.length≤100000)(v:Value)(w:World)(E:bi w v 1 l.length (l.flatMap (fun x:Value × List Xh=>[x.1])))(I:Hid (∀ x∈l,∃ A n c,x.1 = .slice A n c))(G:Hid (∀ x∈l,∀ u,Below w.heap.size w u→Calls maa 41 #[x.1] u fun e w'=>e = .returned (.bool (!good x))∧Below u.heap.size u w')):Calls maa 50 #[v,.func (.func 41) #[] #[]] w fun e w'=>e = .returned (.bool (!l.all good))∧Below w.heap.size w w':=by have H:=kaa (LM good l L _ w E I G);obtain⟨_,M,c0,rfl,J,_⟩:=id E;clear E;go_enter Tryz.func50,Tryz.ntmps50;go_wp2_with (go_at_call 118;refine(H.out).mono ?_;rintro e w1 ⟨hb1,z,rfl,hz⟩);exact Se
theorem MM(good:Kv→Bool)(l:List (Kv))(hl:l.length≤100000)(v:Value)(w:World)(O:bi w v 2 l.length (l.flatMap Cda))(HS:Hid (∀ x∈l,∃ A n c,x.ev = .slice A n c))(HC:Hid (∀ x∈l,∀ u,Below w.heap.size w u→Calls maa 47 #[.agg #[x.ev,.int .i64 x.c.pos]] u fun e w'=>e = .returned (.bool (!good x))∧Below u.heap.size u w')):Calls maa 120 #[v,.func (.func 47) #[] #[]] w fun e w'=>Below w.heap.size w w'∧∃ z:Int,e = .returned (.int .i64 z)∧(decide (0≤z)=!l.all good):=by
 obtain⟨_,A0,c0,rfl,af,_⟩:=id O;have HV:=kaa O;clear O;go_enter Tryz.func120,Tryz.ntmps120;go_wp2_with fail;go_loopw [8] (fun k wr=>∃ j:Nat,j≤l.length∧k = .int .i64 j∧Below w.heap.size w wr∧∀ j' (h:j'<l.length),j'<j→good l[j']=true) (fun k _=>l.length - (intOf k).toNat);case atStart=>exact⟨0,laa _,rfl,Gaa _ _,fun j' _ h=>absurd h Tf⟩
 case round =>
  obtain⟨j,hj,rfl,J,L⟩:=hrel;have HNO:=kaa L;have HB:=kaa J;clear L;by_cases E:j<l.length
  ·obtain⟨b,off,c,M,ad,I⟩:=Ki (f:=Cda) (fun _=>rfl) HV.out Tf;cases M;have Q:=I wr J j E 0 _ rfl;have x1:=I wr J j E 1 _ rfl;simp only[Ada]at Q;have G:=kaa (HC.out (l[j]) (dba E) wr J);have H:=kaa (HS.out (l[j]) (dba E));have HNX:=kaa (fun h=>Ts HNO.out E h);have HON:=kaa (fun h=>Nw (good:=good) E h);clear J I;have Z:(j:Int)<(l.length:Int):=by omega
   generalize l[j]=x at Q x1 G HNX HON H;obtain⟨A5,n5,c5,h5⟩:=H.out;rw[h5]at Q G;clear h5 H;generalize Y:good _=bg at G HNX HON;have HG:=kaa Y;clear Y;cases bg;·go_wp2_with (go_at_call 47;refine(G.out).mono ?_;rintro e w2 ⟨rfl,hb2⟩);exact qe
   ·go_wp2_with (go_at_call 47;refine(G.out).mono ?_;rintro e w2 ⟨rfl,hb2⟩);exact Lc
  ·exact Dc
theorem qN(good:Kv→Bool)(l:List (Kv))(L:l.length≤100000)(v:Value)(w:World)(E:bi w v 2 l.length (l.flatMap Cda))(I:Hid (∀ x∈l,∃ A n c,x.ev = .slice A n c))(G:Hid (∀ x∈l,∀ u,Below w.heap.size w u→Calls maa 47 #[.agg #[x.ev,.int .i64 x.c.pos]] u fun e w'=>e = .returned (.bool (!good x))∧Below u.heap.size u w')):Calls maa 52 #[v,.func (.func 47) #[] #[]] w fun e w'=>e = .returned (.bool (!l.all good))∧Below w.heap.size w w':=by have H:=kaa (MM good l L _ w E I G);obtain⟨_,M,c0,rfl,J,_⟩:=id E;clear E;go_enter Tryz.func52,Tryz.ntmps52;go_wp2_with (go_at_call 120;refine(H.out).mono ?_;rintro e w1 ⟨hb1,z,rfl,hz⟩);exact Se
theorem JM(good:Tv→Bool)(F:Nat)(hF:F=43∨F=46)(l:List (Tv))(hl:l.length≤100000)(v:Value)(w:World)(O:bi w v 4 l.length (l.flatMap Dda))(HS:Hid (∀ x∈l,(∃ A n c,x.rv = .slice A n c)∧∃ A n c,x.bv = .slice A n c))(HC:Hid (∀ x∈l,∀ u,Below w.heap.size w u→Calls maa F #[.agg #[.string (vh x.name),x.rv,x.bv,.int .i64 x.pos]] u fun e w'=>e = .returned (.bool (!good x))∧Below u.heap.size u w')):Calls maa 119 #[v,.func (.func F) #[] #[]] w fun e w'=>Below w.heap.size w w'∧∃ z:Int,e = .returned (.int .i64 z)∧(decide (0≤z)=!l.all good):=by
 rcases hF with rfl|rfl;all_goals
  obtain⟨_,A0,c0,rfl,af,_⟩:=id O;have HV:=kaa O;clear O;go_enter Tryz.func119,Tryz.ntmps119;go_wp2_with fail;go_loopw [8] (fun k wr=>∃ j:Nat,j≤l.length∧k = .int .i64 j∧Below w.heap.size w wr∧∀ j' (h:j'<l.length),j'<j→good l[j']=true) (fun k _=>l.length - (intOf k).toNat);case atStart=>exact⟨0,laa _,rfl,Gaa _ _,fun j' _ h=>absurd h Tf⟩
  case round =>
   obtain⟨j,hj,rfl,J,L⟩:=hrel;have HNO:=kaa L;have HB:=kaa J;clear L;by_cases E:j<l.length
   ·obtain⟨b,off,c,M,ad,H⟩:=Ki (f:=Dda) (fun _=>rfl) HV.out Tf;cases M;have Z:=H wr J j E 0 _ rfl;have x1:=H wr J j E 1 _ rfl;have x2:=H wr J j E 2 _ rfl;have x3:=H wr J j E 3 _ rfl;simp only[Ada]at Z;have G:=kaa (HC.out (l[j]) (dba E) wr J);have I:=kaa (HS.out (l[j]) (dba E));have HNX:=kaa (fun h=>Ts HNO.out E h);have HON:=kaa (fun h=>Nw (good:=good) E h);clear J H;have Y:(j:Int)<(l.length:Int):=by omega
    generalize l[j]=x at Z x1 x2 x3 G HNX HON I;obtain⟨⟨A5,n5,c5,h5⟩,A6,n6,c6,h6⟩:=I.out;rw[h5]at x1 G;rw[h6]at x2 G;clear h5 h6 I;generalize Q:good _=bg at G HNX HON;have HG:=kaa Q;clear Q;cases bg;·go_wp2_with ((first|go_at_call 43|go_at_call 46);refine(G.out).mono ?_;rintro e w2 ⟨rfl,hb2⟩);exact qe
    ·go_wp2_with ((first|go_at_call 43|go_at_call 46);refine(G.out).mono ?_;rintro e w2 ⟨rfl,hb2⟩);exact Lc
   ·exact Dc
theorem JF(good:Tv→Bool)(F:Nat)(hF:F=43∨F=46)(l:List (Tv))(L:l.length≤100000)(v:Value)(w:World)(E:bi w v 4 l.length (l.flatMap Dda))(I:Hid (∀ x∈l,(∃ A n c,x.rv = .slice A n c)∧∃ A n c,x.bv = .slice A n c))(G:Hid (∀ x∈l,∀ u,Below w.heap.size w u→Calls maa F #[.agg #[.string (vh x.name),x.rv,x.bv,.int .i64 x.pos]] u fun e w'=>e = .returned (.bool (!good x))∧Below u.heap.size u w')):Calls maa 51 #[v,.func (.func F) #[] #[]] w fun e w'=>e = .returned (.bool (!l.all good))∧Below w.heap.size w w':=by have H:=kaa (JM good F hF l L _ w E I G);obtain⟨_,M,c0,rfl,J,_⟩:=id E;clear E;go_enter Tryz.func51,Tryz.ntmps51;go_wp2_with (go_at_call 119;refine(H.out).mono ?_;rintro e w1 ⟨hb1,z,rfl,hz⟩);exact Se
abbrev Cr(b:Nat)(w w':World):Prop:=Lib.OthersKept 5 (some b) w w'
theorem vB{w:World}{B:Nat}{e:TypeId}{v:Value}{n:Nat}{G:List Value}(h:w.ownsRow B e 1 v n G):∀ g,v.ownBlock=some g→∃ c E,w.heap[g]? = some (.cells c e E):=by
 intro g A;rcases h.2 with⟨rfl,_⟩|⟨g',cap,cur,rfl,_,hgg,_⟩;·simp[Value.ownBlock]at A
 ·simp[Value.ownBlock]at A;subst A;exact⟨cur,(0,0),hgg⟩
abbrev fo(B b:Nat)(l:List UInt8)(w:World):Prop:=Eda 92 5 B b (Fda l) w
theorem yC:(Tryz.prog.info? 92).map (fun j=>j.size)=some 2:=by kernel_rfl
theorem aL:liesAt maa Tryz.prog.depth 92 (2 / Tryz.prog.cellsOf 92) 0 92 1=true:=by kernel_rfl
theorem cL:(Tryz.prog.info? 5).map (fun i=>(i.zero,i.size,i.bytes))=some (some (.int .u8 0),1,1):=by kernel_rfl
theorem oE(b:Nat)(w:World)(G:w.cell? ⟨b,0,none⟩=some (.pointer (some ⟨b,0,none⟩))):Calls maa 124 #[.pointer (some ⟨b,0,none⟩)] w fun e w'=>e = .returned (.tuple #[])∧w'=w:=by obtain⟨j,A,E⟩:=Gda.1 yC;go_enter Tryz.func124,Tryz.ntmps124;go_wp2;rw[Lib.run_neq_ptr_same w _ Tryz.underlying90 A];go_wp2;go_end0;exact⟨rfl,rfl⟩
theorem pC(b:Nat)(w:World)(I:w.cell? ⟨b,0,none⟩=some (.pointer none))(A:w.shape? b=some (92,2))(H:w.frozen? ⟨b,0,none⟩=false):Calls maa 124 #[.pointer (some ⟨b,0,none⟩)] w fun e w'=>e = .returned (.tuple #[])∧w'=w.setCell ⟨b,0,none⟩ (.pointer (some ⟨b,0,none⟩)):=by obtain⟨j,G,E⟩:=Gda.1 yC;go_enter Tryz.func124,Tryz.ntmps124;go_wp2;rw[Lib.run_to_unsafe w ⟨b,0,none⟩ Tryz.underlying90 Tryz.underlying177 G (by rw[E];decide) A (Nat.zero_lt_succ 1)];simp only[Hda];rw[Ida];go_wp2;rw[run_callFunc_extern Tryz.func165 Vf Vf Vf (e:=Jda) Vf];rw[Lib.run_noEscape];simp only[Hda];rw[Ida];go_wp2;rw[Lib.run_from_unsafe w ⟨b,0,none⟩ Tryz.underlying177 Tryz.underlying90 G A aL];simp only[Hda];rw[Ida];go_wp2;go_end0;exact⟨rfl,rfl⟩
theorem vN(B b:Nat)(A:List Value)(w:World)(h:Eda 92 5 B b A w):Calls maa 124 #[.pointer (some ⟨b,0,none⟩)] w fun e w'=>e = .returned (.tuple #[])∧(Kda 92 5 B b (.pointer (some ⟨b,0,none⟩)) A w'∧Below B w w'∧Cr b w w'):=by
 rcases h with h|h;·refine(pC b w h.cell0 h.shape h.frozen0).mono ?_;rintro e w' ⟨rfl,rfl⟩;exact⟨rfl,h.used _,(Gaa B w).setCell (p:=⟨b,0,none⟩) h.1 _,(Lda _ _ w).setCell ⟨b,0,none⟩ rfl _⟩
 ·refine(oE b w h.cell0).mono ?_;rintro e w' ⟨rfl,rfl⟩;exact⟨rfl,h,Gaa B _,Lda _ _ _⟩
theorem Mp(B b:Nat)(l t:List UInt8)(w:World)(h:fo B b l w)(J:l.length+t.length≤140737488355328)(aU:B≤w.heap.size):Calls maa 57 #[.pointer (some ⟨b,0,none⟩),.string (vh t)] w fun e w'=>e = .returned (.tuple #[.int .i64 t.length,.nilIface])∧fo B b (l++t) w'∧Below B w w'∧Cr b w w':=by
 obtain⟨i0,hi,al,av,aT⟩:=info_parts cL;have hl:(Fda l).length+(vh t).size≤140737488355328:=by rw[Dh];simpa[Fda]using J
 have HS:Hid (Fda l++Mda (vh t)=Fda (l++t)):=by show _=_;simp[Fda,Mda,vh]
 have O:Hid (((vh t).size:Int)=(t.length:Int)):=by show _=_;rw[Dh]
 generalize vh t=s at hl HS O ⊢;clear J;go_enter Tryz.func57,Tryz.ntmps57;go_wp2_with (go_at_call 124;refine(vN B b _ _ h).mono ?_);rintro e w1 ⟨rfl,h1,M,Z⟩;obtain⟨hB,v,I,E,af⟩:=h1;have c0:w1.cell? ⟨b,0,none⟩=some (.pointer (some ⟨b,0,none⟩)):=by rw[Nda I];rfl
 have c1:w1.cell? ⟨b,1,none⟩=some v:=by rw[Nda I];rfl
 go_wp2_with (at_builtin;refine Lib.wpList_append_own_string _ rfl _ _ 51 9 rfl B 5 i0 Tryz.underlying51 Tryz.underlying9 hi al av aT _ _ _ rfl E s rfl ?c3 ?c4 ?c5 ?_);case c3=>unfold maxLen;omega
 case c4=>omega
 case c5=>have:=M.size;omega
 intro v' Q G A _;have ad:b<w1.heap.size:=by
  rcases Nat.lt_or_ge b w1.heap.size with Y|Y;·exact Y
  ·simp[Array.getElem?_eq_none Y]at I
 have H:Q.heap[b]? = some (.cells #[.pointer (some ⟨b,0,none⟩),v] 92 (0,0)):=by rw[A.block b ad (fun e=>af e.symm)];exact I
 have d0:Q.cell? ⟨b,0,none⟩=some (.pointer (some ⟨b,0,none⟩)):=by rw[Nda H];rfl
 have d1:Q.cell? ⟨b,1,none⟩=some v:=by rw[Nda H];rfl
 have f1:Q.frozen? ⟨b,1,none⟩=false:=Lib.frozen_of_heap H 1;obtain⟨ao,n',L,rfl⟩:∃ ao n' L,v' = .slice ao n' L:=by
  rcases G.2 with⟨hv,_⟩|⟨g,L,cur,hv,_⟩;·exact⟨_,_,_,hv⟩
  ·exact⟨_,_,_,hv⟩
 go_wp2;go_ret2;refine⟨by first|rfl|(rw[O.out];rfl),?_,?_,?_⟩;·unfold fo;rw[← HS.out];exact .inr (Oda (T:=92) (e:=5) hB H (bs':=Fda l++Mda s) (by simpa[Lib.strCells_length]using G) Uf)
 ·exact(M.grown A (by have:=M.size;omega) (fun k hk=>(E.lt k hk).1)).setCell (p:=⟨b,1,none⟩) hB _
 ·exact(Z.grown A (vB E)).setCell ⟨b,1,none⟩ rfl _
theorem Zz(w:World):fo w.heap.size w.heap.size [] (w.alloc (.cells #[.pointer none,.slice none 0 0] 92)) :=
 .inl ⟨aaa _,.slice none 0 0,heap_alloc_new w _,⟨by rfl,.inl ⟨rfl,rfl⟩⟩,by simp[Value.ownBlock]⟩
theorem fo.alloc{B b:Nat}{l:List UInt8}{w:World}(h:fo B b l w)(o:Obj):fo B b l (w.alloc o):=by
 have hx:∀ p,Kda 92 5 B b p (Fda l) w→Kda 92 5 B b p (Fda l) (w.alloc o):=by rintro p ⟨hB,v,A,E,G⟩;exact⟨hB,v,(Lib.alloc_old w o b (zca.1 A).1).trans A,E.alloc _,G⟩
 exact Ve
theorem fo.belowN{B b:Nat}{l:List UInt8}{w w':World}(h:fo B b l w)(H:Below w.heap.size w w'):fo B b l w':=by
 have hx:∀ p,Kda 92 5 B b p (Fda l) w→Kda 92 5 B b p (Fda l) w':=by rintro p ⟨hB,v,A,E,G⟩;exact⟨hB,v,(H.block b (zca.1 A).1).trans A,Ih E H,G⟩
 exact Ve
theorem fo.lt{B b:Nat}{l:List UInt8}{w:World}(h:fo B b l w):b<w.heap.size:=by
 rcases h with h|h;·exact h.lt
 ·exact h.lt
theorem Bj{b:Nat}{w w':World}(h:Cr b w w'){g:Nat}{cs:Array Value}{t:TypeId}(E:w.heap[g]? = some (.cells cs t (0,0)))(A:g≠b)(ht:t≠5):w'.heap[g]? = some (.cells cs t (0,0)) :=
 h g _ E (fun e=>A (Pda e)) (fun c G e=>ht (by injection e))
theorem Jh{w:World}{g:Nat}{cs:Array Value}{t:TypeId}(h:w.heap[g]? = some (.cells cs t (0,0)))(i:Nat):w.cell? ⟨g,i,none⟩=cs[i]?:=Nda h i
theorem QO(B b:Nat)(l:List UInt8)(w:World)(h:fo B b l w)(A:B≤w.heap.size) :
 Calls maa 61 #[.pointer (some ⟨b,0,none⟩)] w fun e w'=>e = .returned (.string (vh l))∧Below B w w' :=
 Tryz.Builder_String_any B b l w h A
theorem AH:(Tryz.prog.info? 9).map (fun i=>(i.zero,i.size,i.bytes))=some (some (.string ⟨#[]⟩),1,16):=by kernel_rfl
theorem MI(w:World)(b:ByteArray)(y:List UInt8)(h:b=vh y):bi (w.alloc (.cells #[.string b] 9)) (.slice (some ⟨w.heap.size,0,none⟩) 1 1) 1 1 ([y].flatMap Mh):=by subst h;exact zk w [.string (vh y)] 9 1 1 1 rfl (aaa _)
theorem vA(l:List (List UInt8)):∀ u∈l.flatMap Mh,u.oneCell'=true:=by exact Ld
theorem WB:∀ (l:List (List UInt8)),Lib.join l [44,32]=Wj l
 | []=>rfl
 | [x]=>by rw[Lib.join_cons];show x++[]=x;simp
 |x::y::r=>by rw[Lib.join_cons];show _=x++([44,32]++Wj (y::r));rw[← WB (y::r),Lib.join_cons];unfold Lib.joinTail;simp
theorem rF(L:List (List UInt8))(hn:L.length≤100000000)(hl:(Wj L).length≤1000000000000)(v:Value)(w:World)(M:Tr w v L):Calls maa 126 #[v,.string ⟨#[44,32]⟩] w fun e w'=>e = .returned (.string (vh (Wj L)))∧Below w.heap.size w w':=by
 by_cases O:0<L.length
 ·obtain⟨_,A,c,rfl,Y,Z⟩:=M;obtain⟨b,off,rfl,Q,G⟩:=Z O;have e:(L.map vh).map (·.data.toList)=L:=by
   rw[List.map_map];conv=>rhs;rw[← List.map_id L]
   exact List.map_congr_left fun x _=>by simp[vh]
  have J:Lib.join ((L.map vh).map (·.data.toList)) (⟨#[44,32]⟩:ByteArray).data.toList=Wj L:=by rw[e];exact WB L
  have h:=Tryz.strings_Join b off c (L.map vh) ⟨#[44,32]⟩ w (fun j x E=>by
   rw[List.getElem?_map]at E
   cases H:L[j]? with
   |none=>rw[H]at E;cases E
   |some y =>rw[H]at E;obtain⟨I,rfl⟩:=zda.1 H;have:=ei Mh 1 (fun _=>rfl) L j 0 I Uf;simp only[Bda,Ada]at this;rw[G _ _ (this.trans rfl)];simpa using E) Q (by rw[Oca];omega) (by rw[Oca];exact Y) (by rw[J];omega)
  rw[J,Oca]at h;exact h
 ·obtain rfl:L=[]:=List.eq_nil_of_length_eq_zero Tf;obtain⟨_,A,c,rfl,_⟩:=M;refine(Tryz.strings_Join_none A c ⟨#[44,32]⟩ w).mono ?_;rintro e w' ⟨rfl,rfl⟩;exact⟨rfl,Gaa _ _⟩
theorem tC{m:Int}(hm:m≤4294967296){c:Xh}(h:jl m c=true):(sk c).length≤30:=by
 obtain⟨G,A,H,_⟩:=Rj.1 h;have E:=(Il G);obtain⟨_,_,_,_,I⟩:=E;obtain⟨_,_,_,_,J⟩:=Nm A (by omega:c.n≤4294967296);unfold sk;rw[xaa];split;·simp only[Xaa];omega
 ·rw[xaa];simp only[jaa,Xaa];omega
theorem Sq{N:Nat}:∀ l:List (List UInt8),(∀ x∈l,x.length≤N)→(Wj l).length≤(N+2)*l.length
 | [],_=>laa _
 | [x],h=>by have:=h x Yf;show x.length≤_;simp only[jaa,Xaa];omega
 |x::y::r,h=>by have G:=h x Yf;have A:=Sq (y::r) (fun z E=>h z (List.mem_cons_of_mem _ E));show(x++([44,32]++Wj (y::r))).length≤_;rw[xaa,xaa,jaa (a:=x),Nat.mul_succ];simp only[jaa,Xaa]at A ⊢;omega
theorem sD(wd:List UInt8)(hw:wd.length≤100)(l:List Xh)(hl:l.length≤100000){m:Int}(hm:m≤4294967296)(aZ:yi m l=true)(v:Value)(w:World)(hv:Aq w v l)(hE:Xj w):Calls maa 58 #[.string (vh wd),v] w fun e w'=>e = .returned (.string (vh (dl wd l)))∧Below w.heap.size w w':=by
 obtain⟨i0,aY,a0,a1,a3⟩:=info_parts AH;have H:∀ c∈l,jl m c=true:=pda.1 aZ;have HV:=kaa hv;have HE:=kaa hE;have aT:Hid ((Wj (l.map sk)).length≤3200000):=by show _≤_;have:=Sq (N:=30) (l.map sk) (fun x hx=>by obtain⟨c,hc,rfl⟩:=List.mem_map.1 hx;exact tC hm (H c hc));rw[Oca]at this;omega
 have a4:=kaa H;obtain⟨_,A0,c0,rfl,_,_⟩:=id hv;have HR:Hid (dl wd l=wd++([32]++(Wj (l.map sk)++[59,10]))):=rfl;rw[HR.out];have zw:(vh wd).size≤100:=by rw[Dh];exact hw
 clear hv hE aZ H HR;obtain⟨SW,af⟩:∃ s,Hid (vh wd=s):=⟨_,rfl⟩;have Y:Hid (vh (wd++([32]++(Wj (l.map sk)++[59,10])))=SW++⟨#[32]⟩++vh (Wj (l.map sk))++⟨#[59,10]⟩):=by show _=_;rw[← af.out,Sh,Sh,Sh,Qda,Qda];rfl
 rw[Y.out];obtain⟨SJ,aV⟩:∃ s,Hid (vh (Wj (l.map sk))=s):=⟨_,rfl⟩;rw[af.out]at zw ⊢;rw[aV.out];clear af Y hw;go_enter Tryz.func58,Tryz.ntmps58;go_wp2_with fail;go_loopw [5,11] (fun o k wr=>∃ (j:Nat) (A:Option Addr) (c:Nat),j≤l.length∧k = .int .i64 j∧o = .slice A j c∧wr.ownsRow w.heap.size 9 1 (.slice A j c) j (((l.take j).map sk).flatMap Mh)∧Below w.heap.size w wr) (fun _ k _=>l.length - (intOf k).toNat);case atStart=>exact⟨0,none,0,laa _,rfl,rfl,World.ownsRow_nil _ _ _ _,Gaa _ _⟩
 case round =>
  obtain⟨j,A,c,hj,rfl,rfl,Z,hb⟩:=hrel;have Q:=kaa Z;have HB:=kaa hb;clear Z;by_cases I:j<l.length
  ·obtain⟨b,off,c2,a8,bg,M⟩:=Ki (f:=Kca) (fun _=>rfl) HV.out Tf;cases a8;have x0:=M wr hb j I 0 _ rfl;have x1:=M wr hb j I 1 _ rfl;have x2:=M wr hb j I 2 _ rfl;simp only[Ada]at x0;have HC:=kaa (a4.out _ (dba I));have HNX:Hid (((l.take (j+1)).map sk).flatMap Mh=((l.take j).map sk).flatMap Mh++[sk l[j]].flatMap Mh):=by show _=_;rw[List.take_succ_eq_append_getElem I,List.map_append,List.flatMap_append];rfl
   have bf:(j:Int)<(l.length:Int):=by omega
   have L:Hid (j+1≤maxLen∧(j+1)*16≤140737488355328):=by show _∧_;unfold maxLen;constructor<;>omega
   clear M hb;generalize l[j]=x at x0 x1 x2 HC HNX;obtain⟨G,E,xp⟩:=x;simp only at x0 x1 x2;obtain⟨hn,h0,h1,_⟩:=Rj.1 HC.out;simp only at hn h0 h1;have av:G.length≤16:=by obtain⟨_,_,_,_,h3⟩:=Il hn;exact h3
   have a7:=kaa (fun(u:World) (hu:Xj u)=>VC E h0 Tf u hu);have a5:Hid ((Paa E).length≤10):=by obtain⟨_,_,_,_,h4⟩:=Nm h0 (by omega:E≤4294967296);exact h4
   have J:Hid (Below w.heap.size w (wr.alloc (.cells #[.string (vh G),.int .i64 E,.int .i64 xp] 48))):=bt HB.out (al _ _);have aU:=kaa (Ih Q.out (al wr (.cells #[.string (vh G),.int .i64 E,.int .i64 xp] 48)));have zn:(vh G).size≤16:=by rw[Dh];exact av
   by_cases hz:E=0
   ·have a2:(E != 0)=false:=by simp[hz]
    have ad:Hid (sk ⟨G,E,xp⟩=G):=by show _++_=_;simp[hz]
    clear hn av h0 h1;rw[ad.out]at HNX;clear hz;go_wp2_with (first
     |(at_builtin;refine Wk rfl _ _ 38 rfl w.heap.size 9 i0 _ 1 16 Tryz.underlying38 aY a0 a1 a3 rfl Uf (.slice A j c) j _ rfl (Ih aU.out (al _ _)) (.slice (some ⟨wr.heap.size+1,0,none⟩) 1 1) 1 ([G].flatMap Mh) rfl (by have h:=MI (wr.alloc (.cells #[.string (vh G),.int .i64 E,.int .i64 xp] 48)) (vh G) G rfl;rw[World.size_alloc]at h;exact h) (vA _) L.out.1 L.out.2 (yba J.out.size (al _ _).size) ?_;intro v6 w6 hown6 ao bb aX;obtain⟨A6,c6,rfl⟩:=yh hown6;have hB6:=nI (ii J.out _) ao (aaa _)))
    exact Yb
   ·have a2:(E != 0)=true:=by rw[bne_iff_ne];exact hz
    have ad:Hid (vh (sk ⟨G,E,xp⟩)=vh G++(⟨#[32,61,32]⟩++vh (Paa E))):=by show _=_;unfold sk;rw[if_neg hz,Sh,Sh];rfl
    have zi:(vh (Paa E)).size≤10:=by rw[Dh];exact a5.out
    have h3:(⟨#[32,61,32]⟩:ByteArray).size=3:=rfl;have f1:¬ (9223372036854775807<3+(vh (Paa E)).size):=by omega
    have f2:¬ (9223372036854775807<(vh G).size+(3+(vh (Paa E)).size)):=by omega
    clear hn av h0 h1 hz h3;go_wp2_with (first
     |(go_at_call 125;(with_reducible refine(a7.out _ (HE.out.below J.out)).mono ?_);rintro e w3 ⟨rfl,O⟩;have aW:=bt J.out O;have a9:=Ih aU.out O)
     |(at_builtin;refine Wk rfl _ _ 38 rfl w.heap.size 9 i0 _ 1 16 Tryz.underlying38 aY a0 a1 a3 rfl Uf (.slice A j c) j _ rfl (Ih a9 (al _ _)) (.slice (some ⟨w3.heap.size,0,none⟩) 1 1) 1 ([sk ⟨G,E,xp⟩].flatMap Mh) rfl (MI w3 _ _ ad.out.symm) (vA _) L.out.1 L.out.2 (yba aW.size (al _ _).size) ?_;intro v6 w6 hown6 ao bb aX;obtain⟨A6,c6,rfl⟩:=yh hown6;have hB6:=nI (ii aW _) ao (aaa _)))
    exact Yb
  ·obtain rfl:j=l.length:=by omega
   have a6:Hid (Tr wr (.slice A l.length c) (l.map sk)):=by have:=Ti Q.out;rw[List.take_length]at this;show bi _ _ 1 (l.map sk).length _;rw[Oca];exact this
   have HJ:=kaa (rF (l.map sk) (by rw[Oca];omega) (by have:=aT.out;omega) _ wr a6.out);have zj:(vh (Wj (l.map sk))).size≤3200000:=by rw[Dh];exact aT.out
   rw[aV.out]at HJ zj;have f1:¬ (9223372036854775806<SW.size):=by omega
   have f2:¬ (9223372036854775807<SW.size+1+SJ.size):=by omega
   have f3:¬ (9223372036854775805<SW.size+1+SJ.size):=by omega
   clear hb;go_wp2_with (go_at_call 126;(with_reducible refine(HJ.out).mono ?_);rintro e w3 ⟨rfl,O⟩);go_ret;exact⟨rfl,bt HB.out O⟩
end Go.Proofs.YtjcihcncljihoaaGreatDoor

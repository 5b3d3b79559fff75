/- Chapter 05 (programs), joined: Mem, ScanPlain, ScanName, Env0, ScanKept, EnvA. -/
import Derived.Test.YtjcihcncljihoaaGreatDoorCards
import Derived.Test.YtjcihcncljihoaaGreatDoorChecked
import Derived.Test.YtjcihcncljihoaaGreatDoorRows
import Derived.Test.YtjcihcncljihoaaGreatDoorPbShelf
import Derived.Test.YtjcihcncljihoaaGreatDoorTie
import Derived.Below
import Derived.BigQuiet
import Derived.ChangeSame
import Derived.Deep.AppendLies
import Derived.Deep.DeepHandedRow
import Derived.Deep.Draws
import Derived.Deep.Fields
import Derived.Deep.QuietTactic
import Derived.Deep.Slices
import Derived.LaidMore
import Derived.LaidSub
import Derived.Laws.AppendOwn
import Derived.Laws.OwnMore
import Derived.Laws.Strings
import Derived.Lib.Hide
import Derived.Lib.ItoaNum
import Derived.Lib.LaidTab
import Derived.Maps.Own
import Derived.Maps.OwnOps
import Derived.Maps.Views
import Derived.OpenShut
import Derived.ProofKit
import Derived.Shelf.Vars
import Derived.Stop.LaidErr
import Derived.StringKeys
import Derived.WalkKit
import Derived.WalkLawsBesides
import Derived.WalkSmall
import Derived.WalkSpells
set_option maxRecDepth 100000
set_option maxHeartbeats 400000
namespace Go.Proofs.YtjcihcncljihoaaGreatDoor
open Go Go.RowKit
set_option linter.unusedVariables false
open Go.Ending renaming returned→daa
open List renaming flatMap_cons→baa
open Nat renaming le_refl→aaa,succ_mul→caa
theorem fb{P:Prop}(h:P:=by go_wp2_with (first|(go_at_call 106;refine(No _ _).mono ?_;rintro e w' ⟨rfl,rfl⟩)|(go_at_call 109;refine(pt _ _).mono ?_;rintro e w' ⟨rfl,rfl⟩));go_ret;exact⟨Bh (by rw[HV3.out];rfl),rfl⟩):P:=h
theorem Eb{P:Prop}(h:P:=by
 obtain rfl:k=s.size:=by omega
 have HS:=Lib.hid (Wu (p:=Xm) s.data.toList (fun j h=>HA.out j (by simpa using h) (by simpa using h)));go_wp2_with fail;go_ret;exact⟨ci (by rw[HS.out];simp),rfl⟩):P:=h
theorem Ib{P:Prop}(h:P:=by
 go_round;case rel =>
  refine⟨k+1,by omega,by go_num,fun j h h'=>?_⟩;by_cases hj:j<k;·exact HA.out j hj h'
  ·obtain rfl:j=k:=by omega
   exact hd
 case measure=>simp[intOf];omega):P:=h
theorem Ic{P:Prop}(h:P:=by exact⟨hcell _ _ (hg 0 (by omega)),hcell _ _ (hg 1 (by omega)),hcell _ _ (hg 2 (by omega)),hcell _ _ (hg 3 (by omega))⟩):P:=h
theorem Xc{P:Prop}(h:P:=by
 rcases Nat.lt_or_ge g w.heap.size with hlt|hge;·exact hlt
 ·rw[Array.getElem?_eq_none hge]at hh;cases hh):P:=h
theorem pd{P:Prop}(h:P:=by refine List.map_congr_left fun x _=>?_;show Value.string x=Value.string (vh x.data.toList);rw[oz]):P:=h
theorem Ce{P:Prop}(h:P:=by go_wp2_with fail;go_ret;exact⟨Bh HE.out.symm,HW.out.below⟩):P:=h
theorem Ye{P:Prop}(h:P:=by go_wp2;go_ret;exact⟨Bh (by rw[HV2.out];rfl),rfl⟩):P:=h
theorem Ff{P:Prop}(h:P:=by go_ret;exact⟨ci (by rw[HS.out]),rfl⟩):P:=h
theorem Tf{P:Prop}(h:P:=by omega):P:=h
theorem Uf{P:Prop}(h:P:=by decide):P:=h
theorem Vf{P:Prop}(h:P:=by kernel_rfl):P:=h
theorem Yf{P:Prop}(h:P:=by simp):P:=h
theorem Pg{P:Prop}(h:P:=by simpa using hlt):P:=h
def vh(l:List UInt8):ByteArray:=⟨l.toArray⟩
theorem Ah(l:List UInt8):(vh l).toList=l:=ByteArray.toList_mk l
theorem Yi(l:List UInt8):(vh l).data.toList=l:=by simp[vh]
theorem oz(s:ByteArray):vh s.data.toList=s:=by simp[vh]
theorem Dh(l:List UInt8):(vh l).size=l.length:=by simp[vh,ByteArray.size]
structure xh where
 kind:Int
 text:List UInt8
 n:Int
 pos:Int
structure Kh where
 op:Int
 n:Int
 name:List UInt8
 pos:Int
def xh.cells(t:xh):List Value:=[.int .i64 t.kind,.string (vh t.text),.int .i64 t.n,.int .i64 t.pos]
def Kh.cells(t:Kh):List Value:=[.int .i64 t.op,.int .i64 t.n,.string (vh t.name),.int .i64 t.pos]
def Mh(t:List UInt8):List Value:=[.string (vh t)]
structure Sl (w:World) (B:Nat) (v:Value) (size n:Nat) (cs:List Value):Prop where
 len:cs.length=n*size
 form:∃ A c,v = .slice A n c∧n≤c∧(0 < n→∃ b off,A=some ⟨b,off,none⟩∧b < B∧∀ j u,cs[j]? = some u→w.cell? ⟨b,off+j,none⟩=some u)
theorem Sl.nil(w:World)(B size:Nat):Sl w B (.slice none 0 0) size 0 []:=⟨by simp,none,0,rfl,aaa _,fun h=>absurd h Tf⟩
theorem Sl.below{w w':World}{B:Nat}{v:Value}{size n:Nat}{cs:List Value}(h:Sl w B v size n cs)(L:Below B w w'):Sl w' B v size n cs:=by obtain⟨I,A,c,Y,M,O⟩:=h;refine⟨I,A,c,Y,M,fun H=>?_⟩;obtain⟨b,off,J,G,E⟩:=O H;exact⟨b,off,J,G,fun j u Q=>(L.cell (p:=⟨b,off+j,none⟩) G).trans (E j u Q)⟩
theorem Sl.more{w:World}{B G:Nat}{v:Value}{size n:Nat}{cs:List Value}(h:Sl w B v size n cs)(hB:B≤G):Sl w G v size n cs:=by obtain⟨I,A,c,Q,L,M⟩:=h;refine⟨I,A,c,Q,L,fun H=>?_⟩;obtain⟨b,off,J,O,E⟩:=M H;exact⟨b,off,J,by omega,E⟩
abbrev bi(w:World)(v:Value)(size n:Nat)(cs:List Value):Prop:=Sl w w.heap.size v size n cs
theorem bi.below{w w':World}{v:Value}{size n:Nat}{cs:List Value}(h:bi w v size n cs)(A:Below w.heap.size w w'):bi w' v size n cs :=
 (Sl.below h A).more A.size
theorem ei{α:Type}(f:α→List Value)(size:Nat)(A:∀ x,(f x).length=size):∀ (l:List α) (i k:Nat) (hi:i<l.length),k<size →
  (l.flatMap f)[i*size+k]? = (f l[i])[k]?
 |x::l,0,k,hi,E=>by simp only[baa,Nat.zero_mul,Nat.zero_add,List.getElem_cons_zero];rw[List.getElem?_append_left (by rw[A];exact E)]
 |x::l,i+1,k,hi,E=>by simp only[baa,List.getElem_cons_succ];rw[List.getElem?_append_right (by rw[A,caa];omega),A,show(i+1)*size+k - size=i*size+k by rw[caa];omega];exact ei f size A l i k (by simpa using hi) E
theorem bo{α:Type}(f:α→List Value)(size:Nat)(A:∀ x,(f x).length=size)(l:List α):(l.flatMap f).length=l.length*size:=by
 induction l with
 |nil=>simp
 |cons x l ih=>simp only[baa,List.length_append,A,ih,List.length_cons,caa];omega
theorem xh.cells_len(t:xh):t.cells.length=4:=rfl
theorem Kh.cells_len(t:Kh):t.cells.length=4:=rfl
abbrev Vi(w:World)(v:Value)(l:List xh):Prop:=bi w v 4 l.length (l.flatMap xh.cells)
abbrev Wh(w:World)(v:Value)(l:List Kh):Prop:=bi w v 4 l.length (l.flatMap Kh.cells)
abbrev Tr(w:World)(v:Value)(l:List (List UInt8)):Prop:=bi w v 1 l.length (l.flatMap Mh)
structure VN (w:World) (b o:Nat) (t:xh):Prop where
 kind:w.cell? ⟨b,o,none⟩=some (.int .i64 t.kind)
 text:w.cell? ⟨b,o+1,none⟩=some (.string (vh t.text))
 n:w.cell? ⟨b,o+2,none⟩=some (.int .i64 t.n)
 pos:w.cell? ⟨b,o+3,none⟩=some (.int .i64 t.pos)
structure Qu (w:World) (b o:Nat) (t:Kh):Prop where
 op:w.cell? ⟨b,o,none⟩=some (.int .i64 t.op)
 n:w.cell? ⟨b,o+1,none⟩=some (.int .i64 t.n)
 name:w.cell? ⟨b,o+2,none⟩=some (.string (vh t.name))
 pos:w.cell? ⟨b,o+3,none⟩=some (.int .i64 t.pos)
theorem Vi.shape{w:World}{v:Value}{l:List xh}(h:Vi w v l):∃ A c,v = .slice A l.length c∧l.length≤c:=by obtain⟨_,A,c,G,E,_⟩:=h;exact⟨A,c,G,E⟩
theorem Wh.shape{w:World}{v:Value}{l:List Kh}(h:Wh w v l):∃ A c,v = .slice A l.length c∧l.length≤c:=by obtain⟨_,A,c,G,E,_⟩:=h;exact⟨A,c,G,E⟩
theorem Vi.at_{w:World}{v:Value}{l:List xh}(h:Vi w v l)(G:0<l.length):∃ b off c,v = .slice (some ⟨b,off,none⟩) l.length c∧l.length≤c∧b<w.heap.size∧∀ i (hi:i<l.length),VN w b (off+i*4) l[i]:=by obtain⟨_,A,c,M,I,J⟩:=h;obtain⟨b,off,H,E,hcell⟩:=J G;subst H;refine⟨b,off,c,M,I,E,fun i hi=>?_⟩;have hg:=fun k L=>ei xh.cells 4 xh.cells_len l i k hi L;exact Ic
theorem Wh.at_{w:World}{v:Value}{l:List Kh}(h:Wh w v l)(G:0<l.length):∃ b off c,v = .slice (some ⟨b,off,none⟩) l.length c∧l.length≤c∧b<w.heap.size∧∀ i (hi:i<l.length),Qu w b (off+i*4) l[i]:=by obtain⟨_,A,c,M,I,J⟩:=h;obtain⟨b,off,H,E,hcell⟩:=J G;subst H;refine⟨b,off,c,M,I,E,fun i hi=>?_⟩;have hg:=fun k L=>ei Kh.cells 4 Kh.cells_len l i k hi L;exact Ic
theorem Bh{a b:Bool}(h:a=b):daa (.bool a) = .returned (.bool b):=by rw[h]
theorem ci{k:IntKind}{a b:Int}(h:a=b):daa (.int k a) = .returned (.int k b):=by rw[h]
theorem Rl{a b:ByteArray}(h:a=b):daa (.string a) = .returned (.string b):=by rw[h]
theorem bt{a b c:World}(h:Below a.heap.size a b)(k:Below b.heap.size b c):Below a.heap.size a c:=h.trans (k.mono h.size)
theorem Ih{w w':World}{A:Nat}{e:TypeId}{size:Nat}{v:Value}{n:Nat}{H:List Value}(h:w.ownsRow A e size v n H)(J:Below w.heap.size w w'):w'.ownsRow A e size v n H:=by
 obtain⟨I,G⟩:=h;refine⟨I,?_⟩;rcases G with G|⟨g,E,cur,M,L,hh,r⟩;·exact .inl G
 ·have hlt:g<w.heap.size:=by exact Xc
  exact .inr ⟨g,E,cur,M,L,(J.block g hlt).trans hh,r⟩
theorem Ti{w:World}{A:Nat}{e:TypeId}{size:Nat}{v:Value}{n:Nat}{E:List Value}(h:w.ownsRow A e size v n E):bi w v size n E:=by
 refine⟨h.1,?_⟩;rcases h.2 with⟨rfl,rfl⟩|⟨g,cap,cur,hv,hg,hh,hn,hc,hs,ht⟩;·exact⟨none,0,rfl,aaa _,fun h=>absurd h Tf⟩
 ·refine⟨some ⟨g,0,none⟩,cap,hv,hn,fun _=>⟨g,0,rfl,?_,fun j u H=>?_⟩⟩;·exact(h.lt g (by rw[hv];rfl)).2
  ·have:=h.cells (g:=g) (by rw[hv];rfl) j u H;have e:(⟨g,0,none⟩:Addr).add j=⟨g,0+j,none⟩:=by
    unfold Addr.add;split;·rename_i G;subst G;rfl
    ·rfl
   rw[e]at this;exact this
theorem Ui{B:Nat}{a w:World}(h:Below B a w){b o:Nat}(A:B≤b)(u:Value):Below B a (w.setCell ⟨b,o,none⟩ u):=h.setCell (p:=⟨b,o,none⟩) A u
end Go.Proofs.YtjcihcncljihoaaGreatDoor
namespace Go.Proofs.YtjcihcncljihoaaGreatDoor
set_option linter.unusedVariables false
open Bool renaming eq_iff_iff→eaa
open List renaming contains_iff_mem→gaa,getD_eq_getElem?_getD→faa,length_cons→jaa,mem_iff_getElem→haa,takeWhile_cons→iaa
def si(c:UInt8):Bool:=(decide (97≤c.toNat)&&decide (c.toNat≤122))||decide (c.toNat=95)
def Ph(c:UInt8):Bool:=decide (48≤c.toNat)&&decide (c.toNat≤57)
def Xm(c:UInt8):Bool:=si c||Ph c
theorem Mu(c:UInt8):si c=((decide (97≤(c.toNat:Int))&&decide ((c.toNat:Int)≤122))||((c.toNat:Int)==95)):=by rw[eaa];simp[si];omega
theorem sx(c:UInt8):Ph c=(decide (48≤(c.toNat:Int))&&decide ((c.toNat:Int)≤57)):=by rw[eaa];simp[Ph];omega
def So:List (List UInt8):=[[108,105,110,101],[118,111,108],[108,111,99,107],[116,104,114,101,97,100],[114,101,103],[108,111,97,100],[115,116,111,114,101],[99,97,115],[102,108,117,115,104],[111,112,116],[115,102,101,110,99,101],[109,102,101,110,99,101],[116,97,107,101],[103,105,118,101],[105,102],[101,108,115,101],[108,111,111,112],[98,114,101,97,107],[99,104,101,99,107],[114,101,99,111,118,101,114],[97,108,119,97,121,115]]
def Ep(s:List UInt8):Bool:=So.contains s
def kw(j:Nat):List UInt8:=So.getD j []
theorem qF(j:Nat)(h:j<So.length):So[j]=kw j:=by unfold kw;rw[faa,List.getElem?_eq_getElem h];rfl
theorem Rq:So.length=21:=rfl
theorem IM(k:Nat)(h:k<21):So.take (k+1)=So.take k++[kw k]:=by rw[List.take_succ_eq_append_getElem (by rw[Rq];exact h),qF]
theorem eK(j:Nat):(kw j).length≤10:=by
 by_cases h:j<21
 ·have:∀ j:Fin 21,(kw j.val).length≤10:=by decide +kernel
  exact this ⟨j,h⟩
 ·unfold kw;rw[faa,List.getElem?_eq_none (by rw[Rq];omega)];exact Nat.zero_le _
theorem wH{s:List UInt8}(h:∀ j,j<21→(kw j==s)=false):Ep s=false:=by unfold Ep;rw[Bool.eq_false_iff];intro A;rw[gaa]at A;obtain⟨j,E,e⟩:=haa.1 A;have:=h j E;rw[← qF j E,e]at this;simp at this
theorem vH{s:List UInt8}{j:Nat}(A:j<21)(h:(kw j==s)=true):Ep s=true:=by
 unfold Ep;rw[gaa];have e:kw j=s:=by simpa using h
 rw[← e,← qF j (by rw[Rq];exact A)];exact List.getElem_mem _
def Hh(s:List UInt8):Bool:=match s with
 | []=>false
 |c::r=>decide (s.length≤16)&&si c&&!Ep s&&s.all Xm
theorem Fm{p:UInt8→Bool}:∀ (l:List UInt8),((l.takeWhile p).length==l.length)=l.all p
 | []=>rfl
 |c::l=>by
  rw[iaa,List.all_cons];cases h:p c;·simp
  ·simp only[if_true,jaa,Bool.true_and];rw[← Fm l];simp
theorem Cq{p:UInt8→Bool}:∀ (l:List UInt8) (k:Nat) (A:k<l.length),(∀ j (h:j<k),p (l[j]' Tf)=true)→p l[k]=false→(l.takeWhile p).length=k
 |c::l,0,_,_,h=>by have:p c=false:=h;rw[iaa,this];rfl
 |c::l,k+1,A,ha,h=>by have E:p c=true:=ha 0 Tf;rw[iaa,E];simp only[if_true,jaa];rw[Cq l k (by simpa using A) (fun j G=>ha (j+1) Tf) h]
theorem Wu{p:UInt8→Bool}(l:List UInt8)(h:∀ j (h:j<l.length),p l[j]=true):(l.takeWhile p).length=l.length:=by rw[← beq_iff_eq,Fm,List.all_eq_true];intro c A;obtain⟨j,E,rfl⟩:=haa.1 A;exact h j E
end Go.Proofs.YtjcihcncljihoaaGreatDoor
namespace Go.Proofs.YtjcihcncljihoaaGreatDoor
open Go Go.RowKit
set_option linter.unusedVariables false
open Go.Lib renaming hid→kaa
open Nat renaming zero_le→laa
open Go.Proofs.Tryz renaming prog→maa
theorem No(c:UInt8)(w:World):Calls maa 106 #[.int .u8 c.toNat] w fun e w'=>e = .returned (.bool (si c))∧w=w':=by
 have I:(c.toNat:Int)<256:=by have:=c.toNat_lt;omega
 have A:=Mu c;cases E:decide (97≤(c.toNat:Int))<;>cases G:decide ((c.toNat:Int)≤122)<;>cases H:((c.toNat:Int)==95);all_goals rw[E,G,H]at A;have HV2:=kaa A;clear A;go_enter Tryz.func106,Tryz.ntmps106;exact Ye
theorem Eo(c:UInt8)(w:World):Calls maa 89 #[.int .u8 c.toNat] w fun e w'=>e = .returned (.bool (si c))∧w=w':=by
 have I:(c.toNat:Int)<256:=by have:=c.toNat_lt;omega
 have A:=Mu c;cases E:decide (97≤(c.toNat:Int))<;>cases G:decide ((c.toNat:Int)≤122)<;>cases H:((c.toNat:Int)==95);all_goals rw[E,G,H]at A;have HV2:=kaa A;clear A;go_enter Tryz.func89,Tryz.ntmps89;exact Ye
theorem pt(c:UInt8)(w:World):Calls maa 109 #[.int .u8 c.toNat] w fun e w'=>e = .returned (.bool (Ph c))∧w=w':=by
 have H:(c.toNat:Int)<256:=by have:=c.toNat_lt;omega
 have A:=sx c;cases E:decide (48≤(c.toNat:Int))<;>cases G:decide ((c.toNat:Int)≤57);all_goals rw[E,G]at A;have HV2:=kaa A;clear A;go_enter Tryz.func109,Tryz.ntmps109;exact Ye
theorem aB(c:UInt8)(w:World):Calls maa 90 #[.int .u8 c.toNat] w fun e w'=>e = .returned (.bool (Ph c))∧w=w':=by
 have H:(c.toNat:Int)<256:=by have:=c.toNat_lt;omega
 have A:=sx c;cases E:decide (48≤(c.toNat:Int))<;>cases G:decide ((c.toNat:Int)≤57);all_goals rw[E,G]at A;have HV2:=kaa A;clear A;go_enter Tryz.func90,Tryz.ntmps90;exact Ye
theorem yP(c:UInt8)(w:World):Calls maa 108 #[.int .u8 c.toNat] w fun e w'=>e = .returned (.bool (Xm c))∧w=w':=by have E:=kaa (show Xm c=(si c||Ph c)from rfl);cases G:si c;all_goals have A:=E.out;rw[G]at A;have HV3:=kaa A;clear A E;go_enter Tryz.func108,Tryz.ntmps108;exact fb
theorem kO(s:ByteArray)(G:s.size≤9223372036854775807)(w:World):Calls maa 76 #[.string s,.func (.func 108) #[] #[]] w fun e w'=>e = .returned (.int .i64 (s.data.toList.takeWhile Xm).length)∧w=w':=by
 go_enter Tryz.func76,Tryz.ntmps76;go_wp2_with fail;go_loop [5] (fun n=>∃ k:Nat,k≤s.size∧n = .int .i64 k∧∀ j (h:j<k) (h':j<s.size),Xm s[j]=true) (fun n=>s.size - (intOf n).toNat);case atStart=>exact⟨0,laa _,rfl,fun j h=>absurd h Tf⟩
 case round =>
  obtain⟨k,E,rfl,A⟩:=hrel;have HA:=kaa A;clear A;by_cases hlt:k<s.size
  ·cases hd:Xm (s[k]'hlt);·have HS:=kaa (Cq (p:=Xm) s.data.toList k Pg (fun j h=>HA.out j h Tf) hd);go_wp2_with (go_at_call 108;refine(yP (s[k]'hlt) _).mono ?_;rintro e w' ⟨rfl,rfl⟩);exact Ff
   ·go_wp2_with (go_at_call 108;refine(yP (s[k]'hlt) _).mono ?_;rintro e w' ⟨rfl,rfl⟩);exact Ib
  ·exact Eb
structure OF (g:Nat) (w w':World):Prop where
 below:Below g w w'
 cell:∀ j,j < 21→w'.cell? ⟨g,j,none⟩=some (.string (vh (kw j)))
theorem Xw(w:World):OF w.heap.size w (w.alloc (.cells (So.map fun t=>Value.string (vh t)).toArray 9)):=by refine⟨(Below.refl _ _).alloc (Nat.le_refl _) _,fun j h=>?_⟩;rw[World.cell?_alloc_new,List.getElem?_toArray,List.getElem?_map,List.getElem?_eq_getElem (show j<So.length from h),qF];rfl
theorem RE(s:List UInt8)(w:World):Calls maa 149 #[.string (vh s)] w fun e w'=>e = .returned (.bool (Ep s))∧Below w.heap.size w w':=by
 go_enter Tryz.func149,Tryz.ntmps149;go_wp2_with fail;go_loopw [4] (fun i w'=>∃ k:Nat,k≤21∧i = .int .i64 k∧OF w.heap.size w w'∧∀ j,j<k→(kw j==s)=false) (fun i _=>21 - (intOf i).toNat);case atStart=>exact⟨0,laa _,rfl,Xw w,fun j h=>absurd h Tf⟩
 case round =>
  obtain⟨k,M,rfl,J,G⟩:=hrel;have HW:=kaa J;have H:=kaa G;clear J G;by_cases E:k<21
  ·have I:=HW.out.cell k E;cases A:((vh (kw k)).toList==(vh s).toList)
   ·have HE:Hid ((kw k==s)=false):=by rw[Ah,Ah]at A;exact A
    generalize kw k=x at I A;go_wp2_with fail;go_roundw;case rel =>
     refine⟨k+1,by omega,by go_num,HW.out,fun j h=>?_⟩;by_cases L:j<k;·exact H.out j L
     ·obtain rfl:j=k:=by omega
      exact HE.out
    case measure=>simp[intOf];omega
   ·have HE:Hid (Ep s=true):=by rw[Ah,Ah]at A;exact vH E A
    generalize kw k=x at I A;exact Ce
  ·obtain rfl:k=21:=by omega
   have HE:=kaa (wH (fun j h=>H.out j h));exact Ce
structure Xj (w:World):Prop where
 hm:0 < w.heap.size
 ht:5 < w.heap.size
 hr:2 < w.heap.size
 mlen:∃ m,w.cell? ⟨0,0,none⟩=some (.int .i64 m)
 tab : Lib.TabIs maa w "internal/strconv.uint64pow10" .u64 Lib.pow10Tab
 rng : ∃ tp p, w.var? maa "strconv.ErrRange" = some #[.iface tp p]
theorem Xj.below{w w':World}(h:Xj w)(A:Below w.heap.size w w'):Xj w':=by have:=A.size;have E:=h.hm;have G:=h.ht;have I:=h.hr;obtain⟨m,H⟩:=h.mlen;obtain⟨c,d,h5⟩:=h.rng;exact⟨by omega,by omega,by omega,⟨m,(A.cell (p:=⟨_,0,none⟩) E).trans H⟩,var?_below A Vf G h.tab,⟨c,d,var?_below A Vf I h5⟩⟩
end Go.Proofs.YtjcihcncljihoaaGreatDoor
namespace Go.Proofs.YtjcihcncljihoaaGreatDoor
open Go Go.RowKit Go.Maps
set_option linter.unusedVariables false
open Go.Lib renaming hid→kaa
open Go.WideMaps renaming keyOf_string_mk→naa
open Nat renaming le_refl→aaa
open Go.Proofs.Tryz renaming prog→maa
abbrev VB:ByteArray:=⟨#[108,105,110,101,32,118,111,108,32,108,111,99,107,32,116,104,114,101,97,100,32,114,101,103,32,108,111,97,100,32,115,116,111,114,101,32,99,97,115,32,102,108,117,115,104,32,111,112,116,32,115,102,101,110,99,101,32,109,102,101,110,99,101,32,116,97,107,101,32,103,105,118,101,32,105,102,32,101,108,115,101,32,108,111,111,112,32,98,114,101,97,107,32,99,104,101,99,107,32,114,101,99,111,118,101,114,32,97,108,119,97,121,115]⟩
theorem RB:Lib.countB VB ⟨#[32]⟩=20:=by decide +kernel
theorem QB:(Lib.splitB ⟨#[32]⟩ 0 20 VB).map (·.data.toList)=So:=by decide +kernel
theorem UB:(Lib.splitB ⟨#[32]⟩ 0 20 VB).map Value.string=So.map fun t=>Value.string (vh t):=by rw[← QB,List.map_map];exact pd
theorem aD(w:World)(m:Int)(hm:w.cell? ⟨0,0,none⟩=some (.int .i64 m)):Calls maa 184 #[.string VB,.string ⟨#[32]⟩] w fun e w'=>e = .returned (.slice (some ⟨w.heap.size,0,none⟩) 21 21)∧w'=w.alloc (.cells (So.map fun t=>Value.string (vh t)).toArray 9):=by have h:=Tryz.strings_Split VB ⟨#[32]⟩ m w (by decide +kernel) hm Uf;rw[RB,UB]at h;exact h
def PF(D:DataW Unit)(k:Nat):Prop:=IsMap D∧∀ s:List UInt8,D.atKey (.string s) (.lit (.bool false)) = .lit (.bool ((So.take k).contains s))
theorem SD:PF (.map []) 0:=⟨⟨_,rfl⟩,fun s=>rfl⟩
theorem TD{D:DataW Unit}{k:Nat}(h:PF D k)(E:k<21):PF (D.put (.string (kw k)) (.lit (.bool true))) (k+1):=by
 refine⟨h.1.put _ _,fun s=>?_⟩;rw[IM k E,List.contains_append];by_cases A:s=kw k;·rw[A,atKey_put_same h.1 (k:=.string (kw k)) trivial];simp
 ·rw[atKey_put_other (by intro e;injection e with e;exact A e),h.2 s];have:[kw k].contains s=false:=by simp;exact A
  rw[this,Bool.or_false]
structure jL (g n:Nat) (k:Nat) (w w':World):Prop where
 below:Below n w w'
 own:∃ D,w'.ownsMap maa 9 (plainElem maa 4) g k D∧PF D k
theorem CO(w:World)(m:Int)(hm:w.cell? ⟨0,0,none⟩=some (.int .i64 m))(hg:0<w.heap.size):Calls maa 154 #[] w fun e w'=>∃ g,e = .returned (.map (some g))∧jL g w.heap.size 21 w w':=by
 have Q:=@run_makeMap maa;have I:Hid ((w.alloc (.map #[] 0)).cell? ⟨0,0,none⟩=some (.int .i64 m)):=by show _=_;rw[World.cell?_alloc_lt w _ _ hg];exact hm
 clear hm;go_enter Tryz.func154,Tryz.ntmps154;go_wp2_with fail;refine(aD _ m I.out).mono ?_;rintro e w1 ⟨rfl,E⟩;clear Q;have hS:Hid (OF (w.heap.size+1) (w.alloc (.map #[] 0)) w1):=by have:=Xw (w.alloc (.map #[] 0));rw[← E]at this;show OF _ _ _;simpa using this
 have hM:Hid (jL w.heap.size w.heap.size 0 w w1):=by
  refine⟨?_,.map [],?_,SD⟩;·rw[E];exact((Below.refl _ _).alloc (aaa _) _).alloc Yf _
  ·rw[E];exact(World.ownsMap_made w maa 9 _).alloc _
 have hz:Hid (w1.heap.size=w.heap.size+2):=by show _=_;rw[E];simp
 clear E I;rw[show(w.alloc (.map #[] 0)).heap.size=w.heap.size+1 by simp];go_wp2_with fail;go_loopw [7,3] (fun i _ w'=>∃ k:Nat,k≤21∧i = .int .i64 k∧jL w.heap.size w.heap.size k w w'∧(∀ j,j<21→w'.cell? ⟨w.heap.size+1,j,none⟩=some (.string (vh (kw j))))∧w.heap.size+2≤w'.heap.size) (fun i _ _=>21 - (intOf i).toNat);case atStart=>exact⟨0,Nat.zero_le _,rfl,hM.out,hS.out.cell,by rw[hz.out];exact aaa _⟩
 case round =>
  obtain⟨k,hk,rfl,hm,hc,hs⟩:=hrel;have I:=kaa hm;have Y:=kaa hc;clear hm hc hM hS hz;by_cases M:k<21
  ·have O:=Y.out k M;have Z:=kaa (eK k);have J:Hid (keyOf maa 9 (.string (vh (kw k)))=some (.string (kw k))):=by have:=naa (P:=maa) (k:=9) Tryz.underlying9 (s:=vh (kw k)) (by rw[Dh];have:=eK k;unfold maxLen;omega);rw[Yi]at this;exact this
   obtain⟨D,G,hD⟩:=I.out.own;have L:=kaa G;have HD:=kaa (TD hD M);clear G hD;go_wp2_with (first|(at_mapUpdate;refine wpList_mapUpdate_own _ rfl _ _ _ 167 rfl 9 4 (string_keyed Tryz.underlying9) Tryz.underlying167 (plainElem maa 4) w.heap.size k D rfl L.out (by unfold maxLen;omega) _ _ (.string (kw k)) rfl rfl J.out (.lit (.bool true)) [] (plainElem_bool Tryz.underlying4 true) ?_;intro w2 H A));go_roundw;case rel =>
    refine⟨k+1,by omega,by go_num,⟨?_,_,H,HD.out⟩,fun j h=>?_,?_⟩;·exact I.out.below.grown A Tf (fun k e=>by cases e;exact aaa _)
    ·rw[A.cell_far _ (by show w.heap.size+1<_;omega) Yf];exact Y.out j h
    ·have:=A.size;omega
   case measure=>simp[intOf];omega
  ·obtain rfl:k=21:=by omega
   go_wp2_with fail;go_ret;exact⟨_,rfl,I.out⟩
theorem Jr{P:Program}{e:TypeId}(A:P.underlying e=some .bool){v:Value}{z:DataW Unit × List MemPlace}(h:plainElem P e v=some z):∃ b,v = .bool b∧z.1 = .lit (.bool b):=by unfold plainElem at h;rw[A]at h;cases v<;>simp at h;exact⟨_,rfl,by rw[← h]⟩
theorem RF(w:World):(zeroValue 4).run maa w = .ok (.bool false) w:=by kernel_rfl
theorem UO(s:List UInt8)(Z:s.length≤1000000)(w:World)(H:Xj w):Calls maa 107 #[.string (vh s)] w fun e w'=>e = .returned (.bool (Ep s))∧Below w.heap.size w w':=by
 obtain⟨m,hm⟩:=H.mlen;have M:=kaa (CO w m hm H.hm);clear hm H;go_enter Tryz.func107,Tryz.ntmps107;go_wp2_with fail;refine M.out.mono ?_;rintro e w1 ⟨g,rfl,I⟩;obtain⟨D,E,O⟩:=I.own;have A:keyOf maa 9 (.string (vh s))=some (.string s):=by have:=naa (P:=maa) (k:=9) Tryz.underlying9 (s:=vh s) (by rw[Dh];unfold maxLen;omega);rw[Yi]at this;exact this
 obtain⟨v,ps,Q,L⟩:=E.lookup (string_keyed Tryz.underlying9) Tryz.underlying167 (RF w1) (plainElem_bool Tryz.underlying4 false) A;rw[O.2 s]at L;obtain⟨b,rfl,G⟩:=Jr Tryz.underlying4 L;have J:Hid (b=Ep s):=by rw[List.take_of_length_le (by rw[Rq];exact aaa _)]at G;injection G with G;injection G with G;exact G.symm
 have Y:=kaa I.below;clear L G A E O I M;go_wp2_with fail;go_ret;exact⟨Bh J.out,Y.out⟩
end Go.Proofs.YtjcihcncljihoaaGreatDoor
namespace Go.Proofs.YtjcihcncljihoaaGreatDoor
open Go Go.ChangeShapes Go.WideShapes Go.ChangeAt Go.RowKit
set_option linter.unusedVariables false
open Go.MakeChecks renaming laidMetH_plain→oaa
theorem own:ownKnob Tryz.prog.godebug=none:=by kernel_rfl
theorem BA : ("*errors.errorString" : String) = "*" ++ "errors.errorString" := by decide
theorem lO (u : TypeId) (h : Tryz.prog.typeName? 3 u = some "*errors.errorString") : u = 262 :=
 typeName_ptr_named (nm := "errors.errorString") (by rw [← BA]; kernel_rfl) Vf Uf u (by rw [← BA]; exact h)
theorem IB{W:World}{g:Nat}{u:Value}(h:W.cell? ⟨g,0,none⟩=some u):g<W.heap.size:=World.block_lt_of_cell? W ⟨g,0,none⟩ h
theorem Iy{W:World}{n:String}{g:Nat}{cs:Array Value}(I:Tryz.prog.globalNamed n=some g)(h:W.var? Tryz.prog n=some cs)(H:cs[0]?.isSome=true):g<W.heap.size:=by
 have G:=World.var?_cell I h 0;rcases Nat.lt_or_ge g W.heap.size with E|A;·exact E
 ·have:W.cell? ⟨g,0,none⟩=none:=by simp[World.cell?,Array.getElem?_eq_none A]
  rw[this]at G;rw[← G]at H;cases H
theorem Hz{W:World}(A:W.ShapedOpen Tryz.prog):∃ m,W.cell? ⟨0,0,none⟩=some (.int .i64 m) :=
 cell_of_shapedOpen_int A (t:=3) (zero:=#[.int .i64 0]) (of_decide_eq_true Vf) Vf rfl Vf Vf Tryz.underlying3
theorem XH:Tryz.prog.cellsOf 258=20:=by kernel_rfl
theorem WH:Tryz.prog.cellsOf 230=1:=by kernel_rfl
theorem gC {W:World} (l:List (String × DataW Unit)) (h:laidMetH Tryz.prog l W) (L:W.ShapedOpen Tryz.prog) (I : l.filter (fun x => x.1 == "internal/strconv.uint64pow10") = [("internal/strconv.uint64pow10", Rows.laid_internal_strconv_uint64pow10)]) (J : l.filter (fun x => x.1 == "strconv.ErrRange") = [("strconv.ErrRange", Rows.laid_strconv_ErrRange)]) : Xj W := by
 have A := h.filter (fun x => x.1 == "internal/strconv.uint64pow10");rw [I,oaa _ _ _ Vf] at A;have e1:(Rows.laid_internal_strconv_uint64pow10:DataW Unit)=Lib.tabData .u64 Lib.pow10Tab:=by kernel_rfl
 rw [e1] at A;have E:=Lib.tabIs_of_head (g:=5) Vf Vf Tryz.underlying258 Tryz.underlying230 WH XH A;have G := h.filter (fun x => x.1 == "strconv.ErrRange");rw [J,oaa _ _ _ Vf] at G;obtain ⟨M,O,H,_⟩:=laid_sentinel (g:=2) G Vf Vf Tryz.underlying94 lO Tryz.underlying262 Tryz.underlying264 rfl rfl Tryz.underlying9 Vf Vf;obtain ⟨m,hm⟩:=Hz L;exact ⟨IB hm,Iy Vf E Vf,Iy Vf H rfl,⟨m,hm⟩,E,⟨_,_,H⟩⟩
end Go.Proofs.YtjcihcncljihoaaGreatDoor

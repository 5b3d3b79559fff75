/- Chapter 05 (programs), joined: ScanNames, RScanA, RScanC, ParA, ParB, ParC. -/
import Derived.Test.YtjcihcncljihoaaGreatDoorPb01
import Derived.Deep.RegionHeld3
import Derived.Maps.AppendAt
import Derived.RegionTactic
set_option maxRecDepth 100000
set_option maxHeartbeats 1000000
namespace Go.Proofs.YtjcihcncljihoaaGreatDoor
open Go Go.RowKit
set_option linter.unusedVariables false
open Go.Addr renaming add→fba
open Go.Lib renaming hid→kaa
open Go.World renaming cell?_alloc_new→eba,size_alloc→gba
open List renaming getD_eq_getElem?_getD→faa,getElem?_eq_getElem→Eaa,getElem_mem→dba,mem_iff_getElem→haa
open Go.Proofs.Tryz renaming prog→maa
theorem Ma{P:Prop}(h:P:=by
 exact⟨by omega,(hb.cell (p:=⟨g,0,none⟩) hlt).trans h.c0,(hb.cell (p:=⟨g,1,none⟩) hlt).trans h.c1,(hb.cell (p:=⟨g,2,none⟩) hlt).trans h.c2,(hb.cell (p:=⟨g,3,none⟩) hlt).trans h.c3,
  (hb.frozen (p:=⟨g,0,none⟩) hlt).trans h.f0,(hb.frozen (p:=⟨g,1,none⟩) hlt).trans h.f1,(hb.frozen (p:=⟨g,2,none⟩) hlt).trans h.f2,(hb.frozen (p:=⟨g,3,none⟩) hlt).trans h.f3⟩):P:=h
theorem zb{P:Prop}(h:P:=by
 obtain⟨b,off,hA,hlt,hcell⟩:=hf hm;refine hgo _ hA fun j x hj=>?_;have:=hcell j x hj;have e:(⟨b,off,none⟩:Addr).add j=⟨b,off+j,none⟩:=by
  unfold Addr.add;split;·rename_i h0;subst h0;rfl
  ·rfl
 rw[e];exact this):P:=h
theorem Hb{P:Prop}(h:P:=by
 go_round;case rel =>
  refine⟨k+1,by omega,by go_num,fun j h h'=>?_⟩;by_cases hj:j<k;·exact HA.out j hj h'
  ·obtain rfl:j=k:=by omega
   exact HDT.out
 case measure=>simp[intOf];omega):P:=h
theorem Fc{P:Prop}(h:P:=by exact Ui (Ui (Ui (Ui hB (Nat.le_refl _) _) (Nat.le_refl _) _) (Nat.le_refl _) _) (Nat.le_refl _) _):P:=h
theorem rd{P:Prop}(h:P:=by intro v' w' h2 h3 _;exact h v' w' h2 ((Below.refl _ _).grown h3 hbase (fun g hg=>(hown.lt g hg).1))):P:=h
theorem zd{P:Prop}(h:P:=by refine⟨by simpa[World.setCell]using hl,?_,?_,?_,?_,?_,?_,?_,?_⟩<;>simp[*,go_sem]):P:=h
theorem Ud{P:Prop}(h:P:=by have:=hcell (i*1+0) _ hg;rw[show off+(i*1+0)=off+i by omega]at this;exact this):P:=h
theorem re{P:Prop}(h:P:=by go_wp2_with fail;go_ret;exact⟨Bh HF.out.symm,Below.refl _ _⟩):P:=h
theorem wf{P:Prop}(h:P:=by go_wp2_with fail;go_ret;exact⟨rfl,Below.refl _ _⟩):P:=h
theorem Af{P:Prop}(h:P:=by go_ret;exact⟨Bh HF.out.symm,Below.refl _ _⟩):P:=h
theorem Bf{P:Prop}(h:P:=by go_ret;exact⟨Bh (by rw[HF.out,HX.out]),hb⟩):P:=h
theorem Dg{P:Prop}(h:P:=by simp[results,Tryz.results224,go_sem,hc0,hc1,hc2,hc3,kQ]):P:=h
theorem Qw(c:UInt8)(r:List UInt8):Hh (c::r)=(decide ((c::r).length≤16)&&si c&&!Ep (c::r)&&(c::r).all Xm):=rfl
def Gj(s:List UInt8)(w:World)(e:Ending)(w':World):Prop:=e = .returned (.bool (Hh s))∧Below w.heap.size w w'
theorem dq(s:List UInt8)(hs:s.length≤1000000)(w:World)(hE:Xj w):Calls maa 44 #[.string (vh s)] w (Gj s w):=by
 have HE:=kaa hE
 clear hE
 cases s with
 |nil =>
  have h0:(vh []).toList.isEmpty=true:=by rw[Ah];rfl
  have h1:(vh []).toList=[]:=Ah _
  go_enter Tryz.func44,Tryz.ntmps44
  exact wf
 |cons c r =>
  have E:(vh (c::r)).size=r.length+1:=by rw[Dh];rfl
  have h0:(vh (c::r)).toList.isEmpty=false:=by rw[Ah];rfl
  have h1:¬ (vh (c::r)).toList=[]:=by rw[Ah];simp
  have hp:0<(vh (c::r)).size:=by omega
  have hc:(vh (c::r))[0]'hp=c:=rfl
  have Q:=kaa (Qw c r)
  have M:=kaa (UO (c::r) hs)
  have HR:=kaa (kO (vh (c::r)) (by simp at hs;omega))
  have J:Hid (((((vh (c::r)).data.toList.takeWhile Xm).length:Int)==((vh (c::r)).size:Int))=(c::r).all Xm):=by show _=_;rw[Yi,Dh,← Fm,Bool.eq_iff_iff,beq_iff_eq,beq_iff_eq];omega
  by_cases A:(c::r).length≤16
  ·have L:¬ 16<(vh (c::r)).size:=by simp at A;omega
   cases H:si c
   ·have HF:Hid (Hh (c::r)=false):=by show _=_;rw[Q.out,H];simp
    have O:Hid (∀ u,Calls maa 106 #[.int .u8 c.toNat] u fun e w'=>e = .returned (.bool false)∧u=w'):=fun u=>by rw[← H];exact No c u
    clear E A H;go_enter Tryz.func44,Tryz.ntmps44;go_wp2_with (go_at_call 106;refine(O.out _).mono ?_;rintro e w' ⟨rfl,rfl⟩);exact Af
   ·have O:Hid (∀ u,Calls maa 106 #[.int .u8 c.toNat] u fun e w'=>e = .returned (.bool true)∧u=w'):=fun u=>by rw[← H];exact No c u
    cases I:Ep (c::r)
    ·have HF:Hid (Hh (c::r)=(c::r).all Xm):=by show _=_;rw[Q.out,H,I,decide_eq_true A];simp
     have G:Hid (∀ u,Xj u→Calls maa 107 #[.string (vh (c::r))] u fun e w'=>e = .returned (.bool false)∧Below u.heap.size u w'):=fun u Z=>by rw[← I];exact M.out u Z
     generalize (c::r).all Xm=av at J HF;clear E A H I M;go_enter Tryz.func44,Tryz.ntmps44;go_wp2_with (first|(go_at_call 106;refine(O.out _).mono ?_;rintro e w' ⟨rfl,rfl⟩)|(go_at_call 107;refine(G.out _ HE.out).mono ?_;rintro e w2 ⟨rfl,Y⟩)|(go_at_call 76;refine(HR.out _).mono ?_;rintro e w' ⟨rfl,rfl⟩));go_ret;exact⟨Bh (J.out.trans HF.out.symm),Y⟩
    ·have HF:Hid (Hh (c::r)=false):=by show _=_;rw[Q.out,I];simp
     have G:Hid (∀ u,Xj u→Calls maa 107 #[.string (vh (c::r))] u fun e w'=>e = .returned (.bool true)∧Below u.heap.size u w'):=fun u Z=>by rw[← I];exact M.out u Z
     clear E A H I M;go_enter Tryz.func44,Tryz.ntmps44;go_wp2_with (first|(go_at_call 106;refine(O.out _).mono ?_;rintro e w' ⟨rfl,rfl⟩)|(go_at_call 107;refine(G.out _ HE.out).mono ?_;rintro e w2 ⟨rfl,Y⟩));go_ret;exact⟨Bh HF.out.symm,Y⟩
  ·have L:16<(vh (c::r)).size:=by simp at A;omega
   have HF:Hid (Hh (c::r)=false):=by show _=_;rw[Q.out,decide_eq_false A];rfl
   clear E hc A;go_enter Tryz.func44,Tryz.ntmps44;exact re
theorem MB{c:UInt8}(h:Xm c=false):si c=false∧Ph c=false:=by unfold Xm at h;simpa using h
theorem QE(s:List UInt8)(hs:s.length≤1000000)(w:World):Calls maa 94 #[.string (vh s)] w (Gj s w):=by
 cases s with
 |nil =>
  have h0:(vh []).size<1:=by rw[Dh];decide
  have Q:(vh []).size=0:=by rw[Dh];rfl
  go_enter Tryz.func94,Tryz.ntmps94
  exact wf
 |cons c r =>
  have G:(vh (c::r)).size=r.length+1:=by rw[Dh];rfl
  have hp:0<(vh (c::r)).size:=by omega
  have hc:(vh (c::r))[0]'hp=c:=rfl
  have HN:=kaa (Qw c r)
  by_cases A:(c::r).length≤16
  ·have cY:¬ 16<(vh (c::r)).size:=by simp at A;omega
   cases O:si c
   ·have HF:Hid (Hh (c::r)=false):=by show _=_;rw[HN.out,O];simp
    have E:Hid (∀ u,Calls maa 89 #[.int .u8 c.toNat] u fun e w'=>e = .returned (.bool false)∧u=w'):=fun u=>by rw[← O];exact Eo c u
    clear G A O;go_enter Tryz.func94,Tryz.ntmps94;go_wp2_with (go_at_call 89;refine(E.out _).mono ?_;rintro e w' ⟨rfl,rfl⟩);exact Af
   ·have E:Hid (∀ u,Calls maa 89 #[.int .u8 c.toNat] u fun e w'=>e = .returned (.bool true)∧u=w'):=fun u=>by rw[← O];exact Eo c u
    cases M:Ep (c::r)
    ·have HF:Hid (Hh (c::r)=(c::r).all Xm):=by show _=_;rw[HN.out,O,M,decide_eq_true A];simp
     have I:Hid (∀ u,Calls maa 149 #[.string (vh (c::r))] u fun e w'=>e = .returned (.bool false)∧Below u.heap.size u w'):=fun u=>by rw[← M];exact RE (c::r) u
     have HS:=kaa G;have Y:=kaa hs;clear G A O M;generalize hS:vh (c::r)=S at *;have Z:Hid (S.data.toList=c::r):=by show _=_;rw[← hS,Yi]
     clear hS;go_enter Tryz.func94,Tryz.ntmps94;go_wp2_with (first|(go_at_call 89;refine(E.out _).mono ?_;rintro e w' ⟨rfl,rfl⟩)|(go_at_call 149;refine(I.out _).mono ?_;rintro e w2 ⟨rfl,hb⟩));go_loop [3] (fun i=>∃ k:Nat,k≤S.size∧i = .int .i64 k∧∀ j (h:j<k) (h':j<S.size),Xm S[j]=true) (fun i=>S.size - (intOf i).toNat);case atStart=>exact⟨0,Nat.zero_le _,rfl,fun j h=>absurd h Tf⟩
     case round =>
      obtain⟨k,M,rfl,L⟩:=hrel
      have HA:=kaa L
      clear L E I
      have dV:S.size≤1000000:=by have:=HS.out;have:=Y.out;simp at this;omega
      by_cases hlt:k<S.size
      ·have cZ:((S[k]'hlt).toNat:Int)<256:=by have:=(S[k]'hlt).toNat_lt;omega
       cases H:Xm (S[k]'hlt)
       ·have HX:Hid ((c::r).all Xm=false):=by show _=_;rw[← Z.out,List.all_eq_false];exact⟨S[k]'hlt,by exact dba (l:=S.data.toList) Pg,by simp[H]⟩
        have J:=(MB H).1;have Q:=(MB H).2;have E:Hid (∀ u,Calls maa 89 #[.int .u8 (S[k]'hlt).toNat] u fun e w'=>e = .returned (.bool false)∧u=w'):=fun u=>by rw[← J];exact Eo _ u
        have HD:Hid (∀ u,Calls maa 90 #[.int .u8 (S[k]'hlt).toNat] u fun e w'=>e = .returned (.bool false)∧u=w'):=fun u=>by rw[← Q];exact aB _ u
        clear J Q H;go_wp2_with (first|(go_at_call 89;refine(E.out _).mono ?_;rintro e w' ⟨rfl,rfl⟩)|(go_at_call 90;refine(HD.out _).mono ?_;rintro e w' ⟨rfl,rfl⟩));exact Bf
       ·have HDT:=kaa H;cases J:si (S[k]'hlt)
        ·have Q:Ph (S[k]'hlt)=true:=by unfold Xm at H;rw[J]at H;simpa using H
         have E:Hid (∀ u,Calls maa 89 #[.int .u8 (S[k]'hlt).toNat] u fun e w'=>e = .returned (.bool false)∧u=w'):=fun u=>by rw[← J];exact Eo _ u
         have HD:Hid (∀ u,Calls maa 90 #[.int .u8 (S[k]'hlt).toNat] u fun e w'=>e = .returned (.bool true)∧u=w'):=fun u=>by rw[← Q];exact aB _ u
         clear J Q H;go_wp2_with (first|(go_at_call 89;refine(E.out _).mono ?_;rintro e w' ⟨rfl,rfl⟩)|(go_at_call 90;refine(HD.out _).mono ?_;rintro e w' ⟨rfl,rfl⟩));exact Hb
        ·have E:Hid (∀ u,Calls maa 89 #[.int .u8 (S[k]'hlt).toNat] u fun e w'=>e = .returned (.bool true)∧u=w'):=fun u=>by rw[← J];exact Eo _ u
         clear J H;go_wp2_with (go_at_call 89;refine(E.out _).mono ?_;rintro e w' ⟨rfl,rfl⟩);exact Hb
      ·have HX:Hid ((c::r).all Xm=true):=by
        show _=_;rw[← Z.out,List.all_eq_true];intro x hx;obtain⟨j,hj,rfl⟩:=haa.1 hx;exact HA.out j (by
         have:j<S.size:=by simpa using hj
         omega) (by simpa using hj)
       go_wp2_with fail;exact Bf
    ·have HF:Hid (Hh (c::r)=false):=by show _=_;rw[HN.out,M];simp
     have I:Hid (∀ u,Calls maa 149 #[.string (vh (c::r))] u fun e w'=>e = .returned (.bool true)∧Below u.heap.size u w'):=fun u=>by rw[← M];exact RE (c::r) u
     clear G A O M;go_enter Tryz.func94,Tryz.ntmps94;go_wp2_with (first|(go_at_call 89;refine(E.out _).mono ?_;rintro e w' ⟨rfl,rfl⟩)|(go_at_call 149;refine(I.out _).mono ?_;rintro e w2 ⟨rfl,hb⟩));go_ret;exact⟨Bh HF.out.symm,hb⟩
  ·have cY:16<(vh (c::r)).size:=by simp at A;omega
   have HF:Hid (Hh (c::r)=false):=by show _=_;rw[HN.out,decide_eq_false A];rfl
   have dU:¬ (vh (c::r)).size<1:=by omega
   clear G hc A;go_enter Tryz.func94,Tryz.ntmps94;exact re
theorem Wl(s:ByteArray)(a b:Nat):(s.extract a b).toList=(s.data.toList.drop a).take (b - a):=by rw[ByteArray.toList_eq,ByteArray.data_extract,Array.toList_extract,List.extract_eq_take_drop]
theorem FF(s:ByteArray)(k:Nat)(h:k<s.size):s.data.toList.drop k=s[k]::s.data.toList.drop (k+1):=by rw[List.drop_eq_getElem_cons xg];rfl
theorem DK(s:ByteArray)(k:Nat)(h:s.size≤k):s.data.toList.drop k=[]:=List.drop_of_length_le xg
structure MF (g:Nat) (w w':World):Prop where
 below:Below g w w'
 cell:∀ j,j < 5→w'.cell? ⟨g,j,none⟩=some (.string (vh (tw j)))
theorem PC(w:World):MF w.heap.size w (w.alloc (.cells (Yr.map fun t=>Value.string (vh t)).toArray 9)):=by refine⟨(Below.refl _ _).alloc (Nat.le_refl _) _,fun j h=>?_⟩;rw[eba,List.getElem?_toArray,List.getElem?_map,Eaa (show j<Yr.length from h)];unfold tw;rw[faa,Eaa (show j<Yr.length from h)];rfl
theorem tL{l:List UInt8}(h:∀ j,j<5→(tw j).isPrefixOf l=false):Yr.any (fun t=>t.isPrefixOf l)=false:=by rw[List.any_eq_false];intro t ht;obtain⟨j,A,rfl⟩:=haa.1 ht;have:=h j A;unfold tw at this;rw[faa,Eaa A]at this;rw[Bool.not_eq_true];exact this
theorem vI{l:List UInt8}{j:Nat}(A:j<5)(h:(tw j).isPrefixOf l=true):Gl l=2:=by unfold Gl;rw[if_pos];rw[List.any_eq_true];refine⟨tw j,?_,h⟩;unfold tw;rw[faa,Eaa (show j<Yr.length from A)];exact dba _
abbrev MN:ByteArray:=⟨#[40,41,123,125,59,44,61,60,33,43,45,42,47,37]⟩
theorem iK:(Tryz.prog.info? 66).map (fun i=>(i.zero,i.size,i.bytes))=some (some (.agg #[.int .i64 0,.string ByteArray.empty,.int .i64 0,.int .i64 0]),4,40):=by kernel_rfl
def On(R:List xh × Int × Int)(w:World)(e:Ending)(w':World):Prop :=
 ∃ v,e = .returned (.tuple #[v,.int .i64 R.2.1,.int .i64 R.2.2])∧Vi w' v R.1∧Below w.heap.size w w'
theorem qE(w:World)(a b c d:Value)(t:TypeId):∀ j u,[a,b,c,d][j]? = some u→(w.alloc (.cells #[a,b,c,d] t)).cell? ((⟨w.heap.size,0,none⟩:Addr).add j)=some u:=by
 intro j u A
 match j,A with
 |0,A=>simp at A;subst A;simp[fba]
 |1,A=>simp at A;subst A;simp[fba]
 |2,A=>simp at A;subst A;simp[fba]
 |3,A=>simp at A;subst A;simp[fba]
 |j+4,A=>simp at A
theorem EA{l:List UInt8}{R:List xh × Int × Int}(A:Li l=R){w w':World}{v:Value}(G:Vi w' v R.1)(E:Below w.heap.size w w'):On (Li l) w (.returned (.tuple #[v,.int .i64 R.2.1,.int .i64 R.2.2])) w':=by subst A;exact⟨v,rfl,G,E⟩
theorem ay{l:List UInt8}{e p:Int}(A:Li l=([],e,p)){w w':World}(E:Below w.heap.size w w') :
 On (Li l) w (.returned (.tuple #[.slice none 0 0,.int .i64 e,.int .i64 p])) w':=EA A (Sl.nil _ _ _) E
theorem Cl{wr A:World}{a b c d:Value}{t:TypeId}(h:Below (wr.alloc (.cells #[a,b,c,d] t)).heap.size (wr.alloc (.cells #[a,b,c,d] t)) A):wr.heap.size+1≤A.heap.size∧A.cell? ⟨wr.heap.size,0,none⟩=some a∧A.cell? ⟨wr.heap.size,1,none⟩=some b∧A.cell? ⟨wr.heap.size,2,none⟩=some c∧A.cell? ⟨wr.heap.size,3,none⟩=some d∧A.frozen? ⟨wr.heap.size,0,none⟩=false∧A.frozen? ⟨wr.heap.size,1,none⟩=false∧A.frozen? ⟨wr.heap.size,2,none⟩=false∧A.frozen? ⟨wr.heap.size,3,none⟩=false:=by
 have G:=h.size;have E:wr.heap.size<(wr.alloc (.cells #[a,b,c,d] t)).heap.size:=by rw[gba];omega
 rw[gba]at G;refine⟨G,?_,?_,?_,?_,?_,?_,?_,?_⟩;iterate 4 rw[h.cell (p:=⟨wr.heap.size,_,none⟩) E,eba];rfl
 all_goals rw[h.frozen (p:=⟨wr.heap.size,_,none⟩) E];simp
theorem Mx(w:World)(n:Nat)(a:Addr)(v:Value):(w.drewN n).setCell a v=(w.setCell a v).drewN n:=rfl
theorem AC(w:World)(n:Nat)(o:Obj):(w.drewN n).alloc o=(w.alloc o).drewN n:=rfl
attribute [local simp, local go_sem] Mx AC
theorem EL(t:xh):∀ u∈t.cells,u.oneCell'=true:=by intro u A;simp only[xh.cells,List.mem_cons,List.not_mem_nil,or_false]at A;rcases A with rfl|rfl|rfl|rfl<;>rfl
end Go.Proofs.YtjcihcncljihoaaGreatDoor
namespace Go.Proofs.YtjcihcncljihoaaGreatDoor
open Go Go.RowKit
set_option linter.unusedVariables false
open Go.Builtin renaming append_→iba,firstCells→kba,lenOf→jba
open Go.RowKit.Below renaming refl→Gaa
open Go.World renaming size_alloc→gba
open Kh renaming cells→lba
open Nat renaming le_refl→aaa
open Go.Proofs.Tryz renaming prog→maa
theorem qn{P:Program}(w:World)(A:Nat)(t G e:TypeId)(i:TypeInfo)(size:Nat)(ht:P.underlying t=some (.slice e))(hi:P.info? e=some i)(v:Value)(n c:Nat)(H:List Value)(E:w.ownsRow A e size v n H):(iba #[t,t] G #[v,.slice none 0 c]).run P w = .ok v w:=by
 rcases E.2 with⟨rfl,rfl⟩|⟨g,cap,cur,rfl,_,_,hnc,_⟩;·simp[iba,run_underlying ht,sizeOf,typeInfo,hi,jba,kba]
 ·simp[iba,run_underlying ht,sizeOf,typeInfo,hi,jba,kba,hnc,storeCells]
theorem Gk{P:Program}{w:World}{L:Array Oper}{rest:List Oper}{o:Oper}{a:Act}{Q:Exit→Act→World→Prop}(O:o.guard=none)(s x:Operand)(t:TypeId)(ho:o.op = .call { callee:=.builtin .append,args:=#[s,x],argTypes:=#[t,t] })(E:Nat)(e:TypeId)(i:TypeInfo)(z:Value)(size bytes:Nat)(ht:P.underlying t=some (.slice e))(hi:P.info? e=some i)(hz:i.zero=some z)(J:i.size=size)(dX:i.bytes=bytes)(dZ:z.cells.size=size)(dY:0<size)(v:Value)(n:Nat)(Z:List Value)(hs:a.eval s=v)(hown:w.ownsRow E e size v n Z)(u:Value)(m:Nat)(G:List Value)(hx:a.eval x=u)(hu:bi w u size m G)(h1:∀ u∈G,u.oneCell'=true)(dW:n+m≤maxLen)(H:(n+m)*bytes≤140737488355328)(hbase:E≤w.heap.size)(h:∀ v' w',w'.ownsRow E e size v' (n+m) (Z++G)→Below E w w'→wpList P L Q rest (a.put o.dst v') w'):wpList P L Q (o::rest) a w:=by
 obtain⟨hl,A,c,rfl,hc,hf⟩:=hu;have hgo:∀ (M:Addr),A=some M→(∀ j x,G[j]? = some x→w.cell? (M.add j)=some x)→wpList P L Q (o::rest) a w:=fun M hA I=>by subst hA;refine wpList_append_own w O s x t ho E e i z size bytes ht hi hz J dX dZ dY v n Z hs hown M m c G hx hl I h1 dW H hbase ?_;exact rd
 by_cases hm:0<m;·exact zb
 ·obtain rfl:m=0:=by omega
  obtain rfl:G=[]:=List.eq_nil_of_length_eq_zero (by rw[hl];omega);cases A with
  |some M=>exact hgo M rfl Yf
  |none =>refine wpList_plain O fun K hK=>?_;have Y:=qn (P:=P) w E t o.type e i size ht hi v n c Z hown;unfold Oper.wp;simp[execOp,ho,resolve,invoke,builtin,hs,hx,Y,Result.andThen];refine hK _ _ (h v w ?_ (Gaa _ _));simpa using hown
theorem dt:(Tryz.prog.info? 46).map (fun i=>(i.zero,i.size,i.bytes))=some (some (.agg #[.int .i64 0,.int .i64 0,.string ByteArray.empty,.int .i64 0]),4,40):=by kernel_rfl
theorem ol(l:List Kh):∀ u∈l.flatMap lba,u.oneCell'=true:=by intro u E;obtain⟨x,_,A⟩:=List.mem_flatMap.1 E;simp only[lba,List.mem_cons,List.not_mem_nil,or_false]at A;rcases A with rfl|rfl|rfl|rfl<;>rfl
theorem Ps(w:World)(A:Nat)(E:A≤w.heap.size)(x:Kh) :
 (w.alloc (.cells #[.int .i64 x.op,.int .i64 x.n,.string (vh x.name),.int .i64 x.pos] 46)).ownsRow A 46 4 (.slice (some ⟨w.heap.size,0,none⟩) 1 1) 1 ([x].flatMap lba) :=
 World.ownsRow_lit w #[.int .i64 x.op,.int .i64 x.n,.string (vh x.name),.int .i64 x.pos] 1 E Uf rfl
def un(n:Nat):List Value:=[.int .i64 (n:Int)]
abbrev yE(w:World)(v:Value)(l:List Nat):Prop:=bi w v 1 l.length (l.flatMap un)
theorem yE.at_{w:World}{v:Value}{l:List Nat}(h:yE w v l)(G:0<l.length):∃ b off c,v = .slice (some ⟨b,off,none⟩) l.length c∧l.length≤c∧b<w.heap.size∧∀ i (hi:i<l.length),w.cell? ⟨b,off+i,none⟩=some (.int .i64 (l[i]:Int)):=by obtain⟨_,A,c,L,I,J⟩:=h;obtain⟨b,off,H,E,hcell⟩:=J G;subst H;refine⟨b,off,c,L,I,E,fun i hi=>?_⟩;have hg:=ei un 1 (fun _=>rfl) l i 0 hi Tf;exact Ud
theorem Tr.at_{w:World}{v:Value}{l:List (List UInt8)}(h:Tr w v l)(G:0<l.length):∃ b off c,v = .slice (some ⟨b,off,none⟩) l.length c∧l.length≤c∧b<w.heap.size∧∀ i (hi:i<l.length),w.cell? ⟨b,off+i,none⟩=some (.string (vh l[i])):=by obtain⟨_,A,c,L,I,J⟩:=h;obtain⟨b,off,H,E,hcell⟩:=J G;subst H;refine⟨b,off,c,L,I,E,fun i hi=>?_⟩;have hg:=ei Mh 1 (fun _=>rfl) l i 0 hi Tf;exact Ud
theorem Uh(w:World)(cs:Array Value)(t:TypeId)(j:Nat)(u:Value)(h:cs[j]? = some u):(w.alloc (.cells cs t)).cell? ⟨w.heap.size,j,none⟩=some u:=by rw[World.cell?_alloc_new,h]
theorem zk(w:World)(cs:List Value)(t:TypeId)(size n c:Nat)(G:cs.length=n*size)(A:n≤c):bi (w.alloc (.cells cs.toArray t)) (.slice (some ⟨w.heap.size,0,none⟩) n c) size n cs:=by refine⟨G,_,c,rfl,A,fun _=>⟨w.heap.size,0,rfl,by rw[gba];omega,fun j u E=>?_⟩⟩;rw[Nat.zero_add];exact Uh w cs.toArray t j u (by simpa using E)
theorem al(w:World)(o:Obj):Below w.heap.size w (w.alloc o):=(Gaa _ _).alloc (aaa _) _
theorem mO(n:Nat)(J:n<5)(w:World):Calls maa 194 #[.int .i64 n] w fun e w'=>∃ v,e = .returned v∧yE w' v (Rh n)∧Below w.heap.size w w':=by
 have h6:∀ A E G H I o6,Below w.heap.size w ((((((w.alloc A).alloc E).alloc G).alloc H).alloc I).alloc o6):=fun A E G H I o6=>by refine bt (bt (bt (bt (bt (al _ _) (al _ _)) (al _ _)) (al _ _)) (al _ _)) (al _ _)
 match n,J with
 |0,_ =>
  go_enter Tryz.func194,Tryz.ntmps194
  go_wp2_with fail
  go_ret
  refine⟨_,rfl,?_,h6 _ _ _ _ _ _⟩
  have:=zk w [.int .i64 15] 3 1 1 1 rfl (aaa _)
  exact(((((this.below (al _ _)).below (al _ _)).below (al _ _)).below (al _ _)).below (al _ _))
 |1,_ =>
  go_enter Tryz.func194,Tryz.ntmps194
  go_wp2_with fail
  go_ret
  refine⟨_,rfl,?_,h6 _ _ _ _ _ _⟩
  have:=zk (w.alloc (.cells #[.int .i64 15] 3)) [.int .i64 14] 3 1 1 1 rfl (aaa _)
  rw[gba]at this
  exact((((this.below (al _ _)).below (al _ _)).below (al _ _)).below (al _ _))
 |2,_ =>
  go_enter Tryz.func194,Tryz.ntmps194
  go_wp2_with fail
  go_ret
  refine⟨_,rfl,?_,h6 _ _ _ _ _ _⟩
  have:=zk ((w.alloc (.cells #[.int .i64 15] 3)).alloc (.cells #[.int .i64 14] 3)) [.int .i64 10,.int .i64 11,.int .i64 12,.int .i64 13] 3 1 4 4 rfl (aaa _)
  rw[gba,gba]at this
  exact(((this.below (al _ _)).below (al _ _)).below (al _ _))
 |3,_ =>
  go_enter Tryz.func194,Tryz.ntmps194
  go_wp2_with fail
  go_ret
  refine⟨_,rfl,?_,h6 _ _ _ _ _ _⟩
  have:=zk (((w.alloc (.cells #[.int .i64 15] 3)).alloc (.cells #[.int .i64 14] 3)).alloc (.cells #[.int .i64 10,.int .i64 11,.int .i64 12,.int .i64 13] 3)) [.int .i64 5,.int .i64 6] 3 1 2 2 rfl (aaa _)
  rw[gba,gba,gba]at this
  exact((this.below (al _ _)).below (al _ _))
 |4,_ =>
  go_enter Tryz.func194,Tryz.ntmps194
  go_wp2_with fail
  go_ret
  refine⟨_,rfl,?_,h6 _ _ _ _ _ _⟩
  have:=zk ((((w.alloc (.cells #[.int .i64 15] 3)).alloc (.cells #[.int .i64 14] 3)).alloc (.cells #[.int .i64 10,.int .i64 11,.int .i64 12,.int .i64 13] 3)).alloc (.cells #[.int .i64 5,.int .i64 6] 3)) [.int .i64 7,.int .i64 8,.int .i64 9] 3 1 3 3 rfl (aaa _)
  rw[gba,gba,gba,gba]at this
  exact(this.below (al _ _))
def IQ:List Value:=oG.map fun t=>.string (vh t)
theorem fO(op:Nat)(h:op<IQ.length):IQ[op] = .string (vh (sg op)):=by
 have A:op<oG.length:=by simpa[IQ]using h
 have E:(oG.map fun t=>Value.string (vh t))[op]'(by simpa using A) = .string (vh (sg op)):=by rw[List.getElem_map];congr 2;unfold sg;rw[List.getD_eq_getElem?_getD,List.getElem?_eq_getElem A];rfl
 exact E
theorem vz(op:Nat)(A:op<16)(w:World):Calls maa 174 #[.int .i64 op] w fun e w'=>e = .returned (.string (vh (sg op)))∧Below w.heap.size w w':=by go_enter Tryz.func174,Tryz.ntmps174;go_wp2_with fail;go_ret;exact⟨congrArg Ending.returned (fO op A),al _ _⟩
def kQ(L:Value)(t e p:Int):Value:=.agg #[L,.int .i64 t,.int .i64 e,.int .i64 p]
theorem Cz(l:List xh)(hl:l.length≤100000)(i:Nat)(G:Int)(v:Value)(w:World)(O:Vi w v l):Calls maa 224 #[v,.int .i64 i,.int .i64 G] w fun e w'=>e = .returned (kQ (.slice none 0 0) 0 (if l.length≤i then 6 else G) (Ch l i))∧Below w.heap.size w w':=by
 have Q:Hid (∀ u:World,Vi u v l→Calls maa 97 #[v,.int .i64 i] u (Vj l i u)):=fun u Z=>XI l Tf i v u Z;obtain⟨A,c,rfl,hc⟩:=O.shape;have Y:=Lib.hid O;clear O;by_cases h:l.length≤i;·rw[if_pos h];go_enter Tryz.func224,Tryz.ntmps224;go_wp2_with (go_at_call 97;refine(Q.out _ (Y.out.below ((Gaa _ _).alloc (aaa _) _))).mono ?_;rintro e w1 ⟨rfl,E⟩;obtain⟨M,hc0,hc1,hc2,hc3,H,I,J,L⟩:=Cl E);have hB:Below w.heap.size w w1:=bt (al _ _) E;refine bodyPost_ret (v:=kQ (.slice none 0 0) 0 6 (Ch l i)) Dg rfl ⟨rfl,?_⟩;exact Fc
 ·rw[if_neg h];go_enter Tryz.func224,Tryz.ntmps224;go_wp2_with (go_at_call 97;refine(Q.out _ (Y.out.below ((Gaa _ _).alloc (aaa _) _))).mono ?_;rintro e w1 ⟨rfl,E⟩;obtain⟨M,hc0,hc1,hc2,hc3,H,I,J,L⟩:=Cl E);have hB:Below w.heap.size w w1:=bt (al _ _) E;refine bodyPost_ret (v:=kQ (.slice none 0 0) 0 G (Ch l i)) Dg rfl ⟨rfl,?_⟩;exact Fc
structure Hj (w:World) (g:Nat) (a b c d:Value):Prop where
 lt:g < w.heap.size
 c0:w.cell? ⟨g,0,none⟩=some a
 c1:w.cell? ⟨g,1,none⟩=some b
 c2:w.cell? ⟨g,2,none⟩=some c
 c3:w.cell? ⟨g,3,none⟩=some d
 f0:w.frozen? ⟨g,0,none⟩=false
 f1:w.frozen? ⟨g,1,none⟩=false
 f2:w.frozen? ⟨g,2,none⟩=false
 f3:w.frozen? ⟨g,3,none⟩=false
theorem Hj.below{w w':World}{g:Nat}{a b c d:Value}(h:Hj w g a b c d)(hb:Below w.heap.size w w'):Hj w' g a b c d:=by have A:=hb.size;have hlt:=h.lt;exact Ma
theorem Hj.new(w:World)(a b c d:Value)(t:TypeId):Hj (w.alloc (.cells #[a,b,c,d] t)) w.heap.size a b c d:=by obtain⟨L,A,E,G,H,h5,h6,I,J⟩:=Cl (wr:=w) (a:=a) (b:=b) (c:=c) (d:=d) (t:=t) (Gaa _ _);exact⟨by omega,A,E,G,H,h5,h6,I,J⟩
theorem Hj.set{w:World}{g:Nat}{a b c d:Value}(h:Hj w g a b c d)(a' A E G:Value):Hj ((((w.setCell ⟨g,0,none⟩ a').setCell ⟨g,1,none⟩ A).setCell ⟨g,2,none⟩ E).setCell ⟨g,3,none⟩ G) g a' A E G:=by obtain⟨hl,H,I,J,L,f0,f1,f2,f3⟩:=h;exact zd
theorem Hj.away{w:World}{g k:Nat}{a b c d:Value}(h:Hj w g a b c d)(A:k≠g)(o:Nat)(u:Value):Hj (w.setCell ⟨k,o,none⟩ u) g a b c d:=by obtain⟨hl,G,H,I,J,f0,f1,f2,f3⟩:=h;have E:=Ne.symm A;exact zd
def dj(B:Nat)(v:Value):Prop:=∀ A n c,v = .slice (some A) n c→B≤A.block
theorem dj.mono{B A:Nat}{v:Value}(h:dj B v)(G:A≤B):dj A v:=fun E n c e=>Nat.le_trans G (h E n c e)
theorem dj.own{w:World}{A:Nat}{e:TypeId}{size:Nat}{v:Value}{n:Nat}{G:List Value}(h:w.ownsRow A e size v n G):dj A v:=fun H m c E=>by
 rcases h.2 with⟨rfl,_⟩|⟨g,cap,cur,rfl,hg,_⟩;·cases E
 ·cases E;exact hg
theorem bi.away{w:World}{v:Value}{size n:Nat}{cs:List Value}(h:bi w v size n cs){B g:Nat}(M:dj B v)(Q:g<B)(o:Nat)(u:Value):bi (w.setCell ⟨g,o,none⟩ u) v size n cs:=by obtain⟨I,A,c,rfl,L,hr⟩:=h;refine⟨I,A,c,rfl,L,fun H=>?_⟩;obtain⟨b,off,rfl,G,E⟩:=hr H;have J:=M _ _ _ rfl;refine⟨b,off,rfl,by simpa[World.setCell]using G,fun j x O=>?_⟩;rw[World.cell?_setCell_far _ _ _ _ (by show g≠b;have:B≤b:=J;omega)];exact E j x O
theorem bi.away4{w:World}{v:Value}{size n:Nat}{cs:List Value}(h:bi w v size n cs){B g:Nat}(A:dj B v)(E:g<B)(a b c d:Value) :
 bi ((((w.setCell ⟨g,0,none⟩ a).setCell ⟨g,1,none⟩ b).setCell ⟨g,2,none⟩ c).setCell ⟨g,3,none⟩ d) v size n cs :=
 (((h.away A E 0 a).away A E 1 b).away A E 2 c).away A E 3 d
theorem ni{B:Nat}{a w:World}(h:Below B a w){g:Nat}(A:B≤g)(x y z q:Value):Below B a ((((w.setCell ⟨g,0,none⟩ x).setCell ⟨g,1,none⟩ y).setCell ⟨g,2,none⟩ z).setCell ⟨g,3,none⟩ q) :=
 Ui (Ui (Ui (Ui h A _) A _) A _) A _
def Ur(B:Nat)(w:World)(r:Dm)(L:Value)(t e p:Int):Prop:=match r with
 | .inl (x,G)=>t=G∧e=0∧p=0∧Wh w L x.flat∧dj B L
 | .inr (A,E)=>L = .slice none 0 0∧t=0∧e=A∧p=E
def gn(r:Dm)(w:World)(e:Ending)(w':World):Prop :=
 Below w.heap.size w w'∧∃ (A:Option Addr) (n c:Nat) (t e1 p:Int),e = .returned (.agg #[.slice A n c,.int .i64 t,.int .i64 e1,.int .i64 p])∧Ur w.heap.size w' r (.slice A n c) t e1 p
theorem Ur.below{B:Nat}{w w':World}{r:Dm}{L:Value}{t e p:Int}(h:Ur B w r L t e p)(A:Below w.heap.size w w'):Ur B w' r L t e p:=by
 unfold Ur at h ⊢;split;·exact⟨h.1,h.2.1,h.2.2.1,h.2.2.2.1.below A,h.2.2.2.2⟩
 ·exact h
theorem Ur.mono{B A:Nat}{w:World}{r:Dm}{L:Value}{t e p:Int}(h:Ur B w r L t e p)(E:A≤B):Ur A w r L t e p:=by
 unfold Ur at h ⊢;split;·exact⟨h.1,h.2.1,h.2.2.1,h.2.2.2.1,h.2.2.2.2.mono E⟩
 ·exact h
theorem Ur.away4{B g:Nat}{w:World}{r:Dm}{L:Value}{t e p:Int}(h:Ur B w r L t e p)(A:g<B)(a b c d:Value):Ur B ((((w.setCell ⟨g,0,none⟩ a).setCell ⟨g,1,none⟩ b).setCell ⟨g,2,none⟩ c).setCell ⟨g,3,none⟩ d) r L t e p:=by
 unfold Ur at h ⊢;split;·exact⟨h.1,h.2.1,h.2.2.1,h.2.2.2.1.away4 h.2.2.2.2 A a b c d,h.2.2.2.2⟩
 ·exact h
theorem oj{P:Program}{fn:Func}{R:Ending→World→Prop}{a:Act}{w:World}(v:Value)(E:a.defers=[])(A:R (.returned v) w)(hr:(results fn a.tmps).run P w = .ok v w):bodyPost P fn R .ret a w:=⟨E,v,hr,A⟩
theorem WA(l:List xh)(v:Value)(k d:Nat)(hd:d+k=12)(M:∀ (i:Nat) (u:World),Vi u v l→Calls maa 193 #[v,.int .i64 i,.int .i64 d] u (gn (ti l k i) u))(i:Nat)(u:World)(hv:Vi u v l):Calls maa 152 #[v,.int .i64 i,.int .i64 d,.int .i64 5] u (gn (Dj (ti l k) l 0 i) u):=by
 have L:=Lib.hid (M i _ (hv.below (al u (.cells #[.slice none 0 0,.int .i64 0,.int .i64 0,.int .i64 0] 164))));have O:Hid (Dj (ti l k) l 0 i=ti l k i):=rfl;go_enter Tryz.func152,Tryz.ntmps152;go_wp2_with (go_at_call 193;refine(L.out).mono ?_;rintro e w1 ⟨A,J,n1,c1,t,e1,p,rfl,hr⟩;obtain⟨d8,E,G,H,I,Q,Y,Z,d7⟩:=(Hj.new u _ _ _ _ _).below A);refine oj (.agg #[.slice J n1 c1,.int .i64 t,.int .i64 e1,.int .i64 p]) rfl ?_ ?_;·refine⟨ni (bt (al _ _) A) (aaa _) _ _ _ _,J,n1,c1,t,e1,p,rfl,?_⟩;rw[O.out];rw[gba]at hr;exact(hr.away4 (Nat.lt_succ_self _) _ _ _ _).mono (Nat.le_succ _)
 ·simp[results,Tryz.results152,go_sem,E,G,H,I]
end Go.Proofs.YtjcihcncljihoaaGreatDoor

/- Chapter 05 (programs), joined: ScnC. -/
import Derived.Test.YtjcihcncljihoaaGreatDoorPb28
set_option maxRecDepth 100000
set_option maxHeartbeats 2000000
namespace Go.Proofs.YtjcihcncljihoaaGreatDoor
open Go Go.RowKit
set_option linter.unusedVariables false
open Go.Lib renaming hid→kaa,trimB→Gea,trimLeftB→Hea
open Go.RowKit.Below renaming refl→Gaa
open List renaming dropWhile_suffix→Mea,length_drop→vaa,length_take→nca
open Nat renaming le_refl→aaa
open Go.Proofs.Tryz renaming prog→maa
theorem ua{P:Prop}(h:P:=by
 have H4:=Lib.hid h4;have hte:(vh (Lib.trimB d 48)).toList.isEmpty=false:=by rw[Ah,List.isEmpty_eq_false_iff];exact h1
 have hte2:¬ (vh (Lib.trimB d 48)).toList=[]:=by rw[Ah];exact h1
 generalize vh (Lib.trimB d 48)=tr at *;obtain rfl:=HDD.out;subst h2;clear h1 h4 HC;go_wp2_with (go_at_call 141;refine(HTR.out _).mono ?_;rintro e w2 ⟨rfl,hb2⟩;obtain⟨hz,hc0,hc1,hc2,hc3,hf0,hf1,hf2,hf3⟩:=Cl (HBB.out.trans (hb2.mono HBB.out.size));have HB2:=Lib.hid (HBB.out.trans (hb2.mono HBB.out.size));clear hb2);exact bodyPost_ret (v:=.tuple #[lm ⟨0,[],0,0⟩,.int .i64 4]) (by simp[results,Tryz.results80,go_sem,lm,hc0,hc1,hc2,hc3];try rfl) rfl (km (HR.out.trans H4.out) rfl (qo HB2.out _ _ _ _))):P:=h
theorem KI(a b:List UInt8):vh (a++b)=vh a++vh b:=(ByteArray.mk_append_mk a b).symm
theorem Pu(w:World):Below w.heap.size w w.drew:=⟨rfl,rfl,rfl,aaa _,fun _ _=>rfl⟩
theorem Rx{w w1:World}(h:Below w.drew.heap.size w.drew w1):Below w.heap.size w w1:=(Pu w).trans h
theorem Xj.drew{w:World}(h:Xj w):Xj w.drew:=h.below (Pu w)
structure iS (s:ByteArray) (d:List UInt8) (k:Nat) (x y:Int):Prop where
 tw:s.data.toList.takeWhile Ph=d
 len:d.length=k+1
 le:k+1≤s.size
 num:Nr (Tj d)=(x,y)
theorem ZF(s:ByteArray)(hs:s.size≤1000000)(M:0<s.size)(hl:si (s[0]'M)=false)(Y:Ph (s[0]'M)=true)(w:World)(hE:Xj w)(d:List UInt8)(k:Nat)(x y:Int)(hd:iS s d k x y)(R:(xh × Nat) ⊕ Int)(hR:lj s.data.toList 0=R)(hc:(Gea d 48=[]∧R = .inl (⟨2,d,0,0⟩,k+1))∨(¬ Gea d 48=[]∧y=0∧x≤4294967296∧R = .inl (⟨2,d,x,0⟩,k+1))∨(¬ Gea d 48=[]∧y=4∧R = .inr 4)∨(¬ Gea d 48=[]∧y=0∧4294967296<x∧R = .inr 4)):Calls maa 80 #[.string s] w (Cm s w):=by
 obtain⟨J,A,a0,E⟩:=hd;have HL:Hid (∀ u,Calls maa 106 #[.int .u8 (s[0]'M).toNat] u fun e w'=>e = .returned (.bool false)∧u=w'):=fun u=>by rw[← hl];exact No _ u
 have O:Hid (∀ u,Calls maa 109 #[.int .u8 (s[0]'M).toNat] u fun e w'=>e = .returned (.bool true)∧u=w'):=fun u=>by rw[← Y];exact pt _ u
 have Q:Hid (∀ u,Calls maa 76 #[.string s,.func (.func 109) #[] #[]] u fun e w'=>e = .returned (.int .i64 ((k:Int)+1))∧u=w'):=fun u=>by have:=XL s Tf u;rw[J,A]at this;exact this
 have HX:Hid (s.extract 0 (k+1)=vh d):=by show _=_;rw[ot,← A,← J];congr 1;exact(List.prefix_iff_eq_take.1 (List.takeWhile_prefix _)).symm
 have I:(vh d).size=k+1:=by rw[Dh,A]
 have HA:Hid ((vh d).extract 0 k=vh (d.take k)):=by show _=_;rw[ot,Yi]
 have HB:Hid ((vh d).extract k (k+1)=vh (d.drop k)):=by show _=_;rw[← oz ((vh d).extract k (k+1))];congr 1;rw[← ByteArray.toList_eq,Wl,Yi];exact List.take_of_length_le (by rw[vaa];omega)
 have aU:Hid (∀ u,Calls maa 140 #[.string (vh (d.take k)),.string ⟨#[48]⟩] u fun e w'=>e = .returned (.string (vh (Hea (d.take k) 48)))∧u=w'):=fun u =>
  (Tryz.strings_TrimLeft_one (vh (d.take k)) 48 Uf u).mono fun _ _ ⟨h1,h2⟩=>⟨by rw[h1,Yi];rfl,h2.symm⟩
 have G:Tj d=Hea (d.take k) 48++d.drop k:=by unfold Tj;rw[A];rfl
 have ao:Hid (vh (Hea (d.take k) 48)++vh (d.drop k)=vh (Tj d)):=by show _=_;rw[G,KI]
 have av:Hid (∀ u:World,Xj u→Calls maa 139 #[.string (vh (Tj d))] u fun e w'=>e = .returned (.tuple #[.int .i64 x,.int .i64 y])∧Below u.heap.size u w'):=fun u hu=>by
  have aW:(vh (Tj d)).size≤281474976710656:=by rw[Dh,G,List.length_append,vaa];have h1:(Hea (d.take k) 48).length≤(d.take k).length:=(Mea _).length_le;rw[nca]at h1;omega
  have:=oM (vh (Tj d)) u aW hu;unfold Dt at this;rw[Yi,E]at this;exact this
 have HTR:Hid (∀ u:World,Calls maa 141 #[.string (vh d),.string ⟨#[48]⟩] u fun e w'=>e = .returned (.string (vh (Gea d 48)))∧Below u.heap.size u w'):=fun u =>
  (Tryz.strings_Trim_one (vh d) 48 Uf u (by rw[Dh];omega)).mono fun _ _ ⟨h1,h2⟩=>⟨by rw[h1,Yi];rfl,by
   rcases h2 with rfl|rfl;·exact Gaa _ _
   ·exact⟨rfl,rfl,rfl,aaa _,fun _ _=>rfl⟩⟩
 have aZ:(vh (Hea (d.take k) 48)).size≤k:=by have h1:(Hea (d.take k) 48).length≤(d.take k).length:=(Mea _).length_le;rw[nca]at h1;rw[Dh];omega
 have aX:(vh (d.drop k)).size=1:=by rw[Dh,vaa];omega
 have H:((s[0]'M).toNat:Int)<256:=by have:=(s[0]'M).toNat_lt;omega
 have HE:=kaa (hE.below ((Gaa _ w).alloc (aaa _) (.cells #[.int .i64 0,.string ⟨#[]⟩,.int .i64 0,.int .i64 0] 66)));have HR:=kaa hR;have HC:=kaa hc;clear hl Y hE hR hc G E J A;generalize vh (d.take k)=dA at *;generalize vh (d.drop k)=dB at *;generalize vh (Hea (d.take k) 48)=dT at *;generalize vh (Tj d)=dP at *;have hX:=HX.out;generalize hD:vh d=L at *;have HDD:=kaa hD;clear hD HX;go_enter Tryz.func80,Tryz.ntmps80;go_wp2_with (first|(go_at_call 106;refine(HL.out _).mono ?_;rintro e w' ⟨rfl,rfl⟩)|(go_at_call 109;refine(O.out _).mono ?_;rintro e w' ⟨rfl,rfl⟩)|(go_at_call 76;refine(Q.out _).mono ?_;rintro e w' ⟨rfl,rfl⟩));clear hX Q O HL H;have hA:=HA.out;have aV:=ao.out;have aT:=kaa I;have hB:L.extract k L.size=dB:=by rw[I];exact HB.out
 have aY:IntKind.i64.wrap ((L.size:Int) - 1)=(k:Int):=by have:=aT.out;rw[show(L.size:Int) - 1=k by omega];exact IntWalk.i64_in _ Tf
 have af:(k:Int)≤(L.size:Int):=by omega
 have al:k≤L.size:=by omega
 have a1:(0:Int)≤(k:Int):=by omega
 have Z:¬ (9223372036854775807<(dT.size+dB.size:Nat)):=by omega
 have ad:¬ (9223372036854775807<(dT.size:Int)+(dB.size:Int)):=by omega
 clear I aX;go_region_held3 (fun w'=>True) (trivial) (first|(go_at_call 140;refine(aU.out _).mono ?_;rintro e w' ⟨rfl,rfl⟩)|(go_at_call 139;refine(av.out _ (Xj.drew HE.out)).mono ?_;rintro e w1 ⟨rfl,hb⟩));have HBB:=kaa (Rx hb);clear hb hA hB aV aY Z ad af al;rcases HC.out with⟨h1,h2⟩|⟨h1,h2,h3,h4⟩|⟨h1,h2,h4⟩|⟨h1,h2,h3,h4⟩
 ·have H4:=kaa h2;have hte:(vh (Gea d 48)).toList.isEmpty=true:=by rw[Ah,h1];rfl
  have hte2:(vh (Gea d 48)).toList=[]:=by rw[Ah,h1]
  generalize vh (Gea d 48)=tr at *;obtain rfl:=HDD.out;clear h1 h2 HC;go_wp2_with (go_at_call 141;refine(HTR.out _).mono ?_;rintro e w2 ⟨rfl,hb2⟩;obtain⟨hz,hc0,hc1,hc2,hc3,hf0,hf1,hf2,hf3⟩:=Cl (HBB.out.trans (hb2.mono HBB.out.size));have HB2:=kaa (HBB.out.trans (hb2.mono HBB.out.size));clear hb2);exact bodyPost_ret (v:=.tuple #[lm ⟨2,d,0,0⟩,.int .i64 0]) qg rfl (km (HR.out.trans H4.out) rfl (qo HB2.out _ _ _ _))
 ·have H4:=kaa h4;have hte:(vh (Gea d 48)).toList.isEmpty=false:=by rw[Ah,List.isEmpty_eq_false_iff];exact h1
  have hte2:¬ (vh (Gea d 48)).toList=[]:=by rw[Ah];exact h1
  generalize vh (Gea d 48)=tr at *;obtain rfl:=HDD.out;subst h2;have h5:¬ (4294967296:Int)<x:=by omega
  clear h1 h4 HC;go_wp2_with (go_at_call 141;refine(HTR.out _).mono ?_;rintro e w2 ⟨rfl,hb2⟩;obtain⟨hz,hc0,hc1,hc2,hc3,hf0,hf1,hf2,hf3⟩:=Cl (HBB.out.trans (hb2.mono HBB.out.size));have HB2:=kaa (HBB.out.trans (hb2.mono HBB.out.size));clear hb2);exact bodyPost_ret (v:=.tuple #[lm ⟨2,d,x,0⟩,.int .i64 0]) qg rfl (km (HR.out.trans H4.out) rfl (qo HB2.out _ _ _ _))
 ·exact ua
 ·exact ua
theorem rA(s:ByteArray)(hs:s.size≤1000000)(J:0<s.size)(Z:si (s[0]'J)=false)(H:Ph (s[0]'J)=true)(w:World)(hE:Xj w):Calls maa 80 #[.string s] w (Cm s w):=by
 have Q:=Uz s J;have Y:=SC (r:=s.data.toList.drop 1) Z H 0;have M:∃ k,(s.data.toList.takeWhile Ph).length=k+1:=by rw[Q];exact⟨_,by rw[Zr H];rfl⟩
 rw[← Q]at Y;have G:(s.data.toList.takeWhile Ph).all Ph=true:=by have:=Fm (p:=Ph) (s.data.toList.takeWhile Ph);rw[wL]at this;rw[← this];simp
 have ad:(s.data.toList.takeWhile Ph).length≤s.size:=by have:=Hk Ph s.data.toList;simpa using this
 generalize hd:s.data.toList.takeWhile Ph=d at *;obtain⟨k,A⟩:=M;have I:d≠[]:=by intro e;rw[e]at A;cases A
 refine ZF s hs J Z H w hE d k (Nr (Tj d)).1 (Nr (Tj d)).2 ⟨hd,A,by omega,rfl⟩ _ rfl ?_;rw[Y,A];by_cases L:mr d≤4294967296
 ·rw[if_pos L];have ht:=GL I G L;unfold UC at ht;by_cases E:Gea d 48=[];·rw[if_pos E]at ht;injection ht with ht _;exact .inl ⟨E,by rw[← ht]⟩
  ·rw[if_neg E]at ht;rw[ht];exact .inr (.inl ⟨E,rfl,by show((mr d:Nat):Int)≤_;omega,rfl⟩)
 ·rw[if_neg L];have ht:=CI I G L;unfold UC at ht;by_cases E:Gea d 48=[]
  ·rw[if_pos E]at ht;rcases ht with ht|⟨n,O,_,ht⟩;·injection ht with _ ht;cases ht
   ·injection ht with ht _;omega
  ·rw[if_neg E]at ht;rcases ht with ht|⟨n,O,_,ht⟩;·rw[ht];exact .inr (.inr (.inl ⟨E,rfl,rfl⟩))
   ·rw[ht];exact .inr (.inr (.inr ⟨E,rfl,O,rfl⟩))
theorem DL(s:ByteArray)(H:s.size≤1000000)(A:0<s.size)(w:World)(I:Xj w):Calls maa 80 #[.string s] w (Cm s w):=by
 cases G:si (s[0]'A)with
 |true=>exact lz s H A G w
 |false =>
  cases E:Ph (s[0]'A)with
  |true=>exact rA s H A G E w I
  |false=>exact RC s H A G E w I
end Go.Proofs.YtjcihcncljihoaaGreatDoor

/- Chapter 05 (programs), joined: ShwA, StrN, StrG, StrJ, StrK, StrO, StrH. -/
import Derived.Test.YtjcihcncljihoaaGreatDoorPb17
import Derived.Deep.Cut
set_option maxRecDepth 100000
set_option maxHeartbeats 8000000
namespace Go.Proofs.YtjcihcncljihoaaGreatDoor
open Go Go.RowKit
set_option linter.unusedVariables false
open And renaming intro→Rba
open Ex renaming flat→Naa
open Go.Act renaming put→Uba
open Go.AllReadyH renaming cons→Wba,nil→Zba
open Go.Instr renaming slice→Xda
open Go.IntKind renaming i64→Xca
open Go.Lib renaming hid→kaa,itoa→Paa
open Go.RowKit.Below renaming refl→Gaa
open Go.Value.slice renaming injEq→bca
open Go.World renaming alloc→Fba,block_lt_of_cell?→Tda,rangeAt_setCells_same→Uda,size_alloc→gba,there_alloc→Wda
open Int renaming eq_ofNat_of_zero_le→Faa,natCast_nonneg→Sba,toNat_natCast→saa
open List renaming flatMap_cons→baa,getElem_cons_succ→Rda,getElem_cons_zero→dca,length_append→xaa,length_cons→jaa,length_nil→Xaa,mem_cons→Aaa,mem_of_mem_drop→wda,mem_of_mem_take→uda,not_mem_nil→sca,setIfInBounds_toArray→Vba,set_cons_succ→Yba,set_cons_zero→Xba,toArray→Vda
open Nat renaming add_zero→Ada,le_refl→aaa,lt_of_lt_of_le→mba,succ_mul→caa,zero_le→laa
open Option renaming isSome_iff_exists→Sda
open Or renaming inl→Tba
open Sv renaming cells→Hca,cells_len→Ica
open Go.Proofs.Tryz renaming prog→maa
theorem ma{P:Prop}(h:P:=by clear hB;have hB:=hBn;clear hBn;refine wpAnyH_ready (rs:=[7]) (by kernel_rfl) (by simp) ?_;refine AllReadyH.cons rfl (fun K hK=>?_) AllReadyH.nil;rw[if_pos (by rfl)];refine wp_store_mid _ _ _ rfl h5 0 (List.toArray [.int .i64 x.op,.int .i64 x.n,.string (vh x.name),.int .i64 x.pos]) rfl rfl T5 (by kernel_rfl) (IJ x) ?_;have hB7:=pj [.int .i64 x.op,.int .i64 x.n,.string (vh x.name),.int .i64 x.pos] _ h5 0 hB hg5;refine hK.out _ _ (HS.out _ hB7) (fun _=>?_);clear hK K;(try simp only[Act.put,List.setIfInBounds_toArray]);refine wpAnyH_ready (rs:=[8]) (by kernel_rfl) (by simp) ?_;refine AllReadyH.cons rfl (fun K hK=>?_) AllReadyH.nil;rw[if_pos (by rfl)];refine wp_store_mid _ _ _ rfl h6 0 (List.toArray pG) rfl rfl (World.there_setCells T6 _ _ _) (by kernel_rfl) GJ ?_;have hB8:=pj pG _ h6 0 hB7 hg6;refine hK.out _ _ (HS.out _ hB8) (fun _=>?_);clear hK K;(try simp only[Act.put]);refine wpAnyH_done (by kernel_rfl) ?_ _;go_wp2_with fail;go_meet;exact⟨h5,h6,rfl,rfl,NB HWD.out hlt hbx hB T5 T6 h56 hg5 hg6⟩):P:=h
theorem na{P:Prop}(h:P:=by have hB:=hBn;clear hBn;refine wpAnyH_ready (rs:=[7]) (by kernel_rfl) (by simp) ?_;refine AllReadyH.cons rfl (fun K hK=>?_) AllReadyH.nil;rw[if_pos (by rfl)];refine wp_store_mid _ _ _ rfl h5 0 (List.toArray [.int .i64 x.op,.int .i64 x.n,.string (vh x.name),.int .i64 x.pos]) rfl rfl T5 (by kernel_rfl) (IJ x) ?_;have hB7:=pj [.int .i64 x.op,.int .i64 x.n,.string (vh x.name),.int .i64 x.pos] _ h5 0 hB hg5;refine hK.out _ _ (HS.out _ hB7) (fun _=>?_);clear hK K;(try simp only[Act.put,List.setIfInBounds_toArray]);refine wpAnyH_ready (rs:=[8]) (by kernel_rfl) (by simp) ?_;refine AllReadyH.cons rfl (fun K hK=>?_) AllReadyH.nil;rw[if_pos (by rfl)];refine wp_store_mid _ _ _ rfl h6 0 (List.toArray pG) rfl rfl (World.there_setCells T6 _ _ _) (by kernel_rfl) GJ ?_;have hB8:=pj pG _ h6 0 hB7 hg6;refine hK.out _ _ (HS.out _ hB8) (fun _=>?_);clear hK K;(try simp only[Act.put]);refine wpAnyH_done (by kernel_rfl) ?_ _;go_wp2_with fail;go_meet;exact⟨h5,h6,rfl,rfl,NB HWD.out hlt hbx hB T5 T6 h56 hg5 hg6⟩):P:=h
theorem Qa{P:Prop}(h:P:=by
 rw[HA.out];go_enter Tryz.func172,Tryz.ntmps172;go_wp2_with (first
  |(go_at_call 160;refine(HM.out _).mono ?_;rintro e w1 ⟨rfl,rfl⟩)
  |(go_at_call 129;refine(IH.out _ (Below.refl _ _)).mono ?_;rintro e w3 ⟨rfl,hb3⟩))
 go_ret;exact⟨rfl,hb3⟩):P:=h
theorem mc{P:Prop}(h:P:=by
 intro j hj;obtain⟨v,hv⟩:=Option.isSome_iff_exists.1 (h j hj);refine⟨?_,?_⟩;·rw[Nat.zero_add,Uh u _ _ j v hv];rfl
 ·simp):P:=h
theorem yd{P:Prop}(h:P:=by unfold Ii;rw[List.getD_eq_getElem?_getD,List.getElem?_eq_none (by show 15≤_;omega)];rfl):P:=h
theorem Pd{P:Prop}(h:P:=by intro w0 hSw;rw[hSS]at hSw;(try dsimp only at hSw);go_simp;(try with_reducible rfl)):P:=h
theorem ie{P:Prop}(h:P:=by simp only[Bool.and_eq_true,beq_iff_eq]at hm;rw[hm.2];exact Nat.zero_le _):P:=h
theorem sf{P:Prop}(h:P:=by go_ret;exact⟨Rl (by rw[HS.out]),bt hb1 hb2⟩):P:=h
theorem Ef{P:Prop}(h:P:=by go_ret;exact⟨Rl (by rw[HS.out];rfl),hb1⟩):P:=h
theorem Lg{P:Prop}(h:P:=by simp[Ex.ks]):P:=h
def Ex.sh(e:Ex)(A:Bool):List UInt8:=if A=true then e.brk e.show else e.show
theorem Ex.sh_leaf(x:Kh)(b:Bool):(Ex.leaf x).sh b=if x.op=1 then Paa x.n else x.name:=by cases b<;>rfl
theorem Ex.sh_one(x:Kh)(a:Ex)(b:Bool):(Ex.one x a).sh b=sg x.op.toNat++a.sh true:=by cases b<;>rfl
theorem Ex.sh_two(x:Kh)(a b:Ex):(Ex.two x a b).sh false=a.sh true++[32]++sg x.op.toNat++[32]++b.sh true:=rfl
theorem Ex.sh_two_in(x:Kh)(a b:Ex):(Ex.two x a b).sh true=[40]++(Ex.two x a b).sh false++[41]:=by simp[Ex.sh,Ex.brk]
theorem Ex.sh_len(e:Ex)(b:Bool)(A:e.ok)(hm:e.may):(e.sh b).length≤20*e.flat.length:=by
 have E:=zo e A hm;have G:=uv e e.show;cases b;·show e.show.length≤_;omega
 ·show(e.brk e.show).length≤_;omega
theorem Ft.may{l:List Kh}{i:Nat}{e:Ex}(h:Ft l i e)(E:∀ x∈l,Ci x=true):e.may:=by obtain⟨H,A,rfl,rfl⟩:=h;exact fun x G=>E x (by simp[G])
theorem jD(b off n c i:Nat)(M:Bool)(x:Kh)(L:Ci x=true)(ho:x.op=1∨x.op=2)(w:World)(hi:i<n)(hc:n≤c)(hb:b<w.heap.size)(ha:Qu w b (off+i*4) x):Calls maa 132 #[.slice (some ⟨b,off,none⟩) n c,.int .i64 i,.bool M] w fun r w'=>r = .returned (.string (vh (if x.op=1 then Paa x.n else x.name)))∧Below w.heap.size w w':=by
 obtain⟨E,G,H,I⟩:=ha;have Z:(i:Int)<(n:Int):=by omega
 rcases ho with A|A;·obtain⟨_,Q,Y⟩:=Al L A;rw[if_pos A];rw[A]at E;have O:Hid (∀ u,Calls maa 130 #[.int .i64 x.n] u fun e w'=>e = .returned (.string (vh (Paa x.n)))∧Below u.heap.size u w'):=fun u=>ZL x.n Q Y u;clear L A Q Y;generalize x.n=xn at G O;generalize x.name=nm at H;generalize x.pos=ps at I;go_enter Tryz.func132,Tryz.ntmps132;go_wp2_with (go_at_call 130;refine(O.out _).mono ?_;rintro e w1 ⟨rfl,J⟩);go_ret;exact⟨rfl,bt (al _ _) J⟩
 ·rw[if_neg Tf];rw[A]at E;clear L A;generalize x.n=xn at G;generalize x.name=nm at H;generalize x.pos=ps at I;go_enter Tryz.func132,Tryz.ntmps132;go_wp2_with fail;go_ret;exact⟨rfl,al _ _⟩
theorem AG(b off n c i:Nat)(af:Bool)(x:Kh)(A:x.op=3∨x.op=4)(w:World)(hn:n≤1000)(hi:i<n)(hc:n≤c)(hb:b<w.heap.size)(ha:Qu w b (off+i*4) x)(J:List UInt8)(I:J.length≤20000)(IH:Hid (∀ u,Below w.heap.size w u→Calls maa 132 #[.slice (some ⟨b,off,none⟩) n c,.int .i64 ((i:Int)+1),.bool true] u fun r w'=>r = .returned (.string (vh J))∧Below u.heap.size u w')):Calls maa 132 #[.slice (some ⟨b,off,none⟩) n c,.int .i64 i,.bool af] w fun r w'=>r = .returned (.string (vh (sg x.op.toNat++J)))∧Below w.heap.size w w':=by
 obtain⟨Q,Y,Z,ad⟩:=ha;have ao:(i:Int)<(n:Int):=by omega
 have G:Lh x.op=1:=by rcases A with h|h<;>rw[h]<;>rfl
 have HK:Hid (∀ u,Calls maa 162 #[.int .i64 x.op] u fun e w'=>e = .returned (.int .i64 1)∧u=w'):=fun u=>by rw[← G];exact Ww _ u
 have H:((x.op.toNat:Nat):Int)=x.op:=by omega
 have L:Hid (∀ u,Calls maa 174 #[.int .i64 x.op] u fun e w'=>e = .returned (.string (vh (sg x.op.toNat)))∧Below u.heap.size u w'):=fun u=>by have:=vz x.op.toNat Tf u;rw[H]at this;exact this
 have o1:(x.op==1)=false:=by rw[beq_eq_false_iff_ne];omega
 have o2:(x.op==2)=false:=by rw[beq_eq_false_iff_ne];omega
 have z1:(vh (sg x.op.toNat)).size≤2:=by rw[Dh];rcases A with h|h<;>rw[h]<;>decide
 have z2:(vh J).size≤20000:=by rw[Dh];exact I
 have HA:=kaa (Sh (sg x.op.toNat) J);clear A G H I;generalize sg x.op.toNat=so at L z1 HA;generalize x.op=op at Q HK L o1 o2;generalize x.n=xn at Y;generalize x.name=nm at Z;generalize x.pos=ps at ad;go_enter Tryz.func132,Tryz.ntmps132;go_wp2_with (first
  |(go_at_call 162;refine(HK.out _).mono ?_;rintro e w1 ⟨rfl,rfl⟩)
  |(go_at_call 174;refine(L.out _).mono ?_;rintro e w2 ⟨rfl,M⟩;have E:=bt (al _ _) M)
  |(go_at_call 132;refine(IH.out _ E).mono ?_;rintro e w3 ⟨rfl,O⟩))
 go_ret;exact⟨Rl HA.out.symm,bt E O⟩
theorem rI(i:Nat)(h:i<4611686018427387904):Xca.wrap ((i:Int)+1)=(i:Int)+1:=by have e:((i:Int)+1) % 2 ^ 64=(i:Int)+1:=Int.emod_eq_of_lt Tf Tf;simp only[IntKind.wrap,IntKind.bits,IntKind.signed,e];rw[if_neg];simp;omega
def vL(A:Bool)(G E sb:List UInt8):ByteArray:=vh (if A=true then [40]++(E++[32]++G++[32]++sb)++[41]else E++[32]++G++[32]++sb)
theorem zG(b off n c i:Nat)(O:Bool)(x:Kh)(M:5≤x.op∧x.op≤15)(w:World)(hn:n≤1000)(hi:i<n)(hc:n≤c)(hb:b<w.heap.size)(ha:Qu w b (off+i*4) x)(A sb:List UInt8)(af:A.length≤20000)(ao:sb.length≤20000)(k:Int)(HE:Hid (∀ u,Below w.heap.size w u→Calls maa 121 #[.slice (some ⟨b,off,none⟩) n c,.int .i64 ((i:Int)+1)] u fun r w'=>r = .returned (.int .i64 k)∧u=w'))(IH:Hid (∀ u,Below w.heap.size w u→Calls maa 132 #[.slice (some ⟨b,off,none⟩) n c,.int .i64 ((i:Int)+1),.bool true] u fun r w'=>r = .returned (.string (vh A))∧Below u.heap.size u w'))(aY:Hid (∀ u,Below w.heap.size w u→Calls maa 132 #[.slice (some ⟨b,off,none⟩) n c,.int .i64 k,.bool true] u fun r w'=>r = .returned (.string (vh sb))∧Below u.heap.size u w')):Calls maa 132 #[.slice (some ⟨b,off,none⟩) n c,.int .i64 i,.bool O] w fun r w'=>r = .returned (.string (vL O (sg x.op.toNat) A sb))∧Below w.heap.size w w':=by
 obtain⟨aT,aU,aV,aW⟩:=ha;have a4:(i:Int)<(n:Int):=by omega
 have Z:Lh x.op=2:=Qo M.1 M.2;have HK:Hid (∀ u,Calls maa 162 #[.int .i64 x.op] u fun e w'=>e = .returned (.int .i64 2)∧u=w'):=fun u=>by rw[← Z];exact Ww _ u
 have ad:((x.op.toNat:Nat):Int)=x.op:=by omega
 have HS:Hid (∀ u,Calls maa 174 #[.int .i64 x.op] u fun e w'=>e = .returned (.string (vh (sg x.op.toNat)))∧Below u.heap.size u w'):=fun u=>by have:=vz x.op.toNat Tf u;rw[ad]at this;exact this
 have o1:(x.op==1)=false:=by rw[beq_eq_false_iff_ne];omega
 have o2:(x.op==2)=false:=by rw[beq_eq_false_iff_ne];omega
 have z1:(vh (sg x.op.toNat)).size≤2:=by rw[Dh];exact(jv [] 0 x.op.toNat Tf Tf).2.2.2
 have z2:(vh A).size≤20000:=by rw[Dh];exact af
 have z3:(vh sb).size≤20000:=by rw[Dh];exact ao
 have HA:Hid (∀ E,vL false E A sb=vh A++⟨#[32]⟩++vh E++⟨#[32]⟩++vh sb):=by show ∀ _,_;intro E;show vh (A++[32]++E++[32]++sb)=_;rw[Sh,Sh,Sh,Sh];rfl
 have aX:Hid (∀ E,vL true E A sb=⟨#[40]⟩++(vh A++⟨#[32]⟩++vh E++⟨#[32]⟩++vh sb)++⟨#[41]⟩):=by show ∀ _,_;intro E;have:=HA.out E;show vh ([40]++(A++[32]++E++[32]++sb)++[41])=_;rw[Sh,Sh,← this];rfl
 clear M Z ad af ao;generalize sg x.op.toNat=E at HS z1;generalize x.op=op at aT HK HS o1 o2;generalize x.n=xn at aU;generalize x.name=nm at aV;generalize x.pos=ps at aW;go_enter Tryz.func132,Tryz.ntmps132;go_upto_region 8 with(go_at_call 162;refine(HK.out _).mono ?_;rintro e w1 ⟨rfl,rfl⟩);generalize hW:Fba w _=wd;have av:Below w.heap.size w wd:=by subst hW;exact al _ _
 have G:w.heap.size<wd.heap.size:=by subst hW;rw[gba];omega
 have a3:wd.cell? ⟨w.heap.size,0,none⟩=some (.int .i64 op):=by subst hW;exact Uh _ _ _ _ _ rfl
 have H:=kaa a3;have I:=kaa av;clear hW aT aU aV aW o1 o2 av;have bf:Xca.wrap ((i:Int)+1)=(i:Int)+1:=rI i Tf;have f1:¬ (9223372036854775807<(vh A).size+1):=by omega
 have a5:¬ (9223372036854775806<(vh A).size):=by omega
 have f2:¬ (9223372036854775807<(vh A).size+1+(vh E).size):=by omega
 have f3:¬ (9223372036854775807<(vh A).size+1+(vh E).size+1):=by omega
 have a6:¬ (9223372036854775806<(vh A).size+1+(vh E).size):=by omega
 have f4:¬ (9223372036854775807<(vh A).size+1+(vh E).size+1+(vh sb).size):=by omega
 go_cut [8] (fun s wx=>s = .string (vh A++⟨#[32]⟩++vh E++⟨#[32]⟩++vh sb)∧Below w.heap.size w wx);case first =>
  go_region_held3 (fun w'=>w'.cell? ⟨w.heap.size,0,none⟩=some (.int .i64 op)) (first|assumption|go_keep)
   (first
   |(go_at_call_of 132 (Value.int .i64 k);refine(aY.out _ ?_).mono ?_;(repeat (first|exact Y|refine dk ?_ _|refine mo ?_));rintro e w6 ⟨rfl,a2⟩;have Q:Below wd.heap.size wd w6:=bt (by repeat (first|exact L|refine dk ?_ _|refine mo ?_)) a2;have a9:=(Q.cell (p:=⟨w.heap.size,0,none⟩) G).trans H.out;have aZ:=bt I.out Q)
   |(go_at_call 132;refine(IH.out _ ?_).mono ?_;(repeat (first|exact I.out|refine dk ?_ _|refine mo ?_));rintro e w3 ⟨rfl,a0⟩;have J:Below wd.heap.size wd w3:=bt (by repeat (first|exact Gaa _ _|refine dk ?_ _|refine mo ?_)) a0;have a7:=(J.cell (p:=⟨w.heap.size,0,none⟩) G).trans H.out;have bb:=mba G J.size)
   |(go_at_call 174;refine(HS.out _).mono ?_;rintro e w4 ⟨rfl,a1⟩;have L:Below wd.heap.size wd w4:=bt (by repeat (first|exact J|refine dk ?_ _|refine mo ?_)) a1;have a8:=(L.cell (p:=⟨w.heap.size,0,none⟩) G).trans H.out;have Y:=bt I.out L)
   |(go_at_call 121;refine(HE.out _ ?_).mono ?_;(repeat (first|exact Y|refine dk ?_ _|refine mo ?_));rintro e w5 ⟨rfl,rfl⟩))
  all_goals go_wp2_with fail;go_meet;exact⟨rfl,(by repeat (first|exact aZ|refine dk ?_ _|refine mo ?_))⟩
 case rest =>
  obtain⟨rfl,hq⟩:=hcut;cases O;·go_wp2_with fail;go_ret;exact⟨Rl (HA.out _).symm,hq⟩
  ·have z4:(vh A++⟨#[32]⟩++vh E++⟨#[32]⟩++vh sb).size≤50000:=by simp only[ByteArray.size_append];show _+1+_+1+_≤_;omega
   go_wp2_with fail;go_ret;exact⟨Rl (aX.out _).symm,hq⟩
theorem uL(G E sb:List UInt8)(A:Bool)(x:Kh)(a b:Ex)(H:G=sg x.op.toNat)(I:E=a.sh true)(J:sb=b.sh true):vL A G E sb=vh ((Ex.two x a b).sh A):=by
 subst H I J;cases A;·rfl
 ·rw[Ex.sh_two_in,Ex.sh_two];rfl
theorem Yu(l:List Kh)(v:Value)(hl:l.length≤1000)(hm:∀ x∈l,Ci x=true):∀ (N:Nat) (e:Ex) (i:Nat) (E:Bool) (w:World),Wh w v l→e.flat.length≤N→e.ok→Ft l i e →
  Calls maa 132 #[v,.int .i64 i,.bool E] w fun r w'=>r = .returned (.string (vh (e.sh E)))∧Below w.heap.size w w'
 |0,e,i,E,w,h,Y,H,ha=>by have:=e.flat_pos;omega
 |N+1,e,i,E,w,h,Y,H,ha=>by
  have M:=ha.lt
  have O:=ha.le
  have G:=ha.may hm
  obtain⟨b,off,c,rfl,ad,Z,ao⟩:=h.at_ Tf
  have Q:=ao i M
  rw[ha.top]at Q
  have e1:((i+1:Nat):Int)=(i:Int)+1:=by omega
  match e,Y,H,ha,G,Q,O with
  | .leaf x,Y,H,ha,G,Q,O =>rw[Ex.sh_leaf];exact jD b off l.length c i E x (G x Fg) (Nj.1 H) w M ad Z Q
  | .one x a,Y,H,ha,G,Q,O =>
   have A:=ha.kid 0 Lg;rw[qm]at A;have L:a.flat.length≤N:=by simp only[Naa,jaa]at Y;omega
   have aX:=a.sh_len true H.2 (Ex.may_one G).2;have I:=A.le;simp only[Ex.ks,dca]at A I;rw[Ex.sh_one];refine AG b off l.length c i E x (Nj.2.1 H.1) w hl M ad Z Q (a.sh true) Tf (kaa fun u hu=>?_);have:=Yu l _ hl hm N a (i+1) true u (h.below hu) L H.2 A;rw[e1]at this;exact this
  | .two x ea eb,Y,H,ha,G,Q,O =>
   have A:=ha.kid 0 Lg;have J:=ha.kid 1 Lg;rw[Jq i _ 0 Lg]at J;rw[qm]at A J;have L:ea.flat.length≤N∧eb.flat.length≤N:=by simp only[Naa,jaa,xaa]at Y;omega
   obtain⟨aU,av,aT⟩:=Ex.may_two G;have aV:=ea.sh_len true H.2.1 av;have aW:=eb.sh_len true H.2.2 aT;have I:=A.le;have af:=J.le;simp only[Ex.ks,dca,Rda]at A J I af;have al:=A.fin H.2.1;refine(zG b off l.length c i E x (Nj.2.2 H.1) w hl M ad Z Q (ea.sh true) (eb.sh true) Tf Tf ((i+1+ea.flat.length:Nat):Int) (kaa fun u hu=>?_) (kaa fun u hu=>?_) (kaa fun u hu=>?_)).mono ?_;·have:=pD l _ u (h.below hu) Tf ((i+1:Nat):Int);rw[al,e1]at this;exact this
   ·have:=Yu l _ hl hm N ea (i+1) true u (h.below hu) L.1 H.2.1 A;rw[e1]at this;exact this
   ·exact Yu l _ hl hm N eb _ true u (h.below hu) L.2 H.2.2 J
   ·rintro r w' ⟨rfl,hb⟩;exact⟨Rl (uL _ _ _ E x ea eb rfl rfl rfl),hb⟩
theorem Er{l:List Kh}(h:Fh l=true):∃ e:Ex,e.ok∧e.may∧l=e.flat∧l.length≤40∧e.deep≤12∧Ej l=e.show∧ou l=e.deep:=by obtain⟨e,E,G,A,H,h5,h6⟩:=Dk h;subst G;exact⟨e,E,h5,rfl,H,h6,by unfold Ej;rw[if_pos h,A],by unfold ou;rw[if_pos h,A]⟩
theorem Zx{l:List Kh}(h:Fh l=false):Ej l=[]∧ou l=0∧TJ l=[]:=by
 refine⟨?_,?_,?_⟩;·unfold Ej;rw[h];rfl
 ·unfold ou;rw[h];rfl
 ·unfold TJ;rw[h];rfl
theorem lQ(l:List Kh)(Y:l.length≤100000)(G:∀ x∈l,x.name.length≤1000000)(v:Value)(w:World)(A:Wh w v l):Calls maa 64 #[v] w fun e w'=>e = .returned (.string (vh (Ej l)))∧Below w.heap.size w w':=by
 obtain⟨M,c0,rfl,Q⟩:=A.shape;have E:=kaa (jJ l Y G _ w A);cases hr:Fh l;·have HS:=kaa (Zx hr).1;rw[hr]at E;clear A G hr;go_enter Tryz.func64,Tryz.ntmps64;go_wp2_with (go_at_call 55;refine(E.out).mono ?_;rintro e w1 ⟨rfl,hb1⟩);exact Ef
 ·obtain⟨e,I,J,L,h4,h5,h6,O⟩:=Er hr;have HS:=kaa h6;have H:Hid (∀ u,Below w.heap.size w u→Calls maa 132 #[.slice M l.length c0,.int .i64 0,.bool false] u fun r w'=>r = .returned (.string (vh e.show))∧Below u.heap.size u w'):=fun u Z=>by subst L;exact Yu e.flat _ Tf (fun x hx=>J x hx) _ e 0 false u (A.below Z) (aaa _) I (Ft.whole e)
  rw[hr]at E;clear A G hr I J L h5 h6 O;generalize e.show=s at H HS;go_enter Tryz.func64,Tryz.ntmps64;go_wp2_with (first
   |(go_at_call 55;refine(E.out).mono ?_;rintro e w1 ⟨rfl,hb1⟩)
   |(go_at_call 132;refine(H.out _ hb1).mono ?_;rintro e w2 ⟨rfl,hb2⟩))
  exact sf
def qO(op:Int)(s:List UInt8):List UInt8:=if Lh op=2 then [40]++s++[41]else s
theorem pO(e:Ex)(A:e.ok):qO e.top.op e.show=e.sh true:=by
 unfold qO
 cases e with
 |leaf x=>have h:Lh x.op=0:=A;rw[if_neg (by show ¬ Lh x.op=2;omega)];rfl
 |one x a=>have h:=A.1;rw[if_neg (by show ¬ Lh x.op=2;omega)];rfl
 |two x a b=>have h:=A.1;rw[if_pos (show Lh (Ex.two x a b).top.op=2 from h)];simp[Ex.sh,Ex.brk]
theorem nM(b off n c k G:Nat)(x:Kh)(w:World)(hk:k<n)(hc:n≤c)(hb:b<w.heap.size)(J:G<w.heap.size)(ha:Qu w b (off+k*4) x)(L:w.cell? ⟨G,0,none⟩=some (.slice (some ⟨b,off,none⟩) n c))(s:List UInt8)(H:s.length≤20000)(IH:Hid (∀ u,Below w.heap.size w u→Calls maa 129 #[.slice (some ⟨b,off,none⟩) n c,.int .i64 k] u fun r w'=>r = .returned (.string (vh s))∧Below u.heap.size u w')):Calls maa 172 #[.int .i64 k,.pointer (some ⟨G,0,none⟩)] w fun r w'=>r = .returned (.string (vh (qO x.op s)))∧Below w.heap.size w w':=by
 obtain⟨O,Q,Y,Z⟩:=ha;have I:(k:Int)<(n:Int):=by omega
 have z2:(vh s).size≤20000:=by rw[Dh];exact H
 have HM:Hid (∀ u,Calls maa 160 #[.int .i64 x.op] u fun r w'=>r = .returned (.int .i64 (Lh x.op))∧u=w'):=fun u=>Rw _ u;by_cases A:Lh x.op=2
 ·have HA:Hid (vh (qO x.op s)=⟨#[40]⟩++vh s++⟨#[41]⟩):=by show _=_;unfold qO;rw[if_pos A,Sh,Sh];rfl
  rw[A]at HM;clear A H;exact Qa
 ·have HA:Hid (vh (qO x.op s)=vh s):=by show _=_;unfold qO;rw[if_neg A]
  have E:=Ro x.op;generalize Lh x.op=kk at HM A E;have M:decide (1<kk)=false:=by simp;omega
  clear A H E;exact Qa
structure TO (w wx:World) (h5 h6:Nat) (V:Value) (x:Kh):Prop where
 below:Below w.heap.size w wx
 box:wx.cell? ⟨w.heap.size,0,none⟩=some V
 lt0:w.heap.size < wx.heap.size
 lt5:h5 < wx.heap.size
 lt6:h6 < wx.heap.size
 node:Qu wx h5 0 x
 sgn:∀ j,j < 16→wx.cell? ⟨h6,j,none⟩=some (.string (vh (sg j)))
theorem Dl{U w':World}{b o n:Nat}(G:Below U.heap.size U w')(h:U.there b o n):w'.there b o n:=fun j I=>by
 obtain⟨E,H⟩:=h j I;obtain⟨u,J⟩:=Sda.1 E;have A:=Tda U _ J;refine⟨?_,?_⟩;·rw[G.cell (p:=⟨b,o+j,none⟩) A];exact E
 ·rw[← H];exact G.frozen (p:=⟨b,o+j,none⟩) A
theorem uo(u:World):(u.alloc (.cells #[.string ⟨#[]⟩,.string ⟨#[]⟩,.string ⟨#[]⟩,.string ⟨#[]⟩,.string ⟨#[]⟩,.string ⟨#[]⟩,.string ⟨#[]⟩,.string ⟨#[]⟩,.string ⟨#[]⟩,.string ⟨#[]⟩,.string ⟨#[]⟩,.string ⟨#[]⟩,.string ⟨#[]⟩,.string ⟨#[]⟩,.string ⟨#[]⟩,.string ⟨#[]⟩] 181)).there u.heap.size 0 16:=by
 have h:∀ j,j<16→((#[.string ⟨#[]⟩,.string ⟨#[]⟩,.string ⟨#[]⟩,.string ⟨#[]⟩,.string ⟨#[]⟩,.string ⟨#[]⟩,.string ⟨#[]⟩,.string ⟨#[]⟩,.string ⟨#[]⟩,.string ⟨#[]⟩,.string ⟨#[]⟩,.string ⟨#[]⟩,.string ⟨#[]⟩,.string ⟨#[]⟩,.string ⟨#[]⟩,.string ⟨#[]⟩]:Array Value)[j]?).isSome=true:=by decide
 exact mc
theorem En(u:World):(u.alloc (.cells #[.int .i64 0,.int .i64 0,.string ⟨#[]⟩,.int .i64 0] 46)).there u.heap.size 0 4:=by
 have h:∀ j,j<4→((#[.int .i64 0,.int .i64 0,.string ⟨#[]⟩,.int .i64 0]:Array Value)[j]?).isSome=true:=by decide
 exact mc
theorem pj{B:Nat}{a:World}:∀ (E:List Value) (w:World) (b o:Nat),Below B a w→B≤b→Below B a (w.setCells b o E)
 | [],w,b,o,h,A=>h
 |v::E,w,b,o,h,A=>pj E _ b (o+1) (Ui h A v) A
theorem Zk:∀ (A:List Value) (w:World) (b o:Nat),(w.setCells b o A).heap.size=w.heap.size
 | [],w,b,o=>rfl
 |v::A,w,b,o=>by rw[World.setCells,Zk A];simp
def pG:List Value:=[.string ⟨#[]⟩,.string ⟨#[]⟩,.string ⟨#[]⟩,.string ⟨#[45]⟩,.string ⟨#[33]⟩,.string ⟨#[43]⟩,.string ⟨#[45]⟩,.string ⟨#[42]⟩,.string ⟨#[47]⟩,.string ⟨#[37]⟩,.string ⟨#[61,61]⟩,.string ⟨#[33,61]⟩,.string ⟨#[60]⟩,.string ⟨#[60,61]⟩,.string ⟨#[38,38]⟩,.string ⟨#[124,124]⟩]
theorem eO:∀ j,j<16→pG[j]? = some (.string (vh (sg j)))
 |0,_=>by kernel_rfl
 |1,_=>by kernel_rfl
 |2,_=>by kernel_rfl
 |3,_=>by kernel_rfl
 |4,_=>by kernel_rfl
 |5,_=>by kernel_rfl
 |6,_=>by kernel_rfl
 |7,_=>by kernel_rfl
 |8,_=>by kernel_rfl
 |9,_=>by kernel_rfl
 |10,_=>by kernel_rfl
 |11,_=>by kernel_rfl
 |12,_=>by kernel_rfl
 |13,_=>by kernel_rfl
 |14,_=>by kernel_rfl
 |15,_=>by kernel_rfl
 |n+16,h=>by omega
theorem GM{w W:World}{h5 h6:Nat}{V:Value}{x:Kh}(hB:Below w.heap.size w W)(G:W.cell? ⟨w.heap.size,0,none⟩=some V)(h0:w.heap.size<h6)(E:h5≠h6)(I:h5<W.heap.size)(H:W.there h6 0 16)(L:W.cell? ⟨h5,0,none⟩=some (.int .i64 x.op))(M:W.cell? ⟨h5,1,none⟩=some (.int .i64 x.n))(O:W.cell? ⟨h5,2,none⟩=some (.string (vh x.name)))(Q:W.cell? ⟨h5,3,none⟩=some (.int .i64 x.pos)):TO w (W.setCells h6 0 pG) h5 h6 V x:=by
 have J:h6<W.heap.size:=by obtain⟨Z,h2⟩:=H 0 Tf;obtain⟨u,hu⟩:=Sda.1 Z;exact Tda W _ hu
 have A:∀ (b o:Nat),b≠h6→(W.setCells h6 0 pG).cell? ⟨b,o,none⟩=W.cell? ⟨b,o,none⟩:=fun b o Y=>World.cell?_setCells_out h6 pG 0 W ⟨b,o,none⟩ (fun hb _=>absurd hb Y);refine⟨pj _ _ _ _ hB Tf,(A _ _ Tf).trans G,?_,?_,?_,⟨(A _ _ E).trans L,(A _ _ E).trans M,(A _ _ E).trans O,(A _ _ E).trans Q⟩,fun j hj=>?_⟩;·rw[Zk];omega
 ·rw[Zk];exact I
 ·rw[Zk];exact J
 ·have:=Uda W h6 0 pG H j _ (eO j hj);rw[Nat.zero_add]at this;exact this
theorem NB{w wd X:World}{h5 h6:Nat}{V:Value}{x:Kh}(A:Below w.heap.size w wd)(M:w.heap.size<wd.heap.size)(I:wd.cell? ⟨w.heap.size,0,none⟩=some V)(hB:Below wd.heap.size wd X)(O:X.there h5 0 4)(Q:X.there h6 0 16)(E:h5≠h6)(J:wd.heap.size≤h5)(Z:wd.heap.size≤h6):TO w ((X.setCells h5 0 [.int .i64 x.op,.int .i64 x.n,.string (vh x.name),.int .i64 x.pos]).setCells h6 0 pG) h5 h6 V x:=by
 have G:=pj [.int .i64 x.op,.int .i64 x.n,.string (vh x.name),.int .i64 x.pos] _ h5 0 (A.trans (hB.mono A.size)) Tf;have H:=pj [.int .i64 x.op,.int .i64 x.n,.string (vh x.name),.int .i64 x.pos] _ h5 0 hB J;have hr:=Uda X h5 0 [.int .i64 x.op,.int .i64 x.n,.string (vh x.name),.int .i64 x.pos] O;have L:h5<X.heap.size:=by obtain⟨Y,h2⟩:=O 0 Tf;obtain⟨u,hu⟩:=Sda.1 Y;exact Tda X _ hu
 refine GM G ((H.cell (p:=⟨w.heap.size,0,none⟩) M).trans I) Tf E (by rw[Zk];exact L) (World.there_setCells Q _ _ _) ?_ ?_ ?_ ?_;·have:=hr 0 _ rfl;exact this
 ·have:=hr 1 _ rfl;exact this
 ·have:=hr 2 _ rfl;exact this
 ·have:=hr 3 _ rfl;exact this
theorem IJ(x:Kh):((Vda [.int .i64 x.op,.int .i64 x.n,.string (vh x.name),.int .i64 x.pos]:Array Value).all fun v=>v.oneCell')=true:=all_oneCell_toArray (by intro v A;simp only[Aaa,sca,or_false]at A;rcases A with rfl|rfl|rfl|rfl<;>rfl)
theorem GJ:((Vda pG).all fun v=>v.oneCell')=true:=all_oneCell_toArray (by intro v A;simp only[pG,Aaa,sca,or_false]at A;rcases A with rfl|rfl|rfl|rfl|rfl|rfl|rfl|rfl|rfl|rfl|rfl|rfl|rfl|rfl|rfl|rfl<;>rfl)
def Made(b off n c i:Nat)(x:Kh)(w:World)(R:List UInt8):Prop :=
 (x.op=1∧Ci x=true∧Xj w∧R=Paa x.n)∨(x.op=2∧R=x.name) ∨
 ((x.op=3∨x.op=4)∧∃ (k:Nat) (s:List UInt8),s.length≤20000∧R=sg x.op.toNat++s ∧
  (∀ u,Below w.heap.size w u→Calls maa 161 #[.slice (some ⟨b,off,none⟩) n c,.int .i64 i] u fun r w'=>∃ A c1,r = .returned (.slice A 1 c1)∧yE w' (.slice A 1 c1) [k]∧Below u.heap.size u w') ∧
  (∀ u,Below w.heap.size w u→u.cell? ⟨w.heap.size,0,none⟩=some (.slice (some ⟨b,off,none⟩) n c)→w.heap.size<u.heap.size→Calls maa 172 #[.int .i64 k,.pointer (some ⟨w.heap.size,0,none⟩)] u fun r w'=>r = .returned (.string (vh s))∧Below u.heap.size u w')) ∨
 ((5≤x.op∧x.op≤15)∧∃ (k E:Nat) (s G:List UInt8),s.length≤20000∧G.length≤20000∧k≠E∧R=s++[32]++sg x.op.toNat++[32]++G ∧
  (∀ u,Below w.heap.size w u→Calls maa 161 #[.slice (some ⟨b,off,none⟩) n c,.int .i64 i] u fun r w'=>∃ A c1,r = .returned (.slice A 2 c1)∧yE w' (.slice A 2 c1) [k,E]∧Below u.heap.size u w') ∧
  (∀ u,Below w.heap.size w u→u.cell? ⟨w.heap.size,0,none⟩=some (.slice (some ⟨b,off,none⟩) n c)→w.heap.size<u.heap.size→Calls maa 172 #[.int .i64 k,.pointer (some ⟨w.heap.size,0,none⟩)] u fun r w'=>r = .returned (.string (vh s))∧Below u.heap.size u w') ∧
  (∀ u,Below w.heap.size w u→u.cell? ⟨w.heap.size,0,none⟩=some (.slice (some ⟨b,off,none⟩) n c)→w.heap.size<u.heap.size→Calls maa 172 #[.int .i64 E,.pointer (some ⟨w.heap.size,0,none⟩)] u fun r w'=>r = .returned (.string (vh G))∧Below u.heap.size u w'))
theorem mG(b off n c i:Nat)(x:Kh)(w:World)(hi:i<n)(hc:n≤c)(hb:b<w.heap.size)(ha:Qu w b (off+i*4) x)(R:List UInt8)(av:Made b off n c i x w R):Calls maa 129 #[.slice (some ⟨b,off,none⟩) n c,.int .i64 i] w fun r w'=>r = .returned (.string (vh R))∧Below w.heap.size w w':=by
 have a3:=kaa av;clear av;obtain⟨bN,bR,bS,bT⟩:=ha;have bZ:(i:Int)<(n:Int):=by omega
 have b5:(0:Int)≤(i:Int):=Sba _;have a0:Hid (∀ u:World,Calls maa 171 #[] u fun e w'=>e = .returned (.agg pG.toArray)∧Below u.heap.size u w'):=fun u=>KE u;go_enter Tryz.func129,Tryz.ntmps129;go_upto_region 1 with fail;generalize hW:Fba w _=wd;have a1:Below w.heap.size w wd:=by subst hW;exact al _ _
 have hlt:w.heap.size<wd.heap.size:=by subst hW;rw[gba];omega
 have hbx:wd.cell? ⟨w.heap.size,0,none⟩=some (.slice (some ⟨b,off,none⟩) n c):=by subst hW;exact Uh _ _ _ _ _ rfl
 have a5:b<wd.heap.size:=by omega
 have HWD:=kaa a1;obtain⟨SS,hSS⟩:∃ SS:World→Prop,SS=fun w'=>w'.cell? ⟨w.heap.size,0,none⟩=some (.slice (some ⟨b,off,none⟩) n c)∧w'.cell? ⟨b,off+i*4,none⟩=some (.int .i64 x.op)∧w'.cell? ⟨b,off+i*4+1,none⟩=some (.int .i64 x.n)∧w'.cell? ⟨b,off+i*4+2,none⟩=some (.string (vh x.name))∧w'.cell? ⟨b,off+i*4+3,none⟩=some (.int .i64 x.pos):=⟨_,rfl⟩;have HS:Hid (∀ w',Below wd.heap.size wd w'→SS w'):=fun w' hB=>by rw[hSS];exact⟨(hB.cell (p:=⟨w.heap.size,0,none⟩) hlt).trans hbx,(hB.cell (p:=⟨b,off+i*4,none⟩) a5).trans ((a1.cell (p:=⟨b,off+i*4,none⟩) hb).trans bN),(hB.cell (p:=⟨b,off+i*4+1,none⟩) a5).trans ((a1.cell (p:=⟨b,off+i*4+1,none⟩) hb).trans bR),(hB.cell (p:=⟨b,off+i*4+2,none⟩) a5).trans ((a1.cell (p:=⟨b,off+i*4+2,none⟩) hb).trans bS),(hB.cell (p:=⟨b,off+i*4+3,none⟩) a5).trans ((a1.cell (p:=⟨b,off+i*4+3,none⟩) hb).trans bT)⟩
 clear hW bN bR bS bT a1;go_cut [5,6] (fun s t wx=>∃ h5 h6:Nat,s = .pointer (some ⟨h5,0,none⟩)∧t = .pointer (some ⟨h6,0,none⟩)∧TO w wx h5 h6 (.slice (some ⟨b,off,none⟩) n c) x);case first =>
  refine wp_region_held_drew (S:=SS) Vf (HS.out _ (mo (Gaa _ _))) (fun bh=>?_);refine wpAnyH_take (i:=0) (v:=?_) rfl Vf Vf Vf (fun _ _ _ h=>h) (Tba ⟨by rfl,?_⟩) Xf ?_;rotate_left;·exact Pd
  (try simp only[Uba,Vba]);refine wpAnyH_take (i:=1) (v:=?_) rfl Vf Vf Vf (fun _ _ _ h=>h) (Tba ⟨by rfl,?_⟩) Xf ?_;rotate_left;·exact Pd
  (try simp only[Uba]);refine wpAnyH_take (i:=2) (v:=?_) rfl Vf Vf Vf (fun _ _ _ h=>h) (Tba ⟨by rfl,?_⟩) Xf ?_;rotate_left;·exact Pd
  (try simp only[Uba]);refine wpAnyH_take (i:=3) (v:=?_) rfl Vf Vf Vf (fun _ _ _ h=>h) (Tba ⟨by rfl,?_⟩) Xf ?_;rotate_left;·exact Pd
  (try simp only[Uba]);clear bh;have hB:Below wd.heap.size wd wd.drew:=mo (Gaa _ _);generalize wd.drew=X0 at hB ⊢;refine wpAnyH_ready (rs:=[4,5,6]) Vf Yf ?_;refine Wba rfl (fun K hK=>?_) ?_
  ·skip;go_simp;refine(a0.out _).mono ?_;rintro e X1 ⟨rfl,L⟩;dsimp only;have hBn:=hB.trans (L.mono hB.size);have M:=L.size;refine hK.out _ _ (HS.out _ hBn) (fun _=>?_);clear hK K;(try simp only[Uba,Vba,Xba,Yba]);clear M L hB;have hB:=hBn;clear hBn;refine wpAnyH_ready (rs:=[5,6]) Vf Yf ?_;refine Wba rfl (fun K hK=>?_) ?_
   ·skip;go_simp;have hBn:=hB.alloc hB.size (.cells #[.int .i64 0,.int .i64 0,.string ⟨#[]⟩,.int .i64 0] 46);have E:X1.heap.size<(Fba X1 (.cells #[.int .i64 0,.int .i64 0,.string ⟨#[]⟩,.int .i64 0] 46)).heap.size:=by rw[gba];omega
    have Y:=En X1;refine hK.out _ _ (HS.out _ hBn) (fun _=>?_);clear hK K;(try simp only[Uba,Vba,Xba,Yba]);generalize Fba X1 (.cells #[.int .i64 0,.int .i64 0,.string ⟨#[]⟩,.int .i64 0] 46)=X2 at hBn E Y ⊢;have hg5:=hB.size;have T5:=Y;have I:=E;clear Y E;generalize X1.heap.size=h5 at hg5 T5 I ⊢;clear hB;have hB:=hBn;clear hBn;refine wpAnyH_ready (rs:=[6]) Vf Yf ?_;refine Wba rfl (fun K hK=>?_) Zba;go_simp;have hBn:=hB.alloc hB.size (.cells #[.string ⟨#[]⟩,.string ⟨#[]⟩,.string ⟨#[]⟩,.string ⟨#[]⟩,.string ⟨#[]⟩,.string ⟨#[]⟩,.string ⟨#[]⟩,.string ⟨#[]⟩,.string ⟨#[]⟩,.string ⟨#[]⟩,.string ⟨#[]⟩,.string ⟨#[]⟩,.string ⟨#[]⟩,.string ⟨#[]⟩,.string ⟨#[]⟩,.string ⟨#[]⟩] 181);have E:X2.heap.size<(Fba X2 (.cells #[.string ⟨#[]⟩,.string ⟨#[]⟩,.string ⟨#[]⟩,.string ⟨#[]⟩,.string ⟨#[]⟩,.string ⟨#[]⟩,.string ⟨#[]⟩,.string ⟨#[]⟩,.string ⟨#[]⟩,.string ⟨#[]⟩,.string ⟨#[]⟩,.string ⟨#[]⟩,.string ⟨#[]⟩,.string ⟨#[]⟩,.string ⟨#[]⟩,.string ⟨#[]⟩] 181)).heap.size:=by rw[gba];omega
    have Y:=uo X2;have O:=Wda T5 (.cells #[.string ⟨#[]⟩,.string ⟨#[]⟩,.string ⟨#[]⟩,.string ⟨#[]⟩,.string ⟨#[]⟩,.string ⟨#[]⟩,.string ⟨#[]⟩,.string ⟨#[]⟩,.string ⟨#[]⟩,.string ⟨#[]⟩,.string ⟨#[]⟩,.string ⟨#[]⟩,.string ⟨#[]⟩,.string ⟨#[]⟩,.string ⟨#[]⟩,.string ⟨#[]⟩] 181);refine hK.out _ _ (HS.out _ hBn) (fun _=>?_);clear hK K;(try simp only[Uba,Vba,Xba,Yba]);generalize Fba X2 (.cells #[.string ⟨#[]⟩,.string ⟨#[]⟩,.string ⟨#[]⟩,.string ⟨#[]⟩,.string ⟨#[]⟩,.string ⟨#[]⟩,.string ⟨#[]⟩,.string ⟨#[]⟩,.string ⟨#[]⟩,.string ⟨#[]⟩,.string ⟨#[]⟩,.string ⟨#[]⟩,.string ⟨#[]⟩,.string ⟨#[]⟩,.string ⟨#[]⟩,.string ⟨#[]⟩] 181)=X3 at hBn E Y O ⊢;have h56:h5≠X2.heap.size:=by omega
    have G:h5<X3.heap.size:=by omega
    clear T5 I;have T5:=O;have I:=G;clear O G;have hg6:=hB.size;have T6:=Y;have J:=E;clear Y E;generalize X2.heap.size=h6 at hg6 T6 J h56 ⊢;exact ma
   ·skip;refine Wba rfl (fun K hK=>?_) Zba;go_simp;have hBn:=hB.alloc hB.size (.cells #[.string ⟨#[]⟩,.string ⟨#[]⟩,.string ⟨#[]⟩,.string ⟨#[]⟩,.string ⟨#[]⟩,.string ⟨#[]⟩,.string ⟨#[]⟩,.string ⟨#[]⟩,.string ⟨#[]⟩,.string ⟨#[]⟩,.string ⟨#[]⟩,.string ⟨#[]⟩,.string ⟨#[]⟩,.string ⟨#[]⟩,.string ⟨#[]⟩,.string ⟨#[]⟩] 181);have E:X1.heap.size<(Fba X1 (.cells #[.string ⟨#[]⟩,.string ⟨#[]⟩,.string ⟨#[]⟩,.string ⟨#[]⟩,.string ⟨#[]⟩,.string ⟨#[]⟩,.string ⟨#[]⟩,.string ⟨#[]⟩,.string ⟨#[]⟩,.string ⟨#[]⟩,.string ⟨#[]⟩,.string ⟨#[]⟩,.string ⟨#[]⟩,.string ⟨#[]⟩,.string ⟨#[]⟩,.string ⟨#[]⟩] 181)).heap.size:=by rw[gba];omega
    have Y:=uo X1;refine hK.out _ _ (HS.out _ hBn) (fun _=>?_);clear hK K;(try simp only[Uba,Vba,Xba,Yba]);generalize Fba X1 (.cells #[.string ⟨#[]⟩,.string ⟨#[]⟩,.string ⟨#[]⟩,.string ⟨#[]⟩,.string ⟨#[]⟩,.string ⟨#[]⟩,.string ⟨#[]⟩,.string ⟨#[]⟩,.string ⟨#[]⟩,.string ⟨#[]⟩,.string ⟨#[]⟩,.string ⟨#[]⟩,.string ⟨#[]⟩,.string ⟨#[]⟩,.string ⟨#[]⟩,.string ⟨#[]⟩] 181)=X4 at hBn E Y ⊢;have hg6:=hB.size;have T6:=Y;have J:=E;clear Y E;generalize X1.heap.size=h6 at hg6 T6 J ⊢;clear hB;have hB:=hBn;clear hBn;refine wpAnyH_ready (rs:=[5]) Vf Yf ?_;refine Wba rfl (fun K hK=>?_) Zba;go_simp;have hBn:=hB.alloc hB.size (.cells #[.int .i64 0,.int .i64 0,.string ⟨#[]⟩,.int .i64 0] 46);have E:X4.heap.size<(Fba X4 (.cells #[.int .i64 0,.int .i64 0,.string ⟨#[]⟩,.int .i64 0] 46)).heap.size:=by rw[gba];omega
    have Y:=En X4;have Q:=Wda T6 (.cells #[.int .i64 0,.int .i64 0,.string ⟨#[]⟩,.int .i64 0] 46);refine hK.out _ _ (HS.out _ hBn) (fun _=>?_);clear hK K;(try simp only[Uba,Vba,Xba,Yba]);generalize Fba X4 (.cells #[.int .i64 0,.int .i64 0,.string ⟨#[]⟩,.int .i64 0] 46)=X5 at hBn E Y Q ⊢;have h56:X4.heap.size≠h6:=by omega
    have H:h6<X5.heap.size:=by omega
    clear T6 J;have T6:=Q;have J:=H;clear Q H;have hg5:=hB.size;have T5:=Y;have I:=E;clear Y E;generalize X4.heap.size=h5 at hg5 T5 I h56 ⊢;exact ma
  ·skip;refine Wba rfl (fun K hK=>?_) ?_
   ·skip;go_simp;have hBn:=hB.alloc hB.size (.cells #[.int .i64 0,.int .i64 0,.string ⟨#[]⟩,.int .i64 0] 46);have E:X0.heap.size<(Fba X0 (.cells #[.int .i64 0,.int .i64 0,.string ⟨#[]⟩,.int .i64 0] 46)).heap.size:=by rw[gba];omega
    have Y:=En X0;refine hK.out _ _ (HS.out _ hBn) (fun _=>?_);clear hK K;(try simp only[Uba,Vba,Xba,Yba]);generalize Fba X0 (.cells #[.int .i64 0,.int .i64 0,.string ⟨#[]⟩,.int .i64 0] 46)=X6 at hBn E Y ⊢;have hg5:=hB.size;have T5:=Y;have I:=E;clear Y E;generalize X0.heap.size=h5 at hg5 T5 I ⊢;clear hB;have hB:=hBn;clear hBn;refine wpAnyH_ready (rs:=[4,6]) Vf Yf ?_;refine Wba rfl (fun K hK=>?_) ?_
    ·skip;go_simp;refine(a0.out _).mono ?_;rintro e X7 ⟨rfl,bb⟩;dsimp only;have hBn:=hB.trans (bb.mono hB.size);have M:=bb.size;have O:=Dl bb T5;refine hK.out _ _ (HS.out _ hBn) (fun _=>?_);clear hK K;(try simp only[Uba,Vba,Xba,Yba]);have G:h5<X7.heap.size:=mba I M;clear T5 I;have T5:=O;have I:=G;clear O G;clear M bb hB;have hB:=hBn;clear hBn;refine wpAnyH_ready (rs:=[6]) Vf Yf ?_;refine Wba rfl (fun K hK=>?_) Zba;go_simp;have hBn:=hB.alloc hB.size (.cells #[.string ⟨#[]⟩,.string ⟨#[]⟩,.string ⟨#[]⟩,.string ⟨#[]⟩,.string ⟨#[]⟩,.string ⟨#[]⟩,.string ⟨#[]⟩,.string ⟨#[]⟩,.string ⟨#[]⟩,.string ⟨#[]⟩,.string ⟨#[]⟩,.string ⟨#[]⟩,.string ⟨#[]⟩,.string ⟨#[]⟩,.string ⟨#[]⟩,.string ⟨#[]⟩] 181);have E:X7.heap.size<(Fba X7 (.cells #[.string ⟨#[]⟩,.string ⟨#[]⟩,.string ⟨#[]⟩,.string ⟨#[]⟩,.string ⟨#[]⟩,.string ⟨#[]⟩,.string ⟨#[]⟩,.string ⟨#[]⟩,.string ⟨#[]⟩,.string ⟨#[]⟩,.string ⟨#[]⟩,.string ⟨#[]⟩,.string ⟨#[]⟩,.string ⟨#[]⟩,.string ⟨#[]⟩,.string ⟨#[]⟩] 181)).heap.size:=by rw[gba];omega
     have Y:=uo X7;have O:=Wda T5 (.cells #[.string ⟨#[]⟩,.string ⟨#[]⟩,.string ⟨#[]⟩,.string ⟨#[]⟩,.string ⟨#[]⟩,.string ⟨#[]⟩,.string ⟨#[]⟩,.string ⟨#[]⟩,.string ⟨#[]⟩,.string ⟨#[]⟩,.string ⟨#[]⟩,.string ⟨#[]⟩,.string ⟨#[]⟩,.string ⟨#[]⟩,.string ⟨#[]⟩,.string ⟨#[]⟩] 181);refine hK.out _ _ (HS.out _ hBn) (fun _=>?_);clear hK K;(try simp only[Uba,Vba,Xba,Yba]);generalize Fba X7 (.cells #[.string ⟨#[]⟩,.string ⟨#[]⟩,.string ⟨#[]⟩,.string ⟨#[]⟩,.string ⟨#[]⟩,.string ⟨#[]⟩,.string ⟨#[]⟩,.string ⟨#[]⟩,.string ⟨#[]⟩,.string ⟨#[]⟩,.string ⟨#[]⟩,.string ⟨#[]⟩,.string ⟨#[]⟩,.string ⟨#[]⟩,.string ⟨#[]⟩,.string ⟨#[]⟩] 181)=X8 at hBn E Y O ⊢;have h56:h5≠X7.heap.size:=by omega
     have G:h5<X8.heap.size:=by omega
     clear T5 I;have T5:=O;have I:=G;clear O G;have hg6:=hB.size;have T6:=Y;have J:=E;clear Y E;generalize X7.heap.size=h6 at hg6 T6 J h56 ⊢;exact ma
    ·skip;refine Wba rfl (fun K hK=>?_) Zba;go_simp;have hBn:=hB.alloc hB.size (.cells #[.string ⟨#[]⟩,.string ⟨#[]⟩,.string ⟨#[]⟩,.string ⟨#[]⟩,.string ⟨#[]⟩,.string ⟨#[]⟩,.string ⟨#[]⟩,.string ⟨#[]⟩,.string ⟨#[]⟩,.string ⟨#[]⟩,.string ⟨#[]⟩,.string ⟨#[]⟩,.string ⟨#[]⟩,.string ⟨#[]⟩,.string ⟨#[]⟩,.string ⟨#[]⟩] 181);have E:X6.heap.size<(Fba X6 (.cells #[.string ⟨#[]⟩,.string ⟨#[]⟩,.string ⟨#[]⟩,.string ⟨#[]⟩,.string ⟨#[]⟩,.string ⟨#[]⟩,.string ⟨#[]⟩,.string ⟨#[]⟩,.string ⟨#[]⟩,.string ⟨#[]⟩,.string ⟨#[]⟩,.string ⟨#[]⟩,.string ⟨#[]⟩,.string ⟨#[]⟩,.string ⟨#[]⟩,.string ⟨#[]⟩] 181)).heap.size:=by rw[gba];omega
     have Y:=uo X6;have O:=Wda T5 (.cells #[.string ⟨#[]⟩,.string ⟨#[]⟩,.string ⟨#[]⟩,.string ⟨#[]⟩,.string ⟨#[]⟩,.string ⟨#[]⟩,.string ⟨#[]⟩,.string ⟨#[]⟩,.string ⟨#[]⟩,.string ⟨#[]⟩,.string ⟨#[]⟩,.string ⟨#[]⟩,.string ⟨#[]⟩,.string ⟨#[]⟩,.string ⟨#[]⟩,.string ⟨#[]⟩] 181);refine hK.out _ _ (HS.out _ hBn) (fun _=>?_);clear hK K;(try simp only[Uba,Vba,Xba,Yba]);generalize Fba X6 (.cells #[.string ⟨#[]⟩,.string ⟨#[]⟩,.string ⟨#[]⟩,.string ⟨#[]⟩,.string ⟨#[]⟩,.string ⟨#[]⟩,.string ⟨#[]⟩,.string ⟨#[]⟩,.string ⟨#[]⟩,.string ⟨#[]⟩,.string ⟨#[]⟩,.string ⟨#[]⟩,.string ⟨#[]⟩,.string ⟨#[]⟩,.string ⟨#[]⟩,.string ⟨#[]⟩] 181)=X9 at hBn E Y O ⊢;have h56:h5≠X6.heap.size:=by omega
     have G:h5<X9.heap.size:=by omega
     clear T5 I;have T5:=O;have I:=G;clear O G;have hg6:=hB.size;have T6:=Y;have J:=E;clear Y E;generalize X6.heap.size=h6 at hg6 T6 J h56 ⊢;clear hB;have hB:=hBn;clear hBn;refine wpAnyH_ready (rs:=[4]) Vf Yf ?_;refine Wba rfl (fun K hK=>?_) Zba;go_simp;refine(a0.out _).mono ?_;rintro e bk ⟨rfl,aT⟩;dsimp only;have hBn:=hB.trans (aT.mono hB.size);have M:=aT.size;have O:=Dl aT T5;have Q:=Dl aT T6;refine hK.out _ _ (HS.out _ hBn) (fun _=>?_);clear hK K;(try simp only[Uba,Vba,Xba,Yba]);have G:h5<bk.heap.size:=mba I M;clear T5 I;have T5:=O;have I:=G;clear O G;have H:h6<bk.heap.size:=mba J M;clear T6 J;have T6:=Q;have J:=H;clear Q H;clear M aT hB;exact na
   ·skip;refine Wba rfl (fun K hK=>?_) Zba;go_simp;have hBn:=hB.alloc hB.size (.cells #[.string ⟨#[]⟩,.string ⟨#[]⟩,.string ⟨#[]⟩,.string ⟨#[]⟩,.string ⟨#[]⟩,.string ⟨#[]⟩,.string ⟨#[]⟩,.string ⟨#[]⟩,.string ⟨#[]⟩,.string ⟨#[]⟩,.string ⟨#[]⟩,.string ⟨#[]⟩,.string ⟨#[]⟩,.string ⟨#[]⟩,.string ⟨#[]⟩,.string ⟨#[]⟩] 181);have E:X0.heap.size<(Fba X0 (.cells #[.string ⟨#[]⟩,.string ⟨#[]⟩,.string ⟨#[]⟩,.string ⟨#[]⟩,.string ⟨#[]⟩,.string ⟨#[]⟩,.string ⟨#[]⟩,.string ⟨#[]⟩,.string ⟨#[]⟩,.string ⟨#[]⟩,.string ⟨#[]⟩,.string ⟨#[]⟩,.string ⟨#[]⟩,.string ⟨#[]⟩,.string ⟨#[]⟩,.string ⟨#[]⟩] 181)).heap.size:=by rw[gba];omega
    have Y:=uo X0;refine hK.out _ _ (HS.out _ hBn) (fun _=>?_);clear hK K;(try simp only[Uba,Vba,Xba,Yba]);generalize Fba X0 (.cells #[.string ⟨#[]⟩,.string ⟨#[]⟩,.string ⟨#[]⟩,.string ⟨#[]⟩,.string ⟨#[]⟩,.string ⟨#[]⟩,.string ⟨#[]⟩,.string ⟨#[]⟩,.string ⟨#[]⟩,.string ⟨#[]⟩,.string ⟨#[]⟩,.string ⟨#[]⟩,.string ⟨#[]⟩,.string ⟨#[]⟩,.string ⟨#[]⟩,.string ⟨#[]⟩] 181)=X11 at hBn E Y ⊢;have hg6:=hB.size;have T6:=Y;have J:=E;clear Y E;generalize X0.heap.size=h6 at hg6 T6 J ⊢;clear hB;have hB:=hBn;clear hBn;refine wpAnyH_ready (rs:=[4,5]) Vf Yf ?_;refine Wba rfl (fun K hK=>?_) ?_
    ·skip;go_simp;refine(a0.out _).mono ?_;rintro e aX ⟨rfl,aZ⟩;dsimp only;have hBn:=hB.trans (aZ.mono hB.size);have M:=aZ.size;have Q:=Dl aZ T6;refine hK.out _ _ (HS.out _ hBn) (fun _=>?_);clear hK K;(try simp only[Uba,Vba,Xba,Yba]);have H:h6<aX.heap.size:=mba J M;clear T6 J;have T6:=Q;have J:=H;clear Q H;clear M aZ hB;have hB:=hBn;clear hBn;refine wpAnyH_ready (rs:=[5]) Vf Yf ?_;refine Wba rfl (fun K hK=>?_) Zba;go_simp;have hBn:=hB.alloc hB.size (.cells #[.int .i64 0,.int .i64 0,.string ⟨#[]⟩,.int .i64 0] 46);have E:aX.heap.size<(Fba aX (.cells #[.int .i64 0,.int .i64 0,.string ⟨#[]⟩,.int .i64 0] 46)).heap.size:=by rw[gba];omega
     have Y:=En aX;have Q:=Wda T6 (.cells #[.int .i64 0,.int .i64 0,.string ⟨#[]⟩,.int .i64 0] 46);refine hK.out _ _ (HS.out _ hBn) (fun _=>?_);clear hK K;(try simp only[Uba,Vba,Xba,Yba]);generalize Fba aX (.cells #[.int .i64 0,.int .i64 0,.string ⟨#[]⟩,.int .i64 0] 46)=X13 at hBn E Y Q ⊢;have h56:aX.heap.size≠h6:=by omega
     have H:h6<X13.heap.size:=by omega
     clear T6 J;have T6:=Q;have J:=H;clear Q H;have hg5:=hB.size;have T5:=Y;have I:=E;clear Y E;generalize aX.heap.size=h5 at hg5 T5 I h56 ⊢;exact ma
    ·skip;refine Wba rfl (fun K hK=>?_) Zba;go_simp;have hBn:=hB.alloc hB.size (.cells #[.int .i64 0,.int .i64 0,.string ⟨#[]⟩,.int .i64 0] 46);have E:X11.heap.size<(Fba X11 (.cells #[.int .i64 0,.int .i64 0,.string ⟨#[]⟩,.int .i64 0] 46)).heap.size:=by rw[gba];omega
     have Y:=En X11;have Q:=Wda T6 (.cells #[.int .i64 0,.int .i64 0,.string ⟨#[]⟩,.int .i64 0] 46);refine hK.out _ _ (HS.out _ hBn) (fun _=>?_);clear hK K;(try simp only[Uba,Vba,Xba,Yba]);generalize Fba X11 (.cells #[.int .i64 0,.int .i64 0,.string ⟨#[]⟩,.int .i64 0] 46)=X14 at hBn E Y Q ⊢;have h56:X11.heap.size≠h6:=by omega
     have H:h6<X14.heap.size:=by omega
     clear T6 J;have T6:=Q;have J:=H;clear Q H;have hg5:=hB.size;have T5:=Y;have I:=E;clear Y E;generalize X11.heap.size=h5 at hg5 T5 I h56 ⊢;clear hB;have hB:=hBn;clear hBn;refine wpAnyH_ready (rs:=[4]) Vf Yf ?_;refine Wba rfl (fun K hK=>?_) Zba;go_simp;refine(a0.out _).mono ?_;rintro e bs ⟨rfl,aU⟩;dsimp only;have hBn:=hB.trans (aU.mono hB.size);have M:=aU.size;have O:=Dl aU T5;have Q:=Dl aU T6;refine hK.out _ _ (HS.out _ hBn) (fun _=>?_);clear hK K;(try simp only[Uba,Vba,Xba,Yba]);have G:h5<bs.heap.size:=mba I M;clear T5 I;have T5:=O;have I:=G;clear O G;have H:h6<bs.heap.size:=mba J M;clear T6 J;have T6:=Q;have J:=H;clear Q H;clear M aU hB;exact na
 case rest =>
  obtain⟨h5,h6,rfl,rfl,⟨lb,bf,l0,l5,l6,⟨y0,y1,y2,y3⟩,bL⟩⟩:=hcut;have aW:=kaa lb;have bg:=kaa bL;clear lb bL HS hSS SS HWD hlt hbx a5 a0;have av:=a3.out;clear a3;rcases av with⟨o1,bI,hE,rfl⟩|⟨o2,rfl⟩|⟨hop,k,s,hsl,hR,hO,hP⟩|⟨hop,k,k2,s,s2,hsl,hsl2,hkk,hR,hO,hP,hP2⟩;·obtain⟨_,g1,g2⟩:=Al bI o1;have HT:Hid (∀ u,Below w.heap.size w u→Calls maa 125 #[.int .i64 x.n] u fun e w'=>e = .returned (.string (vh (Paa x.n)))∧Below u.heap.size u w'):=fun u hu=>VC x.n g1 g2 u (hE.below hu);rw[o1]at y0;clear bI o1 g1 g2 hE;go_wp2_with (go_at_call 125;refine(HT.out _ aW.out).mono ?_;rintro e w1 ⟨rfl,L⟩);go_ret;exact⟨rfl,bt aW.out L⟩
  ·rw[o2]at y0;clear o2;go_wp2_with fail;go_ret;exact⟨rfl,aW.out⟩
  ·obtain⟨o,ho⟩:=Faa (show 0≤x.op by omega);have aY:=bg.out o Tf;rw[ho]at y0 hop;rw[ho,saa]at hR;have o1:((o:Int)==1)=false:=by rw[beq_eq_false_iff_ne];omega
   have o2:((o:Int)==2)=false:=by rw[beq_eq_false_iff_ne];omega
   have b0:(0:Int)≤(o:Int):=Sba _;have b1:(o:Int)<16:=by omega
   have z1:(vh (sg o)).size≤2:=by rw[Dh];rcases hop with h|h<;>(have:o=3∨o=4:=by omega)<;>rcases this with rfl|rfl<;>decide
   have z2:(vh s).size≤20000:=by rw[Dh];exact hsl
   have f1:¬ (9223372036854775807<(vh (sg o)).size+(vh s).size):=by omega
   have HR:Hid (vh R=vh (sg o)++vh s):=by rw[hR];exact Sh (sg o) s
   have HO:=kaa hO;have HP:=kaa hP;clear hO hP hsl hop ho y1 y2 y3 hR;generalize sg o=so at aY z1 HR f1;go_upto_region 10 with(first
    |(go_at_call 161;refine(HO.out _ aW.out).mono ?_;rintro e w1 ⟨A,c1,rfl,af,L⟩))
   obtain⟨b2,ad,c2,hV,a6,aV,ao⟩:=af.at_ Yf;simp only[jaa,Xaa,bca]at hV;obtain⟨rfl,_,rfl⟩:=hV;have a7:=ao 0 Yf;simp only[dca,Ada]at a7;have v0:=(L.cell (p:=⟨h5,0,none⟩) l5).trans y0;have v1:=(L.cell (p:=⟨h6,o,none⟩) l6).trans aY;have v2:=(L.cell (p:=⟨w.heap.size,0,none⟩) l0).trans bf;have lw:=mba l0 L.size;have m5:=mba l5 L.size;have m6:=mba l6 L.size;have a2:=kaa (bt aW.out L);have bE:1≤c1:=by simpa using a6
   have HV:=kaa (Rba v0 (Rba v1 a7));clear ao a6 L af y0 aY bf l0 l5 l6;go_region_held3 (fun w'=>w'.cell? ⟨h5,0,none⟩=some (.int .i64 o)∧w'.cell? ⟨h6,o,none⟩=some (.string (vh so))∧w'.cell? ⟨b2,ad,none⟩=some (.int .i64 k)) (first|exact⟨by assumption,by assumption,by assumption⟩|go_keep)
    (first
    |(go_at_call 172;refine(HP.out _ ?_ ?_ ?_).mono ?_;(exact mo a2.out);(exact v2);(exact lw);rintro e w2 ⟨rfl,Z⟩;have q0:=(Z.cell (p:=⟨h5,0,none⟩) m5).trans HV.out.1;have q1:=(Z.cell (p:=⟨h6,o,none⟩) m6).trans HV.out.2.1;have q2:=(Z.cell (p:=⟨b2,ad,none⟩) aV).trans HV.out.2.2;have a9:=bt (mo a2.out) Z))
   all_goals go_wp2_with fail;go_ret;exact⟨Rl HR.out.symm,a9⟩
  ·obtain⟨o,ho⟩:=Faa (show 0≤x.op by omega);have aY:=bg.out o Tf;rw[ho]at y0 hop;rw[ho,saa]at hR;have o1:((o:Int)==1)=false:=by rw[beq_eq_false_iff_ne];omega
   have o2:((o:Int)==2)=false:=by rw[beq_eq_false_iff_ne];omega
   have b0:(0:Int)≤(o:Int):=Sba _;have b1:(o:Int)<16:=by omega
   have z1:(vh (sg o)).size≤2:=by rw[Dh];exact(jv [] 0 o Tf Tf).2.2.2
   have z2:(vh s).size≤20000:=by rw[Dh];exact hsl
   have z3:(vh s2).size≤20000:=by rw[Dh];exact hsl2
   have f1:¬ (9223372036854775807<(vh s).size+1):=by omega
   have b4:¬ (9223372036854775806<(vh s).size):=by omega
   have f2:¬ (9223372036854775807<(vh s).size+1+(vh (sg o)).size):=by omega
   have f3:¬ (9223372036854775807<(vh s).size+1+(vh (sg o)).size+1):=by omega
   have bW:¬ (9223372036854775806<(vh s).size+1+(vh (sg o)).size):=by omega
   have f4:¬ (9223372036854775807<(vh s).size+1+(vh (sg o)).size+1+(vh s2).size):=by omega
   have HR:Hid (vh R=vh s++⟨#[32]⟩++vh (sg o)++⟨#[32]⟩++vh s2):=by show _=_;rw[hR,Sh,Sh,Sh,Sh];rfl
   have HO:=kaa hO;have HP:=kaa hP;have bV:=kaa hP2;clear hO hP hP2 hsl hsl2 hop ho y1 y2 y3 hR;generalize sg o=so at aY z1 HR f1 f2 f3 bW f4;go_upto_region 11 with(first
    |(go_at_call 161;refine(HO.out _ aW.out).mono ?_;rintro e w1 ⟨A,c1,rfl,af,L⟩))
   obtain⟨b2,ad,c2,hV,a6,aV,ao⟩:=af.at_ Yf;simp only[jaa,Xaa,bca]at hV;obtain⟨rfl,_,rfl⟩:=hV;have a7:=ao 0 Yf;have bF:=ao 1 Yf;simp only[dca,Rda,Ada]at a7 bF;have v0:=(L.cell (p:=⟨h5,0,none⟩) l5).trans y0;have v1:=(L.cell (p:=⟨h6,o,none⟩) l6).trans aY;have v2:=(L.cell (p:=⟨w.heap.size,0,none⟩) l0).trans bf;have lw:=mba l0 L.size;have m5:=mba l5 L.size;have m6:=mba l6 L.size;have a2:=kaa (bt aW.out L);have bE:2≤c1:=by simpa using a6
   have HV:=kaa (Rba v0 (Rba v1 (Rba a7 (Rba bF v2))));have b3:(k:Int)≠(k2:Int):=by omega
   clear ao a6 L af y0 aY bf l0 l5 l6;go_region_held3 (fun w'=>w'.cell? ⟨h5,0,none⟩=some (.int .i64 o)∧w'.cell? ⟨h6,o,none⟩=some (.string (vh so))∧w'.cell? ⟨b2,ad,none⟩=some (.int .i64 k)∧w'.cell? ⟨b2,ad+1,none⟩=some (.int .i64 k2)) (first|exact⟨by assumption,by assumption,by assumption,by assumption⟩|go_keep)
    (first
    |(go_at_call_of 172 (Value.int .i64 (k:Int));refine(HP.out _ ?_ ?_ ?_).mono ?_;(exact mo a2.out);(exact v2);(exact lw);rintro e w2 ⟨rfl,Z⟩;have q0:=(Z.cell (p:=⟨h5,0,none⟩) m5).trans HV.out.1;have q1:=(Z.cell (p:=⟨h6,o,none⟩) m6).trans HV.out.2.1;have q2:=(Z.cell (p:=⟨b2,ad,none⟩) aV).trans HV.out.2.2.1;have q3:=(Z.cell (p:=⟨b2,ad+1,none⟩) aV).trans HV.out.2.2.2.1;have q4:=(Z.cell (p:=⟨w.heap.size,0,none⟩) lw).trans HV.out.2.2.2.2;have a8:=kaa (Rba q0 (Rba q1 (Rba q2 q3)));have bY:=mba lw Z.size;have n5:=mba m5 Z.size;have n6:=mba m6 Z.size;have bU:=mba aV Z.size;have a9:=bt (mo a2.out) Z)
    |(go_at_call_of 172 (Value.int .i64 (k2:Int));refine(bV.out _ ?_ ?_ ?_).mono ?_;(exact a9);(exact q4);(exact bY);rintro e w3 ⟨rfl,a4⟩;have r0:=(a4.cell (p:=⟨h5,0,none⟩) n5).trans a8.out.1;have r1:=(a4.cell (p:=⟨h6,o,none⟩) n6).trans a8.out.2.1;have r2:=(a4.cell (p:=⟨b2,ad,none⟩) bU).trans a8.out.2.2.1;have r3:=(a4.cell (p:=⟨b2,ad+1,none⟩) bU).trans a8.out.2.2.2;have bX:=bt a9 a4))
   all_goals go_wp2_with fail;go_ret;exact⟨Rl HR.out.symm,bX⟩
theorem OI(l:List Kh)(v:Value)(hl:l.length≤1000)(hm:∀ x∈l,Ci x=true):∀ (N:Nat) (e:Ex) (i:Nat) (w:World),Wh w v l→Xj w→e.flat.length≤N→e.ok→Ft l i e →
  Calls maa 129 #[v,.int .i64 i] w fun r w'=>r = .returned (.string (vh e.show))∧Below w.heap.size w w'
 |0,e,i,w,h,hE,hN,H,ha=>by have:=e.flat_pos;omega
 |N+1,e,i,w,h,hE,hN,H,ha=>by
  have av:=ha.lt
  have Z:=ha.le
  have G:=ha.may hm
  have E:=fun u (Y:Below w.heap.size w u)=>Iw l v u (h.below Y) Tf e i H ha
  obtain⟨b,off,c,rfl,ao,I,af⟩:=h.at_ Tf
  have x1:=af i av
  rw[ha.top]at x1
  -- a kid,shown as a part
  have Q:∀ (k:Nat) (a:Ex),a.ok→Ft l k a→a.flat.length≤N→∀ u,Below w.heap.size w u→u.cell? ⟨w.heap.size,0,none⟩=some (.slice (some ⟨b,off,none⟩) l.length c)→w.heap.size<u.heap.size →
    Calls maa 172 #[.int .i64 k,.pointer (some ⟨w.heap.size,0,none⟩)] u fun r w'=>r = .returned (.string (vh (a.sh true)))∧Below u.heap.size u w':=by
   intro k a ad A aV u Y aW aX
   have aT:=A.lt
   have aY:=A.may hm
   have a2:=zo a ad aY
   have L:=A.le
   have xk:=af k aT
   rw[A.top]at xk
   have xu:Qu u b (off+k*4) a.top:=⟨(Y.cell (p:=⟨b,off+k*4,none⟩) I).trans xk.op,(Y.cell (p:=⟨b,off+k*4+1,none⟩) I).trans xk.n,(Y.cell (p:=⟨b,off+k*4+2,none⟩) I).trans xk.name,(Y.cell (p:=⟨b,off+k*4+3,none⟩) I).trans xk.pos⟩
   have:=nM b off l.length c k w.heap.size a.top u aT ao (mba I Y.size) aX xu aW a.show Tf (kaa fun u2 aU=>OI l _ hl hm N a k u2 (h.below (bt Y aU)) (hE.below (bt Y aU)) aV ad A)
   rw[pO a ad]at this
   exact this
  refine mG b off l.length c i e.top w av ao I x1 e.show ?_
  match e,hN,H,ha,G,x1,Z,E with
  | .leaf x,hN,H,ha,G,x1,Z,E =>
   rcases Nj.1 (show Lh x.op=0 from H)with h1|h1;·exact .inl ⟨h1,G x Fg,hE,by unfold Ex.show;rw[if_pos h1];rfl⟩
   ·exact .inr (.inl ⟨h1,by unfold Ex.show;rw[if_neg Tf];rfl⟩)
  | .one x a,hN,H,ha,G,x1,Z,E =>
   have A:=ha.kid 0 Lg;rw[qm]at A;have L:a.flat.length≤N:=by simp only[Naa,jaa]at hN;omega
   have a2:=a.sh_len true H.2 (Ex.may_one G).2;have M:=A.le;simp only[Ex.ks,dca]at A M;exact .inr (.inr (.inl ⟨Nj.2.1 H.1,i+1,a.sh true,by omega,rfl,E,Q (i+1) a H.2 A L⟩))
  | .two x J eb,hN,H,ha,G,x1,Z,E =>
   have A:=ha.kid 0 Lg;have O:=ha.kid 1 Lg;rw[Jq i _ 0 Lg]at O;rw[qm]at A O;have L:J.flat.length≤N∧eb.flat.length≤N:=by simp only[Naa,jaa,xaa]at hN;omega
   obtain⟨a3,aZ,a0⟩:=Ex.may_two G;have a5:=J.sh_len true H.2.1 aZ;have a6:=eb.sh_len true H.2.2 a0;have M:=A.le;have al:=O.le;have a4:=J.flat_pos;have a1:Vt i (Ex.two x J eb).ks 2=[i+1,i+1+J.flat.length]:=by have h1:=Ut i (Ex.two x J eb).ks 1;have h2:=Ut i (Ex.two x J eb).ks 0;rw[h1,h2,Jq i _ 0 Lg,qm];rfl
   simp only[Ex.ks,dca,Rda]at A O M al;refine .inr (.inr (.inr ⟨Nj.2.2 H.1,i+1,i+1+J.flat.length,J.sh true,eb.sh true,by omega,by omega,by omega,rfl,fun u Y=>?_,Q _ J H.2.1 A L.1,Q _ eb H.2.2 O L.2⟩));have:=E u Y;simp only[show(Ex.two x J eb).ks.length=2 from rfl]at this;rw[a1]at this;exact this
theorem vE(l:List Kh)(hl:l.length≤100000)(H:∀ x∈l,x.name.length≤1000000)(v:Value)(w:World)(A:Wh w v l)(G:Xj w):Calls maa 60 #[v] w fun e w'=>e = .returned (.string (vh (Ej l)))∧Below w.heap.size w w':=by
 obtain⟨Q,c0,rfl,Z⟩:=A.shape;have E:=kaa (bA l hl H _ w A G);cases hr:Fh l;·have HS:=kaa (Zx hr).1;rw[hr]at E;clear A H hr G;go_enter Tryz.func60,Tryz.ntmps60;go_wp2_with (go_at_call 49;refine(E.out).mono ?_;rintro e w1 ⟨rfl,hb1⟩);exact Ef
 ·obtain⟨e,J,L,M,h4,h5,h6,Y⟩:=Er hr;have HS:=kaa h6;have I:Hid (∀ u,Below w.heap.size w u→Calls maa 129 #[.slice Q l.length c0,.int .i64 0] u fun r w'=>r = .returned (.string (vh e.show))∧Below u.heap.size u w'):=fun u O=>by subst M;exact OI e.flat _ Tf (fun x hx=>L x hx) _ e 0 u (A.below O) (G.below O) (aaa _) J (Ft.whole e)
  rw[hr]at E;clear A H hr J L M h5 h6 Y G;generalize e.show=s at I HS;go_enter Tryz.func60,Tryz.ntmps60;go_wp2_with (first
   |(go_at_call 49;refine(E.out).mono ?_;rintro e w1 ⟨rfl,hb1⟩)
   |(go_at_call 129;refine(I.out _ hb1).mono ?_;rintro e w2 ⟨rfl,hb2⟩))
  exact sf
theorem um{s:List UInt8}(h:Hh s=true):s.length≤16:=by obtain⟨c,r,_,_,A⟩:=Il h;exact A
theorem ek{l:List Kh}(h:Fh l=true):l.length≤100000∧(∀ y∈l,y.name.length≤1000000)∧(Ej l).length≤800:=by
 obtain⟨e,G,A,E,I,h5,h6,J⟩:=Er h;have L:=zo e G A;refine⟨by omega,fun y H=>?_,by rw[h6];subst E;omega⟩;subst E;have hm:=A y H;unfold Ci at hm;split at hm;·cases hm
 ·split at hm;·exact ie
  ·split at hm;·simp only[Bool.and_eq_true]at hm;have:=um hm.2;omega
   ·exact ie
theorem YE{x:St}(A:Pk x):∀ c∈Gh x.kind.toNat,(fm x c).length≤800:=fun c H=>by
 unfold Gh at H;have G:c∈Ii x.kind.toNat:=(List.mem_filter.1 H).1;have E:jj x c=true:=by unfold jj;simpa using G
 unfold fm;split;·rename_i h;subst h;have:=A.r;rw[if_pos E]at this;have:=um this;omega
 ·split;·rename_i h;subst h;have:=A.nm;rw[if_pos E]at this;have:=um this;omega
  ·split;·rename_i h;subst h;have:=A.e;rw[if_pos E]at this;exact(ek this).2.2
   ·split;·rename_i h;subst h;have:=A.f;rw[if_pos E]at this;exact(ek this).2.2
    ·have:=Rp x.n (by have:=A.t;split at this<;>omega) (by have:=A.t;split at this<;>omega);rw[Dh]at this;omega
theorem gu{x:St}(A:Pk x):(Lj x).length≤4000:=by have E:=iB (Ai x.kind.toNat) x (Gh x.kind.toNat) 0 (YE A);have G:=FM x.kind.toNat;have H:=qL x.kind.toNat;unfold Lj;rw[xaa];omega
theorem Ty{α:Type}(f:α→List Value)(size:Nat)(A:∀ x,(f x).length=size):∀ (l:List α) (i:Nat),(l.drop i).flatMap f=(l.flatMap f).drop (i*size)
 |l,0=>by simp
 | [],i+1=>by simp
 |x::r,i+1=>by rw[List.drop_succ_cons,Ty f size A r i,baa,caa,Nat.add_comm,← List.drop_drop,← A x,List.drop_left]
theorem Sy{α:Type}(f:α→List Value)(size:Nat)(A:∀ x,(f x).length=size):∀ (l:List α) (i:Nat),(l.take i).flatMap f=(l.flatMap f).take (i*size)
 |l,0=>by simp
 | [],i+1=>by simp
 |x::r,i+1=>by rw[List.take_succ_cons,baa,baa,Sy f size A r i,List.take_append,A,caa,show i*size+size - size=i*size by omega,List.take_of_length_le (l:=f x) (by rw[A];omega)]
theorem Kp.sub{w:World}{b off n c:Nat}{pl:List Sv}(h:Kp w (.slice (some ⟨b,off,none⟩) n c) pl)(i k I:Nat)(ad:i+k≤pl.length)(Y:k≤I):Kp w (.slice (some ⟨b,off+i*9,none⟩) k I) ((pl.drop i).take k):=by
 have E:((pl.drop i).take k).length=k:=by rw[List.length_take,List.length_drop];omega
 refine⟨⟨bo Hca 9 Ica _,some ⟨b,off+i*9,none⟩,I,by rw[E],by rw[E];exact Y,fun O=>?_⟩,fun x hx=>h.2 x (wda (uda hx))⟩;rw[E]at O;obtain⟨⟨_,A,c1,hv,_,Z⟩,_⟩:=h;cases hv;obtain⟨b1,M,Q,L,G⟩:=Z Tf;cases Q;refine⟨b,off+i*9,rfl,L,fun j u H=>?_⟩;rw[Sy Hca 9 Ica,Ty Hca 9 Ica]at H;have J:(pl.flatMap Hca)[i*9+j]? = some u:=by
  rw[List.getElem?_take]at H;split at H;·rw[List.getElem?_drop]at H;exact H
  ·cases H
 have:=G _ _ J;rw[← Nat.add_assoc]at this;exact this
theorem JL(w:World)(A:Option Addr)(c:Nat):Kp w (.slice A 0 c) []:=⟨⟨by simp,A,c,rfl,laa _,fun h=>absurd h Yf⟩,fun x E=>by cases E⟩
theorem jG(u:World):(sizeOf 44).run maa u = .ok 9 u:=by kernel_rfl
theorem XF:Tryz.prog.underlying 39=some (.slice (Tryz.prog.elem 39)):=by kernel_rfl
theorem iE:Tryz.prog.elem 39=44:=by kernel_rfl
theorem LI(A:Option Addr)(len E lo hi:Nat)(H:lo≤hi)(I:hi≤E)(a b:Int)(ha:a=lo)(G:b=hi)(u:World):(Xda 39 (.slice A len E) (some (.int .i64 a)) (some (.int .i64 b)) none).run maa u = .ok (.slice (if E=lo then A else A.map (·.add (lo*9))) (hi - lo) (E - lo)) u:=by subst ha G;rw[run_slice_lh u _ A len E XF .i64 .i64 _ _ Tf Tf Tf,iE,jG];simp only[Result.andThen,sliced,saa]
theorem Kp.cut{w:World}{A:Option Addr}{n c:Nat}{pl:List Sv}(h:Kp w (.slice A n c) pl)(i k:Nat)(E:i+k≤pl.length)(a b:Int)(ha:a=i)(M:b=(i+k:Nat)):∃ H J,(∀ u,(Xda 39 (.slice A n c) (some (.int .i64 a)) (some (.int .i64 b)) none).run maa u = .ok (.slice H k J) u)∧Kp w (.slice H k J) ((pl.drop i).take k):=by
 obtain⟨Z,c0,G,hc⟩:=h.shape;cases G;refine⟨_,_,fun u=>by rw[LI A pl.length c i (i+k) Tf Tf a b ha M u,Nat.add_sub_cancel_left],?_⟩;by_cases Q:k=0;·subst Q;rw[List.take_zero];exact JL _ _ _
 ·obtain⟨I,off,c1,G,O,Y,_⟩:=h.at_ Tf;cases G;rw[if_neg Tf];have e:(⟨I,off,none⟩:Addr).add (i*9)=⟨I,off+i*9,none⟩:=by
   unfold Addr.add;split;·rename_i L;rw[L];rfl
   ·rfl
  have:=h.sub i k (c - i) E Tf;rw[← e]at this;exact this
theorem Rd.deep_le{b:Bool}{l:List St}{d:Nat}(h:Rd b l d):d≤l.length:=by
 induction h with
 |nil=>exact laa _
 |leaf _ _ _ _ _ _ ih=>simp only[jaa];omega
 |ifs _ _ _ _ _ _ A E G=>simp only[jaa,xaa];omega
 |loop _ _ _ _ _ A E=>simp only[jaa,xaa];omega
theorem Tz(b:Bool)(l:List St):Ip b l≤l.length:=by
 by_cases h:0≤Ip b l;·have:=(Rm l.length b l (aaa _) h).deep_le;unfold Ip at *;omega
 ·omega
theorem GI{pl:List Sv}{j:Nat}(h:j<pl.length):(pl.map (·.s))[j]' xg=(pl[j]).s:=by simp
theorem Jn(pl:List Sv)(i k:Nat):((pl.drop i).take k).map (·.s)=((pl.map (·.s)).drop i).take k:=by rw[List.map_take,List.map_drop]
def kL(f:FuncId)(N:Nat):Prop:=∀ (pl:List Sv) (v:Value) (w:World) (lo:Int),pl.length≤N→pl.length≤40→0≤lo→lo+pl.length≤1000→Kp w v pl →
 Calls maa f #[v,.int .i64 lo] w fun e w'=>e = .returned (.int .i64 (Ip (decide (0<lo)) (pl.map (·.s))))∧Below w.heap.size w w'
theorem ik(x:Int)(A:-1000000≤x)(E:x≤1000000):Xca.wrap x=x:=IntWalk.i64_in _ Tf
theorem nF{b:Bool}{l:List St}{d:Nat}(h:Rd b l d)(E:∀ x∈l,Pk x)(A:List UInt8)(hr:A.length+2*l.length≤200):(Wm A l).length≤5000*l.length:=BO (ko h A) (fun x G=>gu (E x G)) hr
theorem dC{pl q:List Sv}(h:∀ x∈pl,Pk x.s)(A:∀ x∈q,x∈pl):∀ x∈q,Pk x.s:=fun x E=>h x (A x E)
theorem GB{pl:List Sv}{i k:Nat}:∀ x∈(pl.drop i).take k,x∈pl:=fun x A=>wda (uda A)
theorem WJ{pl:List Sv}(h:∀ x∈pl,Pk x.s){l:List St}(A:∀ x∈l,x∈pl.map (·.s)):∀ x∈l,Pk x:=fun x E=>by obtain⟨y,G,rfl⟩:=List.mem_map.1 (A x E);exact h y G
def nQ(x:St):Bool:=decide (1≤x.kind)&&decide (x.kind<15)&&decide (0≤x.pos)&&decide (x.pos≤4000)&&(if jj x 107=true then decide (1≤x.n)&&decide (x.n≤8)else x.n==0)
theorem eN(x:St):Vl x=(nQ x&&xo (jj x 114) x.reg&&xo (jj x 110) x.name&&tm (jj x 101) x.e&&tm (jj x 102) x.f):=by unfold Vl nQ xo tm;rw[show decide (x.kind<15)=decide (x.kind≤14)from decide_eq_decide.2 Tf];generalize decide (1≤x.kind)=a;generalize decide (x.kind≤14)=b;generalize decide (0≤x.pos)=c;generalize decide (x.pos≤4000)=d;generalize (if jj x 107=true then decide (1≤x.n)&&decide (x.n≤8)else x.n==0)=t;cases a<;>cases b<;>cases c<;>cases d<;>cases t<;>simp
theorem yF(k:Int)(w:World):Calls maa 196 #[.int .i64 k] w fun e w'=>e = .returned (.string (vh (Ii k.toNat)))∧Below w.heap.size w w':=by
 by_cases h:0≤k∧k<15;·obtain⟨n,rfl⟩:=Faa h.1;rw[saa];exact ex n Tf w
 ·have E:vh (Ii k.toNat)=⟨#[]⟩:=by
   by_cases G:k<0;·rw[show k.toNat=0 by omega];rfl
   ·have:Ii k.toNat=[]:=by exact yd
    rw[this];rfl
  rw[E];exact(JO k Tf w).mono (fun e w' A=>⟨A.1,by rw[A.2];exact Gaa _ _⟩)
theorem PJ(k:Nat)(c:UInt8)(E:c∈([114,110,101,102,107]:List UInt8))(b:Nat)(w:World)(A:w.cell? ⟨b,0,none⟩=some (.string (vh (Ii k)))):Calls maa 197 #[.string ⟨#[c]⟩,.pointer (some ⟨b,0,none⟩)] w fun e w'=>e = .returned (.bool ((Ii k).contains c))∧w=w':=by
 by_cases G:k<15;·exact wO k G c E b w A
 ·have:Ii k=[]:=by exact yd
  rw[this]at A ⊢;exact ID c b w A
end Go.Proofs.YtjcihcncljihoaaGreatDoor

/- Chapter 05 (programs), joined: StrP. -/
import Derived.Test.YtjcihcncljihoaaGreatDoorPb19
set_option maxRecDepth 100000
set_option maxHeartbeats 16000000
namespace Go.Proofs.YtjcihcncljihoaaGreatDoor
open Go Go.RowKit
set_option linter.unusedVariables false
open _root_.Array renaming getElem?_eq_some_iff→zca
open Go.Instr renaming next→Zda
open Go.Lib renaming hid→kaa,itoa→Paa
open List renaming filter_append→Yda,getElem_mem→dba,map_append→Zaa,take_succ_eq_append_getElem→Caa
open Nat renaming le_refl→aaa,le_trans→yba,zero_le→laa,zero_lt_one→bea
open UInt8 renaming reduceToNat→aea
open bi renaming below→aca
open Go.Proofs.Tryz renaming prog→maa
theorem Ca{P:Prop}(h:P:=by
 have HI6:Hid (w6.heap[w1.heap.size]? = some (.stringIter (vh (Ii x.kind.toNat)) (p+1))):=(hb6.block _ (Nat.lt_succ_self _)).trans ((ii hb3 _).block _ HSZU.out |>.trans HU0.out);have HB6:Hid (Below w1.heap.size w1 w6):=HBU.out.trans (((ii hb3 _).mono (Nat.le_of_lt HSZU.out)).trans (hb6.mono (Nat.le_succ _)));have HO6:=Lib.hid hown6;clear hown6;go_wp2_with fail;go_roundw;case rel=>exact⟨p+1,A6,c6,by omega,by rw[HPS.out,List.length_append];rfl,by rw[HPS.out,List.length_append,List.flatMap_append];exact HO6.out,HI6.out,HB6.out⟩
 case measure =>simp only[World.iterPos,HI6.out,HIT.out];omega):P:=h
theorem Da{P:Prop}(h:P:=by
 have HI6:Hid (w6.heap[w1.heap.size]? = some (.stringIter (vh (Ii x.kind.toNat)) (p+1))):=(hb6.block _ (Nat.lt_succ_self _)).trans ((al U _).block _ HSZU.out |>.trans HU0.out);have HB6:Hid (Below w1.heap.size w1 w6):=HBU.out.trans (((al U _).mono (Nat.le_of_lt HSZU.out)).trans (hb6.mono (Nat.le_succ _)));have HO6:=Lib.hid hown6;clear hown6;go_wp2_with fail;go_roundw;case rel=>exact⟨p+1,A6,c6,by omega,by rw[HPS.out,List.length_append];rfl,by rw[HPS.out,List.length_append,List.flatMap_append];exact HO6.out,HI6.out,HB6.out⟩
 case measure =>simp only[World.iterPos,HI6.out,HIT.out];omega):P:=h
theorem Mb{P:Prop}(h:P:=by
 go_wp2_with fail;go_roundw;case rel=>exact⟨by trivial,1,_,by omega,congrArg Value.string HVN.out,rfl,fun h=>absurd h (by decide),HCN.out⟩
 case measure=>simp[intOf];omega):P:=h
theorem Of{P:Prop}(h:P:=by simp only[List.append_assoc]):P:=h
theorem zH:(Tryz.prog.info? 9).map (fun i=>(i.zero,i.size,i.bytes))=some (some (.string ByteArray.empty),1,16):=by kernel_rfl
theorem po:Tryz.prog.underlying 38=some (.slice 9):=by kernel_rfl
theorem Qp(l:List (List UInt8)):∀ u∈l.flatMap Mh,u.oneCell'=true:=by intro u E;obtain⟨x,_,A⟩:=List.mem_flatMap.1 E;simp only[Mh,List.mem_singleton]at A;subst A;rfl
theorem ns(U:World)(s:List UInt8):bi (U.alloc (.cells #[.string (vh s)] 9)) (.slice (some ⟨U.heap.size,0,none⟩) 1 1) 1 1 ([s].flatMap Mh):=by have:=zk U [.string (vh s)] 9 1 1 1 rfl (aaa _);simpa[Mh]using this
noncomputable def aq(x:St)(p:Nat):List (List UInt8):=(((Ii x.kind.toNat).take p).filter (fun c=>c != 98)).map (fm x)
theorem Hs(x:St)(p:Nat)(h:p<(Ii x.kind.toNat).length)(c:UInt8)(E:(Ii x.kind.toNat)[p]=c)(A:c≠98):aq x (p+1)=aq x p++[fm x c]:=by
 unfold aq;rw[Caa h,E,Yda,Zaa];congr 1;have:(c != 98)=true:=by simpa using A
 simp[this]
theorem oP(x:St)(p:Nat)(h:p<(Ii x.kind.toNat).length)(A:(Ii x.kind.toNat)[p]=98):aq x (p+1)=aq x p:=by unfold aq;rw[Caa h,A,Yda,Zaa];simp
theorem gM(x:St):aq x (Ii x.kind.toNat).length=(Gh x.kind.toNat).map (fm x):=by unfold aq Gh;rw[List.take_length]
theorem fM(x:St)(p:Nat):(aq x p).length≤p:=by unfold aq;rw[List.length_map];exact yba (List.length_filter_le _ _) (by rw[List.length_take];omega)
theorem oK:∀ k,k<15→∀ c∈Ii k,c=114∨c=110∨c=101∨c=102∨c=107∨c=98:=by decide
theorem RM:∀ k,k<15→(Ii k).length≤4:=by decide
def kI(w:List UInt8):List (List UInt8)→Nat→List UInt8
 | [],_=>[]
 |q::r,n=>As w n++(q++kI w r (n+1))
theorem XE(w:List UInt8)(x:St):∀ (cs:List UInt8) (n:Nat),Gp w x cs n=kI w (cs.map (fm x)) n
 | [],_=>rfl
 |c::r,n=>by unfold Gp kI;rw[XE w x r (n+1)];rfl
theorem EJ{w:World}{A:Nat}{e:TypeId}{size:Nat}{v:Value}{n:Nat}{E:List Value}(h:w.ownsRow A e size v n E)(k:Nat)(H:k<A)(s:ByteArray)(p:Nat):(w.iterAt k s p).ownsRow A e size v n E :=
 Es (g:=k) h (fun e=>by have:=(h.lt k e).1;omega) (fun j _ G=>Lib.iterAt_other w k j s p G)
theorem lM(x:St)(hx:Pk x)(ev fv:Value)(w:World)(he:Wh w ev x.e)(hf:Wh w fv x.f)(hE:Xj w):Calls maa 206 #[YC x ev fv] w fun e w'=>e = .returned (.string (vh (Lj x)))∧Below w.heap.size w w':=by
 obtain⟨i0,aV,aW,aX,aY⟩:=info_parts zH;have bS:x.kind.toNat<15:=by have:=hx.k1;omega
 have b7:=hx.k0;have bR:=hx.k1;have bh:=kaa (fun u=>yF x.kind u);have bL:Hid (∀ u,Calls maa 229 #[.int .i64 x.kind] u fun e w'=>e = .returned (.string (vh (Ai x.kind.toNat)))∧Below u.heap.size u w'):=fun u=>by have:=UE x.kind.toNat Tf u;rw[show((x.kind.toNat:Nat):Int)=x.kind by omega]at this;exact this
 have bZ:Hid (∀ c∈Ii x.kind.toNat,c=114∨c=110∨c=101∨c=102∨c=107∨c=98):=oK _ bS;have cv:=RM _ bS;have bE:=kaa (YE hx);have bk:=kaa (gu hx);have HJ:Hid (Lj x=Ai x.kind.toNat++kI (Ai x.kind.toNat) ((Gh x.kind.toNat).map (fm x)) 0):=by show _=_;rw[← XE];rfl
 have b0:Hid (∀ u,jj x 101=true→Below w.heap.size w u→Calls maa 60 #[ev] u fun e w'=>e = .returned (.string (vh (Ej x.e)))∧Below u.heap.size u w'):=fun u hc hu=>by have g:=hx.e;rw[if_pos hc]at g;have gE:=ek g;exact vE x.e gE.1 gE.2.1 ev u (aca he hu) (hE.below hu)
 have b1:Hid (∀ u,jj x 102=true→Below w.heap.size w u→Calls maa 60 #[fv] u fun e w'=>e = .returned (.string (vh (Ej x.f)))∧Below u.heap.size u w'):=fun u hc hu=>by have g:=hx.f;rw[if_pos hc]at g;have gF:=ek g;exact vE x.f gF.1 gF.2.1 fv u (aca hf hu) (hE.below hu)
 have b2:Hid (∀ u,jj x 107=true→Below w.heap.size w u→Calls maa 125 #[.int .i64 x.n] u fun e w'=>e = .returned (.string (vh (Paa x.n)))∧Below u.heap.size u w'):=fun u hc hu=>by have g:=hx.t;rw[if_pos hc]at g;exact VC x.n Tf Tf u (hE.below hu)
 obtain⟨A1,c1,rfl,_⟩:=Wh.shape he;obtain⟨A2,c2,rfl,_⟩:=Wh.shape hf;have bI:Hid (SB (w.alloc (.cells #[.int .i64 x.kind,.string (vh x.reg),.string (vh x.name),.slice A1 x.e.length c1,.slice A2 x.f.length c2,.int .i64 x.n,.int .i64 x.body,.int .i64 x.els,.int .i64 x.pos] 44)) w.heap.size x (.slice A1 x.e.length c1) (.slice A2 x.f.length c2)):=vl w x _ _;clear he hf hE hx b7 bR;unfold YC;go_enter Tryz.func206,Tryz.ntmps206;go_wp2_with (go_at_call 196;(with_reducible refine(bh.out _).mono ?_);rintro e w1 ⟨rfl,a7⟩);have a0:=kaa (bI.out.below a7);have Y:Hid (Below w.heap.size w w1):=bt (al w _) a7;obtain⟨pb,bs⟩:∃ pb,Hid (w.heap.size=pb):=⟨_,rfl⟩;have cc:Hid (pb<w1.heap.size):=bs.out▸a0.out.lt;rw[bs.out]at a0 ⊢;clear a7 bI;go_loopw [3] (fun v wr=>∃ (p:Nat) (A:Option Addr) (c:Nat),p≤(Ii x.kind.toNat).length∧v = .slice A (aq x p).length c∧wr.ownsRow (w1.heap.size+1) 9 1 v (aq x p).length ((aq x p).flatMap Mh)∧wr.heap[w1.heap.size]? = some (.stringIter (vh (Ii x.kind.toNat)) p)∧Below w1.heap.size w1 wr) (fun _ wr=>(Ii x.kind.toNat).length - wr.iterPos w1.heap.size);case atStart=>exact⟨0,none,0,laa _,rfl,cF _ _ _ _,World.iter_heap w1 _ 0,al w1 _⟩
 case round =>
  obtain⟨p,A,c,hp,rfl,a5,a9,hb⟩:=hrel;have ao:=kaa a5;have HIT:=kaa a9;have HB:=kaa hb;have cV:Hid (w1.heap.size<wr.heap.size):=(zca.1 a9).1;have b9:=fM x p;have M:Hid ((aq x p).length+1≤maxLen∧((aq x p).length+1)*16≤140737488355328):=by show _∧_;unfold maxLen;constructor<;>omega
  clear a5 a9 hb;by_cases H:p<(Ii x.kind.toNat).length
  ·have bg:p<(vh (Ii x.kind.toNat)).size:=by rw[Dh];exact H
   obtain⟨_,a3⟩:=mn (Ii x.kind.toNat);have bN:=a3 p bg H;have a4:((Ii x.kind.toNat)[p]'H)∈Ii x.kind.toNat:=dba H;have E:=bZ.out _ a4;have hC:∀ d,((Ii x.kind.toNat)[p]'H)=d→jj x d=true:=fun d hd=>by unfold jj;rw[← hd];simp
   have HU0:=kaa (Lib.iterAt_heap wr w1.heap.size (vh (Ii x.kind.toNat)) p (p+1) HIT.out);have ad:=kaa (EJ ao.out w1.heap.size (Nat.lt_succ_self _) (vh (Ii x.kind.toNat)) (p+1));have HBU:=kaa (Lib.below_iterAt HB.out (aaa _) (vh (Ii x.kind.toNat)) (p+1));have G:Hid (∀ d:UInt8,((Ii x.kind.toNat)[p]'H)=d→d.toNat<128→∀ Z,(Zda (.pointer (some ⟨w1.heap.size,0,none⟩)) true Z).run maa wr = .ok (.tuple #[.bool true,.int .i64 p,.int .i32 d.toNat]) (wr.iterAt w1.heap.size (vh (Ii x.kind.toNat)) (p+1))):=fun d hd b8 Z=>by have e:=congrArg UInt8.toNat (bN.trans hd);have:=Lib.run_next_ascii_at (P:=maa) wr w1.heap.size (vh (Ii x.kind.toNat)) p Z HIT.out bg (Nat.lt_of_le_of_lt (Nat.le_of_eq e) b8);exact this.trans (congrArg (fun n:Nat=>Result.ok (Value.tuple #[.bool true,.int .i64 p,.int .i32 (n:Int)]) (wr.iterAt w1.heap.size (vh (Ii x.kind.toNat)) (p+1))) e)
   clear a3 bN a4 HB ao bg;generalize hU:wr.iterAt w1.heap.size (vh (Ii x.kind.toNat)) (p+1)=U at HU0 ad HBU G;have aU:Hid (SB U pb x (.slice A1 x.e.length c1) (.slice A2 x.f.length c2)):=a0.out.below HBU.out;have HSZU:Hid (w1.heap.size<U.heap.size):=(zca.1 HU0.out).1;clear hU;rcases E with E|E|E|E|E|E;·have HPS:=kaa (Hs x p H 114 E Uf);have J:=hC 114 E;have I:=fun Z=>G.out 114 E Uf Z;simp only[aea]at I;clear E G hC J;obtain⟨sl,s0,s1,s2,s3,s4,s5,s6,s7,s8,Q⟩:=aU.out;clear s0 s6 s7 s8 Q s2 s3 s4 s5;go_wp2_with (at_builtin;refine Gk rfl _ _ 38 rfl (w1.heap.size+1) 9 i0 _ 1 16 po aV aW aX aY rfl bea (.slice A (aq x p).length c) (aq x p).length ((aq x p).flatMap Mh) rfl (Ih ad.out (al U _)) (.slice (some ⟨U.heap.size,0,none⟩) 1 1) 1 ([(x.reg)].flatMap Mh) rfl (ns U (x.reg)) (Qp _) M.out.1 M.out.2 (yba HSZU.out (al U _).size) ?_;intro v6 w6 hown6 hb6;obtain⟨A6,c6,rfl⟩:=yh hown6);exact Da
   ·have HPS:=kaa (Hs x p H 110 E Uf);have J:=hC 110 E;have I:=fun Z=>G.out 110 E Uf Z;simp only[aea]at I;clear E G hC J;obtain⟨sl,s0,s1,s2,s3,s4,s5,s6,s7,s8,Q⟩:=aU.out;clear s0 s6 s7 s8 Q s1 s3 s4 s5;go_wp2_with (at_builtin;refine Gk rfl _ _ 38 rfl (w1.heap.size+1) 9 i0 _ 1 16 po aV aW aX aY rfl bea (.slice A (aq x p).length c) (aq x p).length ((aq x p).flatMap Mh) rfl (Ih ad.out (al U _)) (.slice (some ⟨U.heap.size,0,none⟩) 1 1) 1 ([(x.name)].flatMap Mh) rfl (ns U (x.name)) (Qp _) M.out.1 M.out.2 (yba HSZU.out (al U _).size) ?_;intro v6 w6 hown6 hb6;obtain⟨A6,c6,rfl⟩:=yh hown6);exact Da
   ·have HPS:=kaa (Hs x p H 101 E Uf);have J:=hC 101 E;have I:=fun Z=>G.out 101 E Uf Z;simp only[aea]at I;have aT:=kaa (fun u hu=>b0.out u J hu);clear E G hC J;obtain⟨sl,s0,s1,s2,s3,s4,s5,s6,s7,s8,Q⟩:=aU.out;clear s0 s6 s7 s8 Q s1 s2 s4 s5;go_wp2_with (first|(go_at_call 60;(with_reducible refine(aT.out _ (Y.out.trans (HBU.out.mono Y.out.size))).mono ?_);rintro e w3 ⟨rfl,hb3⟩)|(at_builtin;refine Gk rfl _ _ 38 rfl (w1.heap.size+1) 9 i0 _ 1 16 po aV aW aX aY rfl bea (.slice A (aq x p).length c) (aq x p).length ((aq x p).flatMap Mh) rfl (Ih ad.out (ii hb3 _)) (.slice (some ⟨w3.heap.size,0,none⟩) 1 1) 1 ([(Ej x.e)].flatMap Mh) rfl (ns w3 (Ej x.e)) (Qp _) M.out.1 M.out.2 (yba HSZU.out (ii hb3 _).size) ?_;intro v6 w6 hown6 hb6;obtain⟨A6,c6,rfl⟩:=yh hown6));exact Ca
   ·have HPS:=kaa (Hs x p H 102 E Uf);have J:=hC 102 E;have I:=fun Z=>G.out 102 E Uf Z;simp only[aea]at I;have aT:=kaa (fun u hu=>b1.out u J hu);clear E G hC J;obtain⟨sl,s0,s1,s2,s3,s4,s5,s6,s7,s8,Q⟩:=aU.out;clear s0 s6 s7 s8 Q s1 s2 s3 s5;go_wp2_with (first|(go_at_call 60;(with_reducible refine(aT.out _ (Y.out.trans (HBU.out.mono Y.out.size))).mono ?_);rintro e w3 ⟨rfl,hb3⟩)|(at_builtin;refine Gk rfl _ _ 38 rfl (w1.heap.size+1) 9 i0 _ 1 16 po aV aW aX aY rfl bea (.slice A (aq x p).length c) (aq x p).length ((aq x p).flatMap Mh) rfl (Ih ad.out (ii hb3 _)) (.slice (some ⟨w3.heap.size,0,none⟩) 1 1) 1 ([(Ej x.f)].flatMap Mh) rfl (ns w3 (Ej x.f)) (Qp _) M.out.1 M.out.2 (yba HSZU.out (ii hb3 _).size) ?_;intro v6 w6 hown6 hb6;obtain⟨A6,c6,rfl⟩:=yh hown6));exact Ca
   ·have HPS:=kaa (Hs x p H 107 E Uf);have J:=hC 107 E;have I:=fun Z=>G.out 107 E Uf Z;simp only[aea]at I;have aT:=kaa (fun u hu=>b2.out u J hu);clear E G hC J;obtain⟨sl,s0,s1,s2,s3,s4,s5,s6,s7,s8,Q⟩:=aU.out;clear s0 s6 s7 s8 Q s1 s2 s3 s4;go_wp2_with (first|(go_at_call 125;(with_reducible refine(aT.out _ (Y.out.trans (HBU.out.mono Y.out.size))).mono ?_);rintro e w3 ⟨rfl,hb3⟩)|(at_builtin;refine Gk rfl _ _ 38 rfl (w1.heap.size+1) 9 i0 _ 1 16 po aV aW aX aY rfl bea (.slice A (aq x p).length c) (aq x p).length ((aq x p).flatMap Mh) rfl (Ih ad.out (ii hb3 _)) (.slice (some ⟨w3.heap.size,0,none⟩) 1 1) 1 ([(Paa x.n)].flatMap Mh) rfl (ns w3 (Paa x.n)) (Qp _) M.out.1 M.out.2 (yba HSZU.out (ii hb3 _).size) ?_;intro v6 w6 hown6 hb6;obtain⟨A6,c6,rfl⟩:=yh hown6));exact Ca
   ·have HPS:=kaa (oP x p H E);have I:=fun Z=>G.out 98 E Uf Z;simp only[aea]at I;clear E G hC;go_wp2_with fail;go_roundw;case rel=>exact⟨p+1,A,c,by omega,by rw[HPS.out],by rw[HPS.out];exact ad.out,HU0.out,HBU.out⟩
    case measure =>simp only[World.iterPos,HU0.out,HIT.out];omega
  ·have bT:p=(Ii x.kind.toNat).length:=by omega
   have G:Hid (∀ Z,(Zda (.pointer (some ⟨w1.heap.size,0,none⟩)) true Z).run maa wr = .ok (.tuple #[.bool false]) wr):=fun Z=>Lib.run_next_end_at wr w1.heap.size _ p Z HIT.out (by rw[Dh];exact H);have HPS:Hid (aq x p=(Gh x.kind.toNat).map (fm x)):=by show _=_;rw[bT];exact gM x
   have b4:Hid (SB wr pb x (.slice A1 x.e.length c1) (.slice A2 x.f.length c2)):=a0.out.below HB.out;have bU:(aq x p).length≤4:=by omega
   clear H hp bT HIT;have aZ:Hid (Lj x=Ai x.kind.toNat++kI (Ai x.kind.toNat) (aq x p) 0):=by show _=_;rw[HPS.out];exact HJ.out
   have bF:Hid (∀ q∈aq x p,q.length≤800):=fun q hq=>by rw[HPS.out]at hq;obtain⟨d,hd,rfl⟩:=List.mem_map.1 hq;exact bE.out d hd
   clear HPS HJ bE;clear b9;generalize aq x p=ps at ao aZ bF bU M ⊢;generalize Ai x.kind.toNat=W at bL aZ;obtain⟨L,hL⟩:∃ L,Lj x=L:=⟨_,rfl⟩;rw[hL]at aZ bk;have bY:=kaa hL;clear hL;have I:=G.out;obtain⟨sl,s0,s1,s2,s3,s4,s5,s6,s7,s8,Q⟩:=b4.out;clear s1 s2 s3 s4 s5 s6 s7 s8 Q;go_wp2_with (go_at_call 229;(with_reducible refine(bL.out _).mono ?_);rintro e w2 ⟨rfl,a8⟩);have bV:Hid (Below w.heap.size w w2):=Y.out.trans ((HB.out.mono Y.out.size).trans (a8.mono (yba Y.out.size HB.out.size)));have b5:Hid (Tr w2 (.slice A ps.length c) ps):=aca (Ti ao.out) a8;clear a8 I s0 sl;go_loopw [6,60] (fun s i wz=>wz=w2∧∃ (n:Nat) (cur:List UInt8),n≤ps.length∧s = .string (vh cur)∧i = .int .i64 n∧Hid (n=0→cur=W)∧Hid (cur++kI W (ps.drop n) n=L)) (fun _ i _=>ps.length - (intOf i).toNat);case atStart=>exact⟨rfl,0,W,laa _,rfl,rfl,fun _=>rfl,by show _=_;rw[List.drop_zero];exact aZ.out.symm⟩
   case round =>
    obtain⟨rfl,n,cur,hn,rfl,rfl,bW,a6⟩:=hrel;have zC:(vh cur).size≤4000:=by rw[Dh];have:=congrArg List.length a6.out;rw[List.length_append]at this;have:=bk.out;omega
    by_cases bf:n<ps.length
    ·obtain⟨b3,cT,c3,b6,ct,ch,a2⟩:=Tr.at_ (l:=ps) b5.out Tf;cases b6;have av:=a2 n bf;have cx:(n:Int)<(ps.length:Int):=by omega
     have O:=a6.out;rw[List.drop_eq_getElem_cons bf]at O;have hq:=bF.out _ (dba bf);have zQ:(vh ps[n]).size≤800:=by rw[Dh];exact hq
     clear a2 hq;generalize ps[n]=q at av O zQ;unfold kI at O;have n0:(0:Int)≤(n:Int):=Int.natCast_nonneg _;by_cases a1:n=0
     ·subst a1;rw[Nat.add_zero]at av;obtain rfl:=bW.out rfl;cases hw:(vh cur).toList.isEmpty
      ·have af:¬ (cur=[]):=fun e=>by rw[Ah,e]at hw;exact absurd hw Uf
       have cb:¬ ((vh cur).toList=[]):=by rw[Ah];exact af
       have HCN:Hid ((cur++[32]++q)++kI cur (ps.drop (0+1)) (0+1)=L):=by show _=_;rw[← O];unfold As;rw[if_pos rfl,if_neg af];exact Of
       have HVN:Hid (vh cur++vh [32]++vh q=vh (cur++[32]++q)):=by show _=_;simp only[← Sh]
       clear O af;generalize vh q=SQ at av zQ HVN;have f1:¬ (9223372036854775807<(vh cur).size+1+SQ.size):=by omega
       have f2:¬ (9223372036854775807≤(vh cur).size):=by omega
       have f3:(vh cur).size<9223372036854775807:=by omega
       have f4:¬ (9223372036854775806<(vh cur).size):=by omega
       exact Mb
      ·have af:cur=[]:=by rw[Ah]at hw;simpa using hw
       have cb:(vh cur).toList=[]:=by rw[Ah];exact af
       have HCN:Hid ((cur++q)++kI cur (ps.drop (0+1)) (0+1)=L):=by show _=_;rw[← O];unfold As;rw[if_pos rfl,if_pos af,List.nil_append];exact Of
       have HVN:Hid (vh cur++vh q=vh (cur++q)):=by show _=_;simp only[← Sh]
       clear O af;generalize vh q=SQ at av zQ HVN;have f1:¬ (9223372036854775807<(vh cur).size+SQ.size):=by omega
       exact Mb
     ·have e0:((n:Int)==0)=false:=by rw[beq_eq_false_iff_ne];omega
      by_cases bb:n=1
      ·subst bb;have HCN:Hid ((cur++[32,61,32]++q)++kI W (ps.drop (1+1)) (1+1)=L):=by show _=_;rw[← O];unfold As;rw[if_neg Uf,if_pos rfl];exact Of
       have HVN:Hid (vh cur++vh [32,61,32]++vh q=vh (cur++[32,61,32]++q)):=by show _=_;simp only[← Sh]
       clear O;generalize vh q=SQ at av zQ HVN;have f1:¬ (9223372036854775807<(vh cur).size+3+SQ.size):=by omega
       have f2:¬ (9223372036854775807<(vh cur).size+3):=by omega
       have f4:¬ (9223372036854775804<(vh cur).size):=by omega
       go_wp2_with fail;go_roundw;case rel=>exact⟨by trivial,2,_,by omega,congrArg Value.string HVN.out,rfl,fun h=>absurd h Uf,HCN.out⟩
       case measure=>simp[intOf];omega
      ·have e1:((n:Int)==1)=false:=by rw[beq_eq_false_iff_ne];omega
       have g1:(1:Int)<(n:Int):=by omega
       have HCN:Hid ((cur++[44,32]++q)++kI W (ps.drop (n+1)) (n+1)=L):=by show _=_;rw[← O];unfold As;rw[if_neg a1,if_neg bb];exact Of
       have HVN:Hid (vh cur++vh [44,32]++vh q=vh (cur++[44,32]++q)):=by show _=_;simp only[← Sh]
       have cU:=kaa a1;clear O a1 bb;generalize vh q=SQ at av zQ HVN;have f1:¬ (9223372036854775807<(vh cur).size+2+SQ.size):=by omega
       have f2:¬ (9223372036854775807<(vh cur).size+2):=by omega
       have f4:¬ (9223372036854775805<(vh cur).size):=by omega
       go_wp2_with fail;go_roundw;case rel=>exact⟨by trivial,n+1,_,by omega,congrArg Value.string HVN.out,by go_num,fun h=>absurd h Tf,HCN.out⟩
       case measure=>simp[intOf];omega
    ·have cW:n=ps.length:=by omega
     have bX:Hid (vh cur=vh L):=by show _=_;rw[← a6.out,List.drop_eq_nil_of_le Tf];unfold kI;rw[List.append_nil]
     go_wp2_with fail;go_ret;exact⟨Rl (by rw[bX.out,bY.out]),bV.out⟩
end Go.Proofs.YtjcihcncljihoaaGreatDoor

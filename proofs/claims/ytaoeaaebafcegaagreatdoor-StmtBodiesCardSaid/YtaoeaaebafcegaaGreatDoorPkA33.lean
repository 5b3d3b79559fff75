/- Chapter 04 (statements), joined: StrP. -/
import Derived.Test.YtaoeaaebafcegaaGreatDoorPkA25
import Derived.Test.YtaoeaaebafcegaaGreatDoorPkA31
import Derived.Test.YtaoeaaebafcegaaGreatDoorPkA32
import Derived.Lib.OthersKept
set_option maxRecDepth 100000
set_option maxHeartbeats 16000000
namespace Go.Proofs.YtaoeaaebafcegaaGreatDoor
open Go Go.RowKit
set_option linter.unusedVariables false
theorem info_strP:(Tryz.prog.info? 9).map (fun i=>(i.zero,i.size,i.bytes))=some (some (.string ByteArray.empty),1,16):=by kernel_rfl
theorem und_strsP:Tryz.prog.underlying 71 = some (.slice 9):=by kernel_rfl
theorem str_oneP (l:List (List UInt8)):∀ u∈l.flatMap strCell,u.oneCell' = true:=by
 intro u hu
 obtain ⟨x,_,hx⟩:=List.mem_flatMap.1 hu
 simp only [strCell,List.mem_singleton] at hx
 subst hx;rfl
theorem sl_litP (U:World) (s:List UInt8):SlN (U.alloc (.cells #[.string (str s)] 9)) (.slice (some ⟨U.heap.size,0,none⟩) 1 1) 1 1 ([s].flatMap strCell):=by
 have:=sl_lit U [.string (str s)] 9 1 1 1 rfl (Nat.le_refl _)
 simpa [strCell] using this
noncomputable def psS (x:St) (p:Nat):List (List UInt8):=(((hasS x.kind.toNat).take p).filter (fun c=>c != 98)).map (partS x)
theorem psS_add (x:St) (p:Nat) (h:p < (hasS x.kind.toNat).length) (c:UInt8) (hc:(hasS x.kind.toNat)[p] = c) (hne:c≠98):psS x (p+1)=psS x p++[partS x c]:=by
 unfold psS
 rw [List.take_succ_eq_append_getElem h,hc,List.filter_append,List.map_append]
 congr 1
 have:(c != 98)=true:=by simpa using hne
 simp [this]
theorem psS_b (x:St) (p:Nat) (h:p < (hasS x.kind.toNat).length) (hc:(hasS x.kind.toNat)[p] = 98):psS x (p+1)=psS x p:=by
 unfold psS
 rw [List.take_succ_eq_append_getElem h,hc,List.filter_append,List.map_append]
 simp
theorem psS_all (x:St):psS x (hasS x.kind.toNat).length=(lettS x.kind.toNat).map (partS x):=by
 unfold psS lettS
 rw [List.take_length]
theorem psS_len (x:St) (p:Nat):(psS x p).length≤p:=by
 unfold psS
 rw [List.length_map]
 exact Nat.le_trans (List.length_filter_le _ _) (by rw [List.length_take];omega)
theorem has_lett:∀ k,k < 15→∀ c∈hasS k,c=114∨c=110∨c=101∨c=102∨c=107∨c=98:=by decide
theorem has_len:∀ k,k < 15→(hasS k).length≤4:=by decide
def jnS (w : List UInt8) : List (List UInt8) → Nat → List UInt8
  | [], _ => []
  | q :: r, n => sepS w n ++ (q ++ jnS w r (n + 1))
theorem pieS_jn (w : List UInt8) (x : St) : ∀ (cs : List UInt8) (n : Nat), pieS w x cs n = jnS w (cs.map (partS x)) n
  | [], _ => rfl
  | c :: r, n => by unfold pieS jnS; rw [pieS_jn w x r (n + 1)]; rfl
theorem own_iter {w:World} {base:Nat} {e:TypeId} {size:Nat} {v:Value} {n:Nat} {xs:List Value} (h:w.ownsRow base e size v n xs) (k:Nat) (hk:k < base) (s:ByteArray) (p:Nat):(w.iterAt k s p).ownsRow base e size v n xs :=
 row_keep (g:=k) h (fun e=>by have:=(h.lt k e).1;omega) (fun j _ hj=>Lib.iterAt_other w k j s p hj)
theorem pline_c (x:St) (hx:Fits x) (ev fv:Value) (w:World) (he:Nods w ev x.e) (hf:Nods w fv x.f) (hE:Env w) :
 Calls Tryz.prog 66 #[stV x ev fv] w fun e w'=>e = .returned (.string (str (lineS x)))∧Below w.heap.size w w':=by
 obtain ⟨i0,hi0,hz0,hz1,hz2⟩:=info_parts info_strP
 have hkr:x.kind.toNat < 15:=by have:=hx.k1;omega
 have hk0:=hx.k0
 have hk14:=hx.k1
 have HHAS:=Lib.hid (fun u=>has_any x.kind u)
 have HWD:Hid (∀ u,Calls Tryz.prog 95 #[.int .i64 x.kind] u fun e w'=>e = .returned (.string (str (wordS x.kind.toNat)))∧Below u.heap.size u w'):=fun u=>by
  have:=pword_c x.kind.toNat (by omega) u
  rw [show ((x.kind.toNat:Nat):Int)=x.kind by omega] at this
  exact this
 have HLT:Hid (∀ c∈hasS x.kind.toNat,c=114∨c=110∨c=101∨c=102∨c=107∨c=98):=has_lett _ hkr
 have hlen:=has_len _ hkr
 have HPL:=Lib.hid (part_le hx)
 have HLL:=Lib.hid (lineS_len hx)
 have HJ:Hid (lineS x=wordS x.kind.toNat++jnS (wordS x.kind.toNat) ((lettS x.kind.toNat).map (partS x)) 0):=by show _=_;rw [← pieS_jn];rfl
 have HSE:Hid (∀ u,hasC x 101=true→Below w.heap.size w u→Calls Tryz.prog 93 #[ev] u fun e w'=>e = .returned (.string (str (showE x.e)))∧Below u.heap.size u w'):=fun u hc hu=>by
  have g:=hx.e
  rw [if_pos hc] at g
  have gE:=right_small g
  exact Show_c x.e gE.1 gE.2.1 ev u (SlN.below he hu) (hE.below hu)
 have HSF:Hid (∀ u,hasC x 102=true→Below w.heap.size w u→Calls Tryz.prog 93 #[fv] u fun e w'=>e = .returned (.string (str (showE x.f)))∧Below u.heap.size u w'):=fun u hc hu=>by
  have g:=hx.f
  rw [if_pos hc] at g
  have gF:=right_small g
  exact Show_c x.f gF.1 gF.2.1 fv u (SlN.below hf hu) (hE.below hu)
 have HSK:Hid (∀ u,hasC x 107=true→Below w.heap.size w u→Calls Tryz.prog 94 #[.int .i64 x.n] u fun e w'=>e = .returned (.string (str (Lib.itoa x.n)))∧Below u.heap.size u w'):=fun u hc hu=>by
  have g:=hx.t
  rw [if_pos hc] at g
  exact text_c x.n (by omega) (by omega) u (hE.below hu)
 obtain ⟨A1,c1,rfl,_⟩:=Nods.shape he
 obtain ⟨A2,c2,rfl,_⟩:=Nods.shape hf
 have HSB:Hid (SB (w.alloc (.cells #[.int .i64 x.kind,.string (str x.reg),.string (str x.name),.slice A1 x.e.length c1,.slice A2 x.f.length c2,.int .i64 x.n,.int .i64 x.body,.int .i64 x.els,.int .i64 x.pos] 31)) w.heap.size x (.slice A1 x.e.length c1) (.slice A2 x.f.length c2)):=sb_new w x _ _
 clear he hf hE hx hk0 hk14
 unfold stV
 go_enter Tryz.func66,Tryz.ntmps66
 go_wp2_with (go_at_call 22;(with_reducible refine (HHAS.out _).mono ?_);rintro e w1 ⟨rfl,hb1⟩)
 have HS1:=Lib.hid (HSB.out.below hb1)
 have HB1:Hid (Below w.heap.size w w1):=bt (al w _) hb1
 obtain ⟨pb,HPB⟩:∃ pb,Hid (w.heap.size=pb):=⟨_,rfl⟩
 have HPBL:Hid (pb < w1.heap.size):=HPB.out ▸ HS1.out.lt
 rw [HPB.out] at HS1 ⊢
 clear hb1 HSB
 go_loopw [3] (fun v wr=>∃ (p:Nat) (A:Option Addr) (c:Nat),p≤(hasS x.kind.toNat).length∧v = .slice A (psS x p).length c∧wr.ownsRow (w1.heap.size+1) 9 1 v (psS x p).length ((psS x p).flatMap strCell)∧wr.heap[w1.heap.size]? = some (.stringIter (str (hasS x.kind.toNat)) p)∧Below w1.heap.size w1 wr) (fun _ wr=>(hasS x.kind.toNat).length - wr.iterPos w1.heap.size)
 case atStart=>exact ⟨0,none,0,Nat.zero_le _,rfl,own_nil _ _ _ _,World.iter_heap w1 _ 0,al w1 _⟩
 case round =>
  obtain ⟨p,A,c,hp,rfl,hown,hit,hb⟩:=hrel
  have HOWN:=Lib.hid hown
  have HIT:=Lib.hid hit
  have HB:=Lib.hid hb
  have HSZ:Hid (w1.heap.size < wr.heap.size):=(Array.getElem?_eq_some_iff.1 hit).1
  have hsl:=psS_len x p
  have HT4:Hid ((psS x p).length+1≤maxLen∧((psS x p).length+1)*16≤140737488355328):=by show _∧_;unfold maxLen;constructor <;> omega
  clear hown hit hb
  by_cases hpl:p < (hasS x.kind.toNat).length
  ·have hps:p < (str (hasS x.kind.toNat)).size:=by rw [str_size];exact hpl
   obtain ⟨_,hget⟩:=str_get (hasS x.kind.toNat)
   have hge:=hget p hps hpl
   have hmem:((hasS x.kind.toNat)[p]'hpl)∈hasS x.kind.toNat:=List.getElem_mem hpl
   have hcc:=HLT.out _ hmem
   have hC:∀ d,((hasS x.kind.toNat)[p]'hpl)=d→hasC x d=true:=fun d hd=>by unfold hasC;rw [← hd];simp
   have HU0:=Lib.hid (Lib.iterAt_heap wr w1.heap.size (str (hasS x.kind.toNat)) p (p+1) HIT.out)
   have HOU:=Lib.hid (own_iter HOWN.out w1.heap.size (Nat.lt_succ_self _) (str (hasS x.kind.toNat)) (p+1))
   have HBU:=Lib.hid (Lib.below_iterAt HB.out (Nat.le_refl _) (str (hasS x.kind.toNat)) (p+1))
   have HNX:Hid (∀ d:UInt8,((hasS x.kind.toNat)[p]'hpl)=d→d.toNat < 128→∀ ty,(Instr.next (.pointer (some ⟨w1.heap.size,0,none⟩)) true ty).run Tryz.prog wr = .ok (.tuple #[.bool true,.int .i64 p,.int .i32 d.toNat]) (wr.iterAt w1.heap.size (str (hasS x.kind.toNat)) (p+1))):=fun d hd hlt ty=>by
    have e:=congrArg UInt8.toNat (hge.trans hd)
    have:=Lib.run_next_ascii_at (P:=Tryz.prog) wr w1.heap.size (str (hasS x.kind.toNat)) p ty HIT.out hps (Nat.lt_of_le_of_lt (Nat.le_of_eq e) hlt)
    exact this.trans (congrArg (fun n:Nat=>Result.ok (Value.tuple #[.bool true,.int .i64 p,.int .i32 (n:Int)]) (wr.iterAt w1.heap.size (str (hasS x.kind.toNat)) (p+1))) e)
   clear hget hge hmem HB HOWN hps
   generalize hU:wr.iterAt w1.heap.size (str (hasS x.kind.toNat)) (p+1)=U at HU0 HOU HBU HNX
   have HSU:Hid (SB U pb x (.slice A1 x.e.length c1) (.slice A2 x.f.length c2)):=HS1.out.below HBU.out
   have HSZU:Hid (w1.heap.size < U.heap.size):=(Array.getElem?_eq_some_iff.1 HU0.out).1
   clear hU
   rcases hcc with hcc | hcc | hcc | hcc | hcc | hcc
   ·have HPS:=Lib.hid (psS_add x p hpl 114 hcc (by decide))
    have hCC:=hC 114 hcc
    have hnx:=fun ty=>HNX.out 114 hcc (by decide) ty
    simp only [UInt8.reduceToNat] at hnx
    clear hcc HNX hC hCC
    obtain ⟨sl,s0,s1,s2,s3,s4,s5,s6,s7,s8,sfr⟩:=HSU.out
    clear s0 s6 s7 s8 sfr s2 s3 s4 s5
    go_wp2_with (at_builtin;refine wpl_app rfl _ _ 71 rfl (w1.heap.size+1) 9 i0 _ 1 16 und_strsP hi0 hz0 hz1 hz2 rfl Nat.zero_lt_one (.slice A (psS x p).length c) (psS x p).length ((psS x p).flatMap strCell) rfl (own_below HOU.out (al U _)) (.slice (some ⟨U.heap.size,0,none⟩) 1 1) 1 ([(x.reg)].flatMap strCell) rfl (sl_litP U (x.reg)) (str_oneP _) HT4.out.1 HT4.out.2 (Nat.le_trans HSZU.out (al U _).size) ?_;intro v6 w6 hown6 hb6;obtain ⟨A6,c6,rfl⟩:=own_shape hown6)
    have HI6:Hid (w6.heap[w1.heap.size]? = some (.stringIter (str (hasS x.kind.toNat)) (p+1))):=(hb6.block _ (Nat.lt_succ_self _)).trans ((al U _).block _ HSZU.out |>.trans HU0.out)
    have HB6:Hid (Below w1.heap.size w1 w6):=HBU.out.trans (((al U _).mono (Nat.le_of_lt HSZU.out)).trans (hb6.mono (Nat.le_succ _)))
    have HO6:=Lib.hid hown6
    clear hown6
    go_wp2_with fail
    go_roundw
    case rel=>exact ⟨p+1,A6,c6,by omega,by rw [HPS.out,List.length_append];rfl,by rw [HPS.out,List.length_append,List.flatMap_append];exact HO6.out,HI6.out,HB6.out⟩
    case measure =>
     simp only [World.iterPos,HI6.out,HIT.out]
     omega
   ·have HPS:=Lib.hid (psS_add x p hpl 110 hcc (by decide))
    have hCC:=hC 110 hcc
    have hnx:=fun ty=>HNX.out 110 hcc (by decide) ty
    simp only [UInt8.reduceToNat] at hnx
    clear hcc HNX hC hCC
    obtain ⟨sl,s0,s1,s2,s3,s4,s5,s6,s7,s8,sfr⟩:=HSU.out
    clear s0 s6 s7 s8 sfr s1 s3 s4 s5
    go_wp2_with (at_builtin;refine wpl_app rfl _ _ 71 rfl (w1.heap.size+1) 9 i0 _ 1 16 und_strsP hi0 hz0 hz1 hz2 rfl Nat.zero_lt_one (.slice A (psS x p).length c) (psS x p).length ((psS x p).flatMap strCell) rfl (own_below HOU.out (al U _)) (.slice (some ⟨U.heap.size,0,none⟩) 1 1) 1 ([(x.name)].flatMap strCell) rfl (sl_litP U (x.name)) (str_oneP _) HT4.out.1 HT4.out.2 (Nat.le_trans HSZU.out (al U _).size) ?_;intro v6 w6 hown6 hb6;obtain ⟨A6,c6,rfl⟩:=own_shape hown6)
    have HI6:Hid (w6.heap[w1.heap.size]? = some (.stringIter (str (hasS x.kind.toNat)) (p+1))):=(hb6.block _ (Nat.lt_succ_self _)).trans ((al U _).block _ HSZU.out |>.trans HU0.out)
    have HB6:Hid (Below w1.heap.size w1 w6):=HBU.out.trans (((al U _).mono (Nat.le_of_lt HSZU.out)).trans (hb6.mono (Nat.le_succ _)))
    have HO6:=Lib.hid hown6
    clear hown6
    go_wp2_with fail
    go_roundw
    case rel=>exact ⟨p+1,A6,c6,by omega,by rw [HPS.out,List.length_append];rfl,by rw [HPS.out,List.length_append,List.flatMap_append];exact HO6.out,HI6.out,HB6.out⟩
    case measure =>
     simp only [World.iterPos,HI6.out,HIT.out]
     omega
   ·have HPS:=Lib.hid (psS_add x p hpl 101 hcc (by decide))
    have hCC:=hC 101 hcc
    have hnx:=fun ty=>HNX.out 101 hcc (by decide) ty
    simp only [UInt8.reduceToNat] at hnx
    have HCL:=Lib.hid (fun u hu=>HSE.out u hCC hu)
    clear hcc HNX hC hCC
    obtain ⟨sl,s0,s1,s2,s3,s4,s5,s6,s7,s8,sfr⟩:=HSU.out
    clear s0 s6 s7 s8 sfr s1 s2 s4 s5
    go_wp2_with (first | (go_at_call 93;(with_reducible refine (HCL.out _ (HB1.out.trans (HBU.out.mono HB1.out.size))).mono ?_);rintro e w3 ⟨rfl,hb3⟩) | (at_builtin;refine wpl_app rfl _ _ 71 rfl (w1.heap.size+1) 9 i0 _ 1 16 und_strsP hi0 hz0 hz1 hz2 rfl Nat.zero_lt_one (.slice A (psS x p).length c) (psS x p).length ((psS x p).flatMap strCell) rfl (own_below HOU.out (balloc hb3 _)) (.slice (some ⟨w3.heap.size,0,none⟩) 1 1) 1 ([(showE x.e)].flatMap strCell) rfl (sl_litP w3 (showE x.e)) (str_oneP _) HT4.out.1 HT4.out.2 (Nat.le_trans HSZU.out (balloc hb3 _).size) ?_;intro v6 w6 hown6 hb6;obtain ⟨A6,c6,rfl⟩:=own_shape hown6))
    have HI6:Hid (w6.heap[w1.heap.size]? = some (.stringIter (str (hasS x.kind.toNat)) (p+1))):=(hb6.block _ (Nat.lt_succ_self _)).trans ((balloc hb3 _).block _ HSZU.out |>.trans HU0.out)
    have HB6:Hid (Below w1.heap.size w1 w6):=HBU.out.trans (((balloc hb3 _).mono (Nat.le_of_lt HSZU.out)).trans (hb6.mono (Nat.le_succ _)))
    have HO6:=Lib.hid hown6
    clear hown6
    go_wp2_with fail
    go_roundw
    case rel=>exact ⟨p+1,A6,c6,by omega,by rw [HPS.out,List.length_append];rfl,by rw [HPS.out,List.length_append,List.flatMap_append];exact HO6.out,HI6.out,HB6.out⟩
    case measure =>
     simp only [World.iterPos,HI6.out,HIT.out]
     omega
   ·have HPS:=Lib.hid (psS_add x p hpl 102 hcc (by decide))
    have hCC:=hC 102 hcc
    have hnx:=fun ty=>HNX.out 102 hcc (by decide) ty
    simp only [UInt8.reduceToNat] at hnx
    have HCL:=Lib.hid (fun u hu=>HSF.out u hCC hu)
    clear hcc HNX hC hCC
    obtain ⟨sl,s0,s1,s2,s3,s4,s5,s6,s7,s8,sfr⟩:=HSU.out
    clear s0 s6 s7 s8 sfr s1 s2 s3 s5
    go_wp2_with (first | (go_at_call 93;(with_reducible refine (HCL.out _ (HB1.out.trans (HBU.out.mono HB1.out.size))).mono ?_);rintro e w3 ⟨rfl,hb3⟩) | (at_builtin;refine wpl_app rfl _ _ 71 rfl (w1.heap.size+1) 9 i0 _ 1 16 und_strsP hi0 hz0 hz1 hz2 rfl Nat.zero_lt_one (.slice A (psS x p).length c) (psS x p).length ((psS x p).flatMap strCell) rfl (own_below HOU.out (balloc hb3 _)) (.slice (some ⟨w3.heap.size,0,none⟩) 1 1) 1 ([(showE x.f)].flatMap strCell) rfl (sl_litP w3 (showE x.f)) (str_oneP _) HT4.out.1 HT4.out.2 (Nat.le_trans HSZU.out (balloc hb3 _).size) ?_;intro v6 w6 hown6 hb6;obtain ⟨A6,c6,rfl⟩:=own_shape hown6))
    have HI6:Hid (w6.heap[w1.heap.size]? = some (.stringIter (str (hasS x.kind.toNat)) (p+1))):=(hb6.block _ (Nat.lt_succ_self _)).trans ((balloc hb3 _).block _ HSZU.out |>.trans HU0.out)
    have HB6:Hid (Below w1.heap.size w1 w6):=HBU.out.trans (((balloc hb3 _).mono (Nat.le_of_lt HSZU.out)).trans (hb6.mono (Nat.le_succ _)))
    have HO6:=Lib.hid hown6
    clear hown6
    go_wp2_with fail
    go_roundw
    case rel=>exact ⟨p+1,A6,c6,by omega,by rw [HPS.out,List.length_append];rfl,by rw [HPS.out,List.length_append,List.flatMap_append];exact HO6.out,HI6.out,HB6.out⟩
    case measure =>
     simp only [World.iterPos,HI6.out,HIT.out]
     omega
   ·have HPS:=Lib.hid (psS_add x p hpl 107 hcc (by decide))
    have hCC:=hC 107 hcc
    have hnx:=fun ty=>HNX.out 107 hcc (by decide) ty
    simp only [UInt8.reduceToNat] at hnx
    have HCL:=Lib.hid (fun u hu=>HSK.out u hCC hu)
    clear hcc HNX hC hCC
    obtain ⟨sl,s0,s1,s2,s3,s4,s5,s6,s7,s8,sfr⟩:=HSU.out
    clear s0 s6 s7 s8 sfr s1 s2 s3 s4
    go_wp2_with (first | (go_at_call 94;(with_reducible refine (HCL.out _ (HB1.out.trans (HBU.out.mono HB1.out.size))).mono ?_);rintro e w3 ⟨rfl,hb3⟩) | (at_builtin;refine wpl_app rfl _ _ 71 rfl (w1.heap.size+1) 9 i0 _ 1 16 und_strsP hi0 hz0 hz1 hz2 rfl Nat.zero_lt_one (.slice A (psS x p).length c) (psS x p).length ((psS x p).flatMap strCell) rfl (own_below HOU.out (balloc hb3 _)) (.slice (some ⟨w3.heap.size,0,none⟩) 1 1) 1 ([(Lib.itoa x.n)].flatMap strCell) rfl (sl_litP w3 (Lib.itoa x.n)) (str_oneP _) HT4.out.1 HT4.out.2 (Nat.le_trans HSZU.out (balloc hb3 _).size) ?_;intro v6 w6 hown6 hb6;obtain ⟨A6,c6,rfl⟩:=own_shape hown6))
    have HI6:Hid (w6.heap[w1.heap.size]? = some (.stringIter (str (hasS x.kind.toNat)) (p+1))):=(hb6.block _ (Nat.lt_succ_self _)).trans ((balloc hb3 _).block _ HSZU.out |>.trans HU0.out)
    have HB6:Hid (Below w1.heap.size w1 w6):=HBU.out.trans (((balloc hb3 _).mono (Nat.le_of_lt HSZU.out)).trans (hb6.mono (Nat.le_succ _)))
    have HO6:=Lib.hid hown6
    clear hown6
    go_wp2_with fail
    go_roundw
    case rel=>exact ⟨p+1,A6,c6,by omega,by rw [HPS.out,List.length_append];rfl,by rw [HPS.out,List.length_append,List.flatMap_append];exact HO6.out,HI6.out,HB6.out⟩
    case measure =>
     simp only [World.iterPos,HI6.out,HIT.out]
     omega
   ·have HPS:=Lib.hid (psS_b x p hpl hcc)
    have hnx:=fun ty=>HNX.out 98 hcc (by decide) ty
    simp only [UInt8.reduceToNat] at hnx
    clear hcc HNX hC
    go_wp2_with fail
    go_roundw
    case rel=>exact ⟨p+1,A,c,by omega,by rw [HPS.out],by rw [HPS.out];exact HOU.out,HU0.out,HBU.out⟩
    case measure =>
     simp only [World.iterPos,HU0.out,HIT.out]
     omega
  ·have hpe:p=(hasS x.kind.toNat).length:=by omega
   have HNX:Hid (∀ ty,(Instr.next (.pointer (some ⟨w1.heap.size,0,none⟩)) true ty).run Tryz.prog wr = .ok (.tuple #[.bool false]) wr):=fun ty=>Lib.run_next_end_at wr w1.heap.size _ p ty HIT.out (by rw [str_size];exact hpl)
   have HPS:Hid (psS x p=(lettS x.kind.toNat).map (partS x)):=by show _=_;rw [hpe];exact psS_all x
   have HSR:Hid (SB wr pb x (.slice A1 x.e.length c1) (.slice A2 x.f.length c2)):=HS1.out.below HB.out
   have hps4:(psS x p).length≤4:=by omega
   clear hpl hp hpe HIT
   have HJ2:Hid (lineS x=wordS x.kind.toNat++jnS (wordS x.kind.toNat) (psS x p) 0):=by show _=_;rw [HPS.out];exact HJ.out
   have HQL:Hid (∀ q∈psS x p,q.length≤800):=fun q hq=>by
    rw [HPS.out] at hq
    obtain ⟨d,hd,rfl⟩:=List.mem_map.1 hq
    exact HPL.out d hd
   clear HPS HJ HPL
   clear hsl
   generalize psS x p=ps at HOWN HJ2 HQL hps4 HT4 ⊢
   generalize wordS x.kind.toNat=W at HWD HJ2
   obtain ⟨L,hL⟩:∃ L,lineS x=L:=⟨_,rfl⟩
   rw [hL] at HJ2 HLL
   have HL0:=Lib.hid hL
   clear hL
   have hnx:=HNX.out
   obtain ⟨sl,s0,s1,s2,s3,s4,s5,s6,s7,s8,sfr⟩:=HSR.out
   clear s1 s2 s3 s4 s5 s6 s7 s8 sfr
   go_wp2_with (go_at_call 95;(with_reducible refine (HWD.out _).mono ?_);rintro e w2 ⟨rfl,hb2⟩)
   have HB2:Hid (Below w.heap.size w w2):=HB1.out.trans ((HB.out.mono HB1.out.size).trans (hb2.mono (Nat.le_trans HB1.out.size HB.out.size)))
   have HST:Hid (Strs w2 (.slice A ps.length c) ps):=SlN.below (sl_of_own HOWN.out) hb2
   clear hb2 hnx s0 sl
   go_loopw [6,60] (fun s i wz=>wz=w2∧∃ (n:Nat) (cur:List UInt8),n≤ps.length∧s = .string (str cur)∧i = .int .i64 n∧Hid (n=0→cur=W)∧Hid (cur++jnS W (ps.drop n) n=L)) (fun _ i _=>ps.length - (intOf i).toNat)
   case atStart=>exact ⟨rfl,0,W,Nat.zero_le _,rfl,rfl,fun _=>rfl,by show _=_;rw [List.drop_zero];exact HJ2.out.symm⟩
   case round =>
    obtain ⟨rfl,n,cur,hn,rfl,rfl,HC0,HCU⟩:=hrel
    have zC:(str cur).size≤4000:=by
     rw [str_size]
     have:=congrArg List.length HCU.out
     rw [List.length_append] at this
     have:=HLL.out
     omega
    by_cases hnl:n < ps.length
    ·obtain ⟨b3,off3,c3,hE3,hcc3,hbt3,hat3⟩:=Strs.at_ (l:=ps) HST.out (by omega)
     cases hE3
     have hy0:=hat3 n hnl
     have hnl2:(n:Int) < (ps.length:Int):=by omega
     have hcu:=HCU.out
     rw [List.drop_eq_getElem_cons hnl] at hcu
     have hq:=HQL.out _ (List.getElem_mem hnl)
     have zQ:(str ps[n]).size≤800:=by rw [str_size];exact hq
     clear hat3 hq
     generalize ps[n] = q at hy0 hcu zQ
     unfold jnS at hcu
     have n0:(0:Int)≤(n:Int):=Int.natCast_nonneg _
     by_cases hn0:n=0
     ·subst hn0
      rw [Nat.add_zero] at hy0
      obtain rfl:=HC0.out rfl
      cases hw:(str cur).toList.isEmpty
      ·have hw2:¬ (cur = []):=fun e=>by rw [str_toList,e] at hw;exact absurd hw (by decide)
       have hw3:¬ ((str cur).toList = []):=by rw [str_toList];exact hw2
       have HCN:Hid ((cur++[32]++q)++jnS cur (ps.drop (0+1)) (0+1)=L):=by
        show _=_
        rw [← hcu]
        unfold sepS
        rw [if_pos rfl,if_neg hw2]
        simp only [List.append_assoc]
       have HVN:Hid (str cur++str [32]++str q=str (cur++[32]++q)):=by show _=_;simp only [← str_app]
       clear hcu hw2
       generalize str q=SQ at hy0 zQ HVN
       have f1:¬ (9223372036854775807 < (str cur).size+1+SQ.size):=by omega
       have f2:¬ (9223372036854775807≤(str cur).size):=by omega
       have f3:(str cur).size < 9223372036854775807:=by omega
       have f4:¬ (9223372036854775806 < (str cur).size):=by omega
       go_wp2_with fail
       go_roundw
       case rel=>exact ⟨by trivial,1,_,by omega,congrArg Value.string HVN.out,rfl,fun h=>absurd h (by decide),HCN.out⟩
       case measure=>simp [intOf];omega
      ·have hw2:cur = []:=by rw [str_toList] at hw;simpa using hw
       have hw3:(str cur).toList = []:=by rw [str_toList];exact hw2
       have HCN:Hid ((cur++q)++jnS cur (ps.drop (0+1)) (0+1)=L):=by
        show _=_
        rw [← hcu]
        unfold sepS
        rw [if_pos rfl,if_pos hw2,List.nil_append]
        simp only [List.append_assoc]
       have HVN:Hid (str cur++str q=str (cur++q)):=by show _=_;simp only [← str_app]
       clear hcu hw2
       generalize str q=SQ at hy0 zQ HVN
       have f1:¬ (9223372036854775807 < (str cur).size+SQ.size):=by omega
       go_wp2_with fail
       go_roundw
       case rel=>exact ⟨by trivial,1,_,by omega,congrArg Value.string HVN.out,rfl,fun h=>absurd h (by decide),HCN.out⟩
       case measure=>simp [intOf];omega
     ·have e0:((n:Int) == 0)=false:=by rw [beq_eq_false_iff_ne];omega
      by_cases hn1:n=1
      ·subst hn1
       have HCN:Hid ((cur++[32,61,32]++q)++jnS W (ps.drop (1+1)) (1+1)=L):=by
        show _=_
        rw [← hcu]
        unfold sepS
        rw [if_neg (by decide),if_pos rfl]
        simp only [List.append_assoc]
       have HVN:Hid (str cur++str [32,61,32]++str q=str (cur++[32,61,32]++q)):=by show _=_;simp only [← str_app]
       clear hcu
       generalize str q=SQ at hy0 zQ HVN
       have f1:¬ (9223372036854775807 < (str cur).size+3+SQ.size):=by omega
       have f2:¬ (9223372036854775807 < (str cur).size+3):=by omega
       have f4:¬ (9223372036854775804 < (str cur).size):=by omega
       go_wp2_with fail
       go_roundw
       case rel=>exact ⟨by trivial,2,_,by omega,congrArg Value.string HVN.out,rfl,fun h=>absurd h (by decide),HCN.out⟩
       case measure=>simp [intOf];omega
      ·have e1:((n:Int) == 1)=false:=by rw [beq_eq_false_iff_ne];omega
       have g1:(1:Int) < (n:Int):=by omega
       have HCN:Hid ((cur++[44,32]++q)++jnS W (ps.drop (n+1)) (n+1)=L):=by
        show _=_
        rw [← hcu]
        unfold sepS
        rw [if_neg hn0,if_neg hn1]
        simp only [List.append_assoc]
       have HVN:Hid (str cur++str [44,32]++str q=str (cur++[44,32]++q)):=by show _=_;simp only [← str_app]
       have HNN:=Lib.hid hn0
       clear hcu hn0 hn1
       generalize str q=SQ at hy0 zQ HVN
       have f1:¬ (9223372036854775807 < (str cur).size+2+SQ.size):=by omega
       have f2:¬ (9223372036854775807 < (str cur).size+2):=by omega
       have f4:¬ (9223372036854775805 < (str cur).size):=by omega
       go_wp2_with fail
       go_roundw
       case rel=>exact ⟨by trivial,n+1,_,by omega,congrArg Value.string HVN.out,by go_num,fun h=>absurd h (by omega),HCN.out⟩
       case measure=>simp [intOf];omega
    ·have hne:n=ps.length:=by omega
     have HCE:Hid (str cur=str L):=by
      show _=_
      rw [← HCU.out,List.drop_eq_nil_of_le (by omega)]
      unfold jnS
      rw [List.append_nil]
     go_wp2_with fail
     go_ret
     exact ⟨ret_str (by rw [HCE.out,HL0.out]),HB2.out⟩
end Go.Proofs.YtaoeaaebafcegaaGreatDoor

/- Chapter 04 (statements), joined: StrJ, StrK, StrO. -/
import Derived.Test.YtaoeaaebafcegaaGreatDoorPkA17
import Derived.Test.YtaoeaaebafcegaaGreatDoorPkA25
import Derived.IntWalk
set_option maxRecDepth 100000
set_option maxHeartbeats 16000000
namespace Go.Proofs.YtaoeaaebafcegaaGreatDoor
open Go Go.RowKit
set_option linter.unusedVariables false
theorem size_stmt (u:World):(sizeOf 31).run Tryz.prog u = .ok 9 u:=by kernel_rfl
theorem und_stmts:Tryz.prog.underlying 24 = some (.slice (Tryz.prog.elem 24)):=by kernel_rfl
theorem elem_stmts:Tryz.prog.elem 24 = 31:=by kernel_rfl
theorem slice_st (A:Option Addr) (len cap lo hi:Nat) (h1:lo≤hi) (h2:hi≤cap) (a b:Int) (ha:a=lo) (hb:b=hi) (u:World) :
 (Instr.slice 24 (.slice A len cap) (some (.int .i64 a)) (some (.int .i64 b)) none).run Tryz.prog u = .ok (.slice (if cap=lo then A else A.map (·.add (lo*9))) (hi - lo) (cap - lo)) u:=by
 subst ha hb
 rw [run_slice_lh u _ A len cap und_stmts .i64 .i64 _ _ (by omega) (by omega) (by omega),elem_stmts,size_stmt]
 simp only [Result.andThen,sliced,Int.toNat_natCast]
theorem Svs.cut {w:World} {A:Option Addr} {n c:Nat} {pl:List Sv} (h:Svs w (.slice A n c) pl) (i k:Nat) (hik:i+k≤pl.length) (a b:Int) (ha:a=i) (hb:b=(i+k:Nat)) :
 ∃ A' c',(∀ u,(Instr.slice 24 (.slice A n c) (some (.int .i64 a)) (some (.int .i64 b)) none).run Tryz.prog u = .ok (.slice A' k c') u)∧Svs w (.slice A' k c') ((pl.drop i).take k):=by
 obtain ⟨A0,c0,hv,hc⟩:=h.shape
 cases hv
 refine ⟨_,_,fun u=>by rw [slice_st A pl.length c i (i+k) (by omega) (by omega) a b ha hb u,Nat.add_sub_cancel_left],?_⟩
 by_cases hk:k=0
 ·subst hk
  rw [List.take_zero]
  exact svs_nil _ _ _
 ·obtain ⟨b0,off,c1,hv,hcc,hlt,_⟩:=h.at_ (by omega)
  cases hv
  rw [if_neg (by omega)]
  have e:(⟨b0,off,none⟩:Addr).add (i*9)=⟨b0,off+i*9,none⟩:=by
   unfold Addr.add
   split
   ·rename_i h0;rw [h0];rfl
   ·rfl
  have:=h.sub i k (c - i) hik (by omega)
  rw [← e] at this
  exact this
theorem Rd.deep_le {b:Bool} {l:List St} {d:Nat} (h:Rd b l d):d≤l.length:=by
 induction h with
 | nil=>exact Nat.zero_le _
 | leaf _ _ _ _ _ _ ih=>simp only [List.length_cons];omega
 | ifs _ _ _ _ _ _ i1 i2 i3=>simp only [List.length_cons,List.length_append];omega
 | loop _ _ _ _ _ i1 i2=>simp only [List.length_cons,List.length_append];omega
theorem dpS_le (b:Bool) (l:List St):dpS b l≤l.length:=by
 by_cases h:0≤dpS b l
 ·have:=(deepF_rd l.length b l (Nat.le_refl _) h).deep_le
  unfold dpS at *
  omega
 ·omega
theorem sv_map {pl:List Sv} {j:Nat} (h:j < pl.length):(pl.map (·.s))[j]'(by simpa using h)=(pl[j]).s:=by simp
theorem part_map (pl:List Sv) (i k:Nat):((pl.drop i).take k).map (·.s)=((pl.map (·.s)).drop i).take k:=by rw [List.map_take,List.map_drop]
def DeepC (f:FuncId) (N:Nat):Prop:=∀ (pl:List Sv) (v:Value) (w:World) (lo:Int),pl.length≤N→pl.length≤40→0≤lo→lo+pl.length≤1000→Svs w v pl →
 Calls Tryz.prog f #[v,.int .i64 lo] w fun e w'=>e = .returned (.int .i64 (dpS (decide (0 < lo)) (pl.map (·.s))))∧Below w.heap.size w w'
theorem wrap_in (x:Int) (h0:-1000000≤x) (h1:x≤1000000):IntKind.i64.wrap x=x:=IntWalk.i64_in _ (by omega)
theorem max3 (m p q:Int):(if (if m < 1+p then 1+p else m) < 1+q then 1+q else if m < 1+p then 1+p else m)=max m (max (p+1) (q+1)):=by
 repeat' split
 all_goals omega
theorem rdeep_step (N:Nat) (IH:∀ M,M < N→DeepC 34 M):DeepC 34 N:=by
 intro pl v w lo hN h40 hlo hlo2 hv
 have HIH:Hid (∀ (q:List Sv) (u:Value) (x:World) (z:Int),q.length < pl.length→q.length≤40→0≤z→z+q.length≤1000→Svs x u q→Calls Tryz.prog 34 #[u,.int .i64 z] x fun e w'=>e = .returned (.int .i64 (dpS (decide (0 < z)) (q.map (·.s))))∧Below x.heap.size x w'):=fun q u x z h1 h2 h3 h4 h5=>IH q.length (by omega) q u x z (Nat.le_refl _) h2 h3 h4 h5
 clear IH
 obtain ⟨A0,c0,rfl,hc0⟩:=hv.shape
 have HV:=Lib.hid hv
 obtain ⟨T,HT⟩:∃ T,Hid (dpS (decide (0 < lo)) (pl.map (·.s))=T):=⟨_,rfl⟩
 rw [HT.out]
 clear hv
 go_enter Tryz.func34,Tryz.ntmps34
 go_wp2_with fail
 go_loopw [5,6] (fun n i wr=>∃ (j:Nat) (m:Int),j≤pl.length∧n = .int .i64 m∧i = .int .i64 j∧0≤m∧m≤41∧Hid (restD (decide (0 < lo)) (pl.map (·.s)) j m=T)∧Below w.heap.size w wr) (fun _ i _=>pl.length - (intOf i).toNat)
 case atStart=>exact ⟨0,0,Nat.zero_le _,rfl,rfl,by omega,by omega,by show _=_;rw [restD_start];exact HT.out,Below.refl _ _⟩
 case round =>
  obtain ⟨j,m,hj,rfl,rfl,hm0,hm1,HRD,hb⟩:=hrel
  have HB:=Lib.hid hb
  by_cases hjl:j < pl.length
  ·obtain ⟨b,off,c,hE0,hcc,hbt,hat⟩:=HV.out.at_ (by omega)
   cases hE0
   have hx:=(hat j hjl).below hb hbt
   have hlm:j < (pl.map (·.s)).length:=by simpa using hjl
   have HNX:=Lib.hid (HV.out.2 _ (List.getElem_mem hjl))
   have hsv:=sv_map hjl
   have hjl2:(j:Int) < (pl.length:Int):=by omega
   have hlm2:(pl.map (·.s)).length=pl.length:=by simp
   clear hb hat
   by_cases hbad:badS (pl[j]).s (pl.length - (j+1)) (decide (0 < lo))
   ·have HR:Hid (T = -1):=by
     show _=_
     rw [← HRD.out]
     exact restD_bad hlm (by rw [hsv,hlm2];exact hbad)
    have HBAD:=Lib.hid hbad
    clear hbad HRD hsv hlm hlm2
    generalize pl[j] = x at hx HNX HBAD
    obtain ⟨⟨kind,reg,name,xe,xf,n,body,els,pos⟩,ev,fv⟩:=x
    obtain ⟨hx0,hx1,hx2,hx3,hx4,hx5,hx6,hx7,hx8⟩:=hx
    have hnx:=HNX.out
    dsimp only at hnx hx0 hx1 hx2 hx3 hx4 hx5 hx6 hx7 hx8 HBAD
    obtain ⟨A5,c5,rfl,_⟩:=Nods.shape hnx.1
    obtain ⟨A6,c6,rfl,_⟩:=Nods.shape hnx.2
    clear hnx HNX
    go_upto_region 8 with fail
    all_goals first
     | (go_ret;exact ⟨ret_int HR.out.symm,bt HB.out (al _ _)⟩)
     | (exfalso
        have h1:=HBAD.out
        unfold badS at h1
        dsimp only at h1
        first
         | (have hq:(lo == 0)=false:=by assumption
            rw [beq_eq_false_iff_ne] at hq
            rcases h1 with h1 | h1 | h1 | h1
            ·omega
            ·omega
            ·omega
            ·have:=of_decide_eq_false h1.2;omega)
         | (rcases h1 with h1 | h1 | h1 | h1 <;> omega))
   ·have HNB:=Lib.hid hbad
    generalize hxe:pl[j] = x at hx HNX HNB hsv
    obtain ⟨⟨kind,reg,name,xe,xf,n,body,els,pos⟩,ev,fv⟩:=x
    obtain ⟨hx0,hx1,hx2,hx3,hx4,hx5,hx6,hx7,hx8⟩:=hx
    have hnx:=HNX.out
    dsimp only at hnx hx0 hx1 hx2 hx3 hx4 hx5 hx6 hx7 hx8 hsv
    have hnb:=HNB.out
    unfold badS at hnb
    dsimp only at hnb
    have hb0:0≤body:=by omega
    have he0:0≤els:=by omega
    obtain ⟨nb,rfl⟩:=Int.eq_ofNat_of_zero_le hb0
    obtain ⟨ne,rfl⟩:=Int.eq_ofNat_of_zero_le he0
    have hbe:j+1+nb+ne≤pl.length:=by omega
    have h13:kind=13→0 < lo:=fun e=>by
     rcases Int.lt_or_le 0 lo with h | h
     ·exact h
     ·exact absurd (.inr (.inr (.inr ⟨e,decide_eq_false (by omega)⟩))) hnb
    have HNB2:Hid (¬ badS ((pl.map (·.s))[j]'hlm) ((pl.map (·.s)).length - (j+1)) (decide (0 < lo))):=by rw [hsv,hlm2];exact HNB.out
    have hsv2:=hsv
    obtain ⟨A5,c5,rfl,_⟩:=Nods.shape hnx.1
    obtain ⟨A6,c6,rfl,_⟩:=Nods.shape hnx.2
    clear hnx HNX HNB hbad
    by_cases hkb:kind=11∨kind=12
    ·rcases hkb with rfl | rfl
     ·have hdc:(decide (0 < lo) || decide ((11:Int)=12))=decide (0 < lo):=by simp
      obtain ⟨P1,d1,hs1,hv1⟩:=(HV.out.below HB.out).cut (j+1) nb (by omega) ((j:Int)+1) ((j:Int)+1+(nb:Int)) (by omega) (by omega)
      obtain ⟨P2,d2,hs2,hv2⟩:=(HV.out.below HB.out).cut (j+1+nb) ne (by omega) ((j:Int)+1+(nb:Int)) ((j:Int)+1+(nb:Int)+(ne:Int)) (by omega) (by omega)
      have l1:((pl.drop (j+1)).take nb).length≤nb:=by rw [List.length_take];omega
      have l2:((pl.drop (j+1+nb)).take ne).length≤ne:=by rw [List.length_take];omega
      have m1:=part_map pl (j+1) nb
      have m2:=part_map pl (j+1+nb) ne
      obtain ⟨p,hp⟩:∃ p,dpS (decide (0 < lo)) (((pl.map (·.s)).drop (j+1)).take nb)=p:=⟨_,rfl⟩
      obtain ⟨q,hq⟩:∃ q,dpS (decide (0 < lo)) (((pl.map (·.s)).drop (j+1+nb)).take ne)=q:=⟨_,rfl⟩
      have hp0:-1≤p:=by rw [← hp];exact dpS_ge _ _
      have hq0:-1≤q:=by rw [← hq];exact dpS_ge _ _
      have hp1:p≤40:=by
       have:=dpS_le (decide (0 < lo)) (((pl.map (·.s)).drop (j+1)).take nb)
       rw [hp,← m1,List.length_map] at this
       omega
      have hq1:q≤40:=by
       have:=dpS_le (decide (0 < lo)) (((pl.map (·.s)).drop (j+1+nb)).take ne)
       rw [hq,← m2,List.length_map] at this
       omega
      have HI1:Hid (∀ u,Below wr.heap.size wr u→Calls Tryz.prog 34 #[.slice P1 nb d1,.int .i64 lo] u fun e w'=>e = .returned (.int .i64 p)∧Below u.heap.size u w'):=fun u hu=>by
       have:=HIH.out ((pl.drop (j+1)).take nb) (.slice P1 nb d1) u lo (by omega) (by omega) (by omega) (by omega) (hv1.below hu)
       rw [m1,hp] at this
       exact this
      have HI2:Hid (∀ u,Below wr.heap.size wr u→Calls Tryz.prog 34 #[.slice P2 ne d2,.int .i64 lo] u fun e w'=>e = .returned (.int .i64 q)∧Below u.heap.size u w'):=fun u hu=>by
       have:=HIH.out ((pl.drop (j+1+nb)).take ne) (.slice P2 ne d2) u lo (by omega) (by omega) (by omega) (by omega) (hv2.below hu)
       rw [m2,hq] at this
       exact this
      have HL:Hid (T=if p < 0∨q < 0 then -1 else restD (decide (0 < lo)) (pl.map (·.s)) (j+1+nb+ne) (max m (max (p+1) (q+1)))):=by
       show _=_
       rw [← HRD.out]
       have:=restD_block (n:=m) hlm HNB2.out (by rw [hsv];exact (.inl rfl)) (p:=p) (q:=q) (by rw [hsv];dsimp only;rw [hdc,Int.toNat_natCast];exact hp) (by rw [hsv];dsimp only;rw [hdc,Int.toNat_natCast,Int.toNat_natCast];exact hq)
       rw [this,hsv]
       rfl
      have w1:=wrap_in ((j:Int)+1) (by omega) (by omega)
      have w2:=wrap_in ((j:Int)+1+(nb:Int)) (by omega) (by omega)
      have w3:=wrap_in ((j:Int)+1+(nb:Int)+(ne:Int)) (by omega) (by omega)
      have j0:(0:Int)≤(j:Int)+1:=by omega
      have HS1:=Lib.hid hs1
      have HS2:=Lib.hid hs2
      clear hs1 hs2 hv1 hv2 l1 l2 m1 m2 hp hq hdc hnb hsv hsv2 HNB2 HRD hxe hlm hlm2 h13 hb0 he0
      go_upto_region 6 with fail
      have HSB:Hid (SB (wr.alloc (.cells #[.int .i64 11,.string (str reg),.string (str name),.slice A5 xe.length c5,.slice A6 xf.length c6,.int .i64 n,.int .i64 (nb:Int),.int .i64 (ne:Int),.int .i64 pos] 31)) wr.heap.size ⟨11,reg,name,xe,xf,n,nb,(ne:Int),pos⟩ (.slice A5 xe.length c5) (.slice A6 xf.length c6)):=sb_new wr ⟨11,reg,name,xe,xf,n,nb,(ne:Int),pos⟩ _ _
      have HBY:Hid (Below wr.heap.size wr (wr.alloc (.cells #[.int .i64 11,.string (str reg),.string (str name),.slice A5 xe.length c5,.slice A6 xf.length c6,.int .i64 n,.int .i64 (nb:Int),.int .i64 (ne:Int),.int .i64 pos] 31))):=al wr _
      obtain ⟨pb,HPB⟩:∃ pb,Hid (wr.heap.size=pb):=⟨_,rfl⟩
      rw [HPB.out] at HSB ⊢
      generalize World.alloc wr _=Y at HSB HBY ⊢
      clear hx0 hx1 hx2 hx3 hx4 hx5 hx6 hx7 hx8
      obtain ⟨sl,s0,s1,s2,s3,s4,s5,s6,s7,s8,sfr⟩:=HSB.out
      dsimp only at s0 s6 s7
      clear s1 s2 s3 s4 s5 s8 sfr
      go_cut [82] (fun s wx=>s = .bool false∧Y=wx)
      case first =>
       clear HS1 HS2 HI1 HI2 HL w1 w2 w3
       go_wp2_with fail
       all_goals
        first
         | (go_meet;exact ⟨rfl,rfl⟩)
         | (exfalso;have hne0:=Hne.out;omega)
      case rest =>
       obtain ⟨rfl,rfl⟩:=hcut
       go_upto_region 8 with fail
       go_quiet (fail)
       go_upto_region 12 with fail
       have hs1:=HS1.out
       have hs2:=HS2.out
       have HX:Hid (∀ u,Below Y.heap.size Y u→u.cell? ⟨pb,7,none⟩=some (.int .i64 (ne:Int))):=fun u hu=>(HSB.out.below hu).c7
       clear sl HSB
       go_region_held3 (fun u=>u.cell? ⟨pb,7,none⟩=some (.int .i64 (ne:Int)))
        (exact HX.out _ (bld))
        (first
          | (go_at_call_of 34 (Value.slice P1 nb d1);(with_reducible refine (HI1.out _ (bt HBY.out (bld))).mono ?_);rintro e w4 ⟨rfl,hb4⟩;have h4:Below Y.heap.size Y w4:=bt (bld) hb4;clear hb4)
          | (go_at_call_of 34 (Value.slice P2 ne d2);(with_reducible refine (HI2.out _ (bt HBY.out (bld))).mono ?_);rintro e w5 ⟨rfl,hb5⟩;have h5:Below Y.heap.size Y w5:=bt (bld) hb5;clear hb5))
       all_goals
        clear hs1 hs2
        have HB2:Hid (Below wr.heap.size wr w5):=bt HBY.out h5
        clear h4 h5
        have HM:=Lib.hid (And.intro hp0 hq0)
        go_wp2_with fail
        all_goals first
         | (go_ret;exact ⟨ret_int (by rw [HL.out,if_pos (by omega)]),bt HB.out (bt HB2.out (by repeat (first | exact Below.refl _ _ | refine bdrN ?_ _ | refine bdr ?_)))⟩)
         | (go_roundw
            case rel =>
             refine ⟨j+1+nb+ne,max m (max (p+1) (q+1)),by omega,by rw [max3],by go_num,by omega,by omega,?_,bt HB.out (bt HB2.out (by repeat (first | exact Below.refl _ _ | refine bdrN ?_ _ | refine bdr ?_)))⟩
             show _=_
             rw [HL.out,if_neg (by omega)]
            case measure=>simp [intOf];omega)
     ·have Hne:Hid (ne=0):=by show _=_;omega
      have hdc:(decide (0 < lo) || decide ((12:Int)=12))=decide (0 < (lo+1)):=by (rw [decide_eq_true (by omega:0 < lo+1)];simp)
      obtain ⟨P1,d1,hs1,hv1⟩:=(HV.out.below HB.out).cut (j+1) nb (by omega) ((j:Int)+1) ((j:Int)+1+(nb:Int)) (by omega) (by omega)
      obtain ⟨P2,d2,hs2,hv2⟩:=(HV.out.below HB.out).cut (j+1+nb) ne (by omega) ((j:Int)+1+(nb:Int)) ((j:Int)+1+(nb:Int)+(ne:Int)) (by omega) (by omega)
      have l1:((pl.drop (j+1)).take nb).length≤nb:=by rw [List.length_take];omega
      have l2:((pl.drop (j+1+nb)).take ne).length≤ne:=by rw [List.length_take];omega
      have m1:=part_map pl (j+1) nb
      have m2:=part_map pl (j+1+nb) ne
      obtain ⟨p,hp⟩:∃ p,dpS (decide (0 < (lo+1))) (((pl.map (·.s)).drop (j+1)).take nb)=p:=⟨_,rfl⟩
      obtain ⟨q,hq⟩:∃ q,dpS (decide (0 < (lo+1))) (((pl.map (·.s)).drop (j+1+nb)).take ne)=q:=⟨_,rfl⟩
      have hp0:-1≤p:=by rw [← hp];exact dpS_ge _ _
      have hq0:-1≤q:=by rw [← hq];exact dpS_ge _ _
      have hp1:p≤40:=by
       have:=dpS_le (decide (0 < (lo+1))) (((pl.map (·.s)).drop (j+1)).take nb)
       rw [hp,← m1,List.length_map] at this
       omega
      have hq1:q≤40:=by
       have:=dpS_le (decide (0 < (lo+1))) (((pl.map (·.s)).drop (j+1+nb)).take ne)
       rw [hq,← m2,List.length_map] at this
       omega
      have HI1:Hid (∀ u,Below wr.heap.size wr u→Calls Tryz.prog 34 #[.slice P1 nb d1,.int .i64 (lo+1)] u fun e w'=>e = .returned (.int .i64 p)∧Below u.heap.size u w'):=fun u hu=>by
       have:=HIH.out ((pl.drop (j+1)).take nb) (.slice P1 nb d1) u (lo+1) (by omega) (by omega) (by omega) (by omega) (hv1.below hu)
       rw [m1,hp] at this
       exact this
      have HI2:Hid (∀ u,Below wr.heap.size wr u→Calls Tryz.prog 34 #[.slice P2 ne d2,.int .i64 (lo+1)] u fun e w'=>e = .returned (.int .i64 q)∧Below u.heap.size u w'):=fun u hu=>by
       have:=HIH.out ((pl.drop (j+1+nb)).take ne) (.slice P2 ne d2) u (lo+1) (by omega) (by omega) (by omega) (by omega) (hv2.below hu)
       rw [m2,hq] at this
       exact this
      have HL:Hid (T=if p < 0∨q < 0 then -1 else restD (decide (0 < lo)) (pl.map (·.s)) (j+1+nb+ne) (max m (max (p+1) (q+1)))):=by
       show _=_
       rw [← HRD.out]
       have:=restD_block (n:=m) hlm HNB2.out (by rw [hsv];exact (.inr rfl)) (p:=p) (q:=q) (by rw [hsv];dsimp only;rw [hdc,Int.toNat_natCast];exact hp) (by rw [hsv];dsimp only;rw [hdc,Int.toNat_natCast,Int.toNat_natCast];exact hq)
       rw [this,hsv]
       rfl
      have w1:=wrap_in ((j:Int)+1) (by omega) (by omega)
      have w2:=wrap_in ((j:Int)+1+(nb:Int)) (by omega) (by omega)
      have w3:=wrap_in ((j:Int)+1+(nb:Int)+(ne:Int)) (by omega) (by omega)
      have j0:(0:Int)≤(j:Int)+1:=by omega
      have HS1:=Lib.hid hs1
      have HS2:=Lib.hid hs2
      clear hs1 hs2 hv1 hv2 l1 l2 m1 m2 hp hq hdc hnb hsv hsv2 HNB2 HRD hxe hlm hlm2 h13 hb0 he0
      go_upto_region 6 with fail
      have HSB:Hid (SB (wr.alloc (.cells #[.int .i64 12,.string (str reg),.string (str name),.slice A5 xe.length c5,.slice A6 xf.length c6,.int .i64 n,.int .i64 (nb:Int),.int .i64 (ne:Int),.int .i64 pos] 31)) wr.heap.size ⟨12,reg,name,xe,xf,n,nb,(ne:Int),pos⟩ (.slice A5 xe.length c5) (.slice A6 xf.length c6)):=sb_new wr ⟨12,reg,name,xe,xf,n,nb,(ne:Int),pos⟩ _ _
      have HBY:Hid (Below wr.heap.size wr (wr.alloc (.cells #[.int .i64 12,.string (str reg),.string (str name),.slice A5 xe.length c5,.slice A6 xf.length c6,.int .i64 n,.int .i64 (nb:Int),.int .i64 (ne:Int),.int .i64 pos] 31))):=al wr _
      obtain ⟨pb,HPB⟩:∃ pb,Hid (wr.heap.size=pb):=⟨_,rfl⟩
      rw [HPB.out] at HSB ⊢
      generalize World.alloc wr _=Y at HSB HBY ⊢
      clear hx0 hx1 hx2 hx3 hx4 hx5 hx6 hx7 hx8
      obtain ⟨sl,s0,s1,s2,s3,s4,s5,s6,s7,s8,sfr⟩:=HSB.out
      dsimp only at s0 s6 s7
      clear s1 s2 s3 s4 s5 s8 sfr
      go_cut [82] (fun s wx=>s = .bool false∧Y=wx)
      case first =>
       clear HS1 HS2 HI1 HI2 HL w1 w2 w3
       go_wp2_with fail
       all_goals
        first
         | (go_meet;exact ⟨rfl,rfl⟩)
         | (exfalso;have hne0:=Hne.out;omega)
      case rest =>
       obtain ⟨rfl,rfl⟩:=hcut
       go_upto_region 8 with fail
       go_quiet (fail)
       go_upto_region 12 with fail
       have hs1:=HS1.out
       have hs2:=HS2.out
       have HX:Hid (∀ u,Below Y.heap.size Y u→u.cell? ⟨pb,7,none⟩=some (.int .i64 (ne:Int))):=fun u hu=>(HSB.out.below hu).c7
       clear sl HSB
       go_region_held3 (fun u=>u.cell? ⟨pb,7,none⟩=some (.int .i64 (ne:Int)))
        (exact HX.out _ (bld))
        (first
          | (go_at_call_of 34 (Value.slice P1 nb d1);(with_reducible refine (HI1.out _ (bt HBY.out (bld))).mono ?_);rintro e w4 ⟨rfl,hb4⟩;have h4:Below Y.heap.size Y w4:=bt (bld) hb4;clear hb4)
          | (go_at_call_of 34 (Value.slice P2 ne d2);(with_reducible refine (HI2.out _ (bt HBY.out (bld))).mono ?_);rintro e w5 ⟨rfl,hb5⟩;have h5:Below Y.heap.size Y w5:=bt (bld) hb5;clear hb5))
       all_goals
        clear hs1 hs2
        have HB2:Hid (Below wr.heap.size wr w5):=bt HBY.out h5
        clear h4 h5
        have HM:=Lib.hid (And.intro hp0 hq0)
        go_wp2_with fail
        all_goals first
         | (go_ret;exact ⟨ret_int (by rw [HL.out,if_pos (by omega)]),bt HB.out (bt HB2.out (by repeat (first | exact Below.refl _ _ | refine bdrN ?_ _ | refine bdr ?_)))⟩)
         | (go_roundw
            case rel =>
             refine ⟨j+1+nb+ne,max m (max (p+1) (q+1)),by omega,by rw [max3],by go_num,by omega,by omega,?_,bt HB.out (bt HB2.out (by repeat (first | exact Below.refl _ _ | refine bdrN ?_ _ | refine bdr ?_)))⟩
             show _=_
             rw [HL.out,if_neg (by omega)]
            case measure=>simp [intOf];omega)
    ·have hnb0:nb=0:=by omega
     have hne0:ne=0:=by omega
     subst hnb0 hne0
     have HL:Hid (restD (decide (0 < lo)) (pl.map (·.s)) (j+1) m=T):=by
      show _=_
      rw [← HRD.out]
      exact (restD_leaf hlm HNB2.out (by rw [hsv];exact hkb)).1.symm
     have k11:(kind == 11)=false:=by rw [beq_eq_false_iff_ne];omega
     have k12:(kind == 12)=false:=by rw [beq_eq_false_iff_ne];omega
     have w1:=wrap_in ((j:Int)+1) (by omega) (by omega)
     clear hnb hkb hsv hsv2 HNB2 HRD hxe hlm hlm2
     by_cases hk13:kind=13
     ·subst hk13
      have hl0:(lo == 0)=false:=by rw [beq_eq_false_iff_ne];have:=h13 rfl;omega
      clear h13
      go_upto_region 8 with fail
      go_quiet (fail)
      go_wp2_with fail
      go_roundw
      case rel=>exact ⟨j+1,m,by omega,rfl,by go_num,hm0,hm1,HL.out,bt HB.out (by repeat (first | exact al _ _ | exact Below.refl _ _ | refine bdrN ?_ _ | refine bdr ?_))⟩
      case measure=>simp [intOf];omega
     ·have k13:(kind == 13)=false:=by rw [beq_eq_false_iff_ne];omega
      clear h13 hk13
      go_upto_region 8 with fail
      go_quiet (fail)
      go_wp2_with fail
      go_roundw
      case rel=>exact ⟨j+1,m,by omega,rfl,by go_num,hm0,hm1,HL.out,bt HB.out (by repeat (first | exact al _ _ | exact Below.refl _ _ | refine bdrN ?_ _ | refine bdr ?_))⟩
      case measure=>simp [intOf];omega
  ·have hje:j=pl.length:=by omega
   have HR:Hid (T=m):=by
    show _=_
    rw [← HRD.out]
    exact restD_end (by simp;omega) hm0
   go_wp2_with fail
   go_ret
   exact ⟨ret_int HR.out.symm,HB.out⟩
theorem rdeepS_c (pl:List Sv) (h:pl.length≤40) (v:Value) (w:World) (hv:Svs w v pl) :
 Calls Tryz.prog 34 #[v,.int .i64 0] w fun e w'=>e = .returned (.int .i64 (dpS false (pl.map (·.s))))∧Below w.heap.size w w' :=
 (Nat.strongRecOn (motive:=fun N=>DeepC 34 N) pl.length (fun N IH=>rdeep_step N IH)) pl v w 0 (Nat.le_refl _) h (by omega) (by omega) hv
def LinesC (f:FuncId) (N:Nat):Prop:=∀ (pl:List Sv) (v:Value) (w:World) (rt:List UInt8) (d:Nat),pl.length≤N→Rd true (pl.map (·.s)) d→(∀ x∈pl,Fits x.s)→rt.length+2*pl.length≤200→Svs w v pl →
 Calls Tryz.prog f #[v,.string (str rt)] w fun e w'=>e = .returned (.string (str (lnS rt (pl.map (·.s)))))∧Below w.heap.size w w'
theorem lnS_len {b:Bool} {l:List St} {d:Nat} (h:Rd b l d) (hf:∀ x∈l,Fits x) (rt:List UInt8) (hr:rt.length+2*l.length≤200):(lnS rt l).length≤5000*l.length:=ln_len (lnS_ln h rt) (fun x hx=>lineS_len (hf x hx)) hr
theorem fits_sub {pl q:List Sv} (h:∀ x∈pl,Fits x.s) (hs:∀ x∈q,x∈pl):∀ x∈q,Fits x.s:=fun x hx=>h x (hs x hx)
theorem mem_part {pl:List Sv} {i k:Nat}:∀ x∈(pl.drop i).take k,x∈pl:=fun x hx=>List.mem_of_mem_drop (List.mem_of_mem_take hx)
theorem mem_fits {pl:List Sv} (h:∀ x∈pl,Fits x.s) {l:List St} (hl:∀ x∈l,x∈pl.map (·.s)):∀ x∈l,Fits x:=fun x hx=>by
 obtain ⟨y,hy,rfl⟩:=List.mem_map.1 (hl x hx)
 exact h y hy
theorem rlines_step (N:Nat) (IH:∀ M,M < N→LinesC 37 M):LinesC 37 N:=by
 intro pl v w rt d hN hrd hfit hrt hv
 have HIH:Hid (∀ (q:List Sv) (u:Value) (x:World) (r:List UInt8) (d:Nat),q.length < pl.length→Rd true (q.map (·.s)) d→(∀ x∈q,Fits x.s)→r.length+2*q.length≤200→Svs x u q→Calls Tryz.prog 37 #[u,.string (str r)] x fun e w'=>e = .returned (.string (str (lnS r (q.map (·.s)))))∧Below x.heap.size x w'):=fun q u x r d h1 h2 h3 h4 h5=>IH q.length (by omega) q u x r d (Nat.le_refl _) h2 h3 h4 h5
 clear IH
 obtain ⟨A0,c0,rfl,hc0⟩:=hv.shape
 have HV:=Lib.hid hv
 have HFIT:=Lib.hid hfit
 have hT:=lnS_len hrd (mem_fits hfit (fun x h=>h)) rt (by rw [List.length_map];exact hrt)
 rw [List.length_map] at hT
 have h100:pl.length≤100:=by omega
 have hr200:rt.length≤200:=by omega
 obtain ⟨T,HT⟩:∃ T,Hid (lnS rt (pl.map (·.s))=T):=⟨_,rfl⟩
 rw [HT.out] at hT ⊢
 have HTL:Hid (T.length≤500000):=by show _≤_;omega
 have HRD0:=Lib.hid hrd
 obtain ⟨SRT,HSRT⟩:∃ s,Hid (str rt=s):=⟨_,rfl⟩
 have zRT:SRT.size≤200:=by rw [← HSRT.out,str_size];exact hr200
 rw [HSRT.out]
 have HRT:=Lib.hid hrt
 clear hv hfit hrd hT hrt
 go_enter Tryz.func37,Tryz.ntmps37
 go_wp2_with fail
 go_loopw [5,6] (fun s i wr=>∃ (j:Nat) (acc:List UInt8),j≤pl.length∧s = .string (str acc)∧i = .int .i64 j∧Hid (∃ d,Rd true ((pl.map (·.s)).drop j) d)∧Hid (acc++lnS rt ((pl.map (·.s)).drop j)=T)∧Below w.heap.size w wr) (fun _ i _=>pl.length - (intOf i).toNat)
 case atStart=>exact ⟨0,[],Nat.zero_le _,rfl,rfl,⟨_,HRD0.out⟩,by show _=_;rw [List.drop_zero,HT.out];rfl,Below.refl _ _⟩
 case round =>
  obtain ⟨j,acc,hj,rfl,rfl,HRD,HACC,hb⟩:=hrel
  have HB:=Lib.hid hb
  have zA:(str acc).size≤500000:=by
   rw [str_size]
   have:=congrArg List.length HACC.out
   rw [List.length_append] at this
   have:=HTL.out
   omega
  by_cases hjl:j < pl.length
  ·obtain ⟨b,off,c,hE0,hcc,hbt,hat⟩:=HV.out.at_ (by omega)
   cases hE0
   have hx:=(hat j hjl).below hb hbt
   have hlm:j < (pl.map (·.s)).length:=by simpa using hjl
   have HNX:=Lib.hid (HV.out.2 _ (List.getElem_mem hjl))
   have HFX:=Lib.hid (HFIT.out _ (List.getElem_mem hjl))
   have hsv:=sv_map hjl
   have hjl2:(j:Int) < (pl.length:Int):=by omega
   have hdr:(pl.map (·.s)).drop j=(pl[j]).s :: (pl.map (·.s)).drop (j+1):=by rw [← hsv];exact List.drop_eq_getElem_cons hlm
   obtain ⟨dd,hrd⟩:=HRD.out
   rw [hdr] at hrd
   have hst:=rd_step hrd rt
   have hacc:=HACC.out
   rw [hdr] at hacc
   have HHD:Hid (∀ u,Below wr.heap.size wr u→Calls Tryz.prog 67 #[stV (pl[j]).s (pl[j]).ev (pl[j]).fv] u fun e w'=>e = .returned (.string (str (lineS (pl[j]).s)))∧Below u.heap.size u w'):=fun u hu=>rhead_c _ HFX.out _ _ u (SlN.below (SlN.below HNX.out.1 hb) hu) (SlN.below (SlN.below HNX.out.2 hb) hu)
   have zL:(str (lineS (pl[j]).s)).size≤4000:=by rw [str_size];exact lineS_len HFX.out
   clear hb hat hsv hdr hrd HACC HRD hlm
   generalize hxe:pl[j] = x at hx HNX HFX hst hacc HHD zL
   clear hxe HFX
   obtain ⟨⟨kind,reg,name,xe,xf,n,body,els,pos⟩,ev,fv⟩:=x
   obtain ⟨hx0,hx1,hx2,hx3,hx4,hx5,hx6,hx7,hx8⟩:=hx
   have hnx:=HNX.out
   unfold stV at HHD
   dsimp only at hnx hx0 hx1 hx2 hx3 hx4 hx5 hx6 hx7 hx8 HHD hst hacc zL
   obtain ⟨A5,c5,rfl,_⟩:=Nods.shape hnx.1
   obtain ⟨A6,c6,rfl,_⟩:=Nods.shape hnx.2
   clear hnx HNX
   have w1:=wrap_in ((j:Int)+1) (by omega) (by omega)
   rcases hst with ⟨h11,h12,hb0,he0,hrd2,hln⟩ | ⟨hkb,nb,ne,hb0,he0,hbe,hrd1,hrd2,hrd3,hln⟩
   ·subst hb0 he0
    have k11:(kind == 11)=false:=by rw [beq_eq_false_iff_ne];omega
    have k12:(kind == 12)=false:=by rw [beq_eq_false_iff_ne];omega
    have HNA:Hid ((acc++(rt++lineS ⟨kind,reg,name,xe,xf,n,0,0,pos⟩)++tEnd)++lnS rt ((pl.map (·.s)).drop (j+1))=T):=by
     show _=_
     rw [← hacc,hln]
     simp only [List.append_assoc]
    have HNX:Hid (str acc++(SRT++str (lineS ⟨kind,reg,name,xe,xf,n,0,0,pos⟩))++str [59,10] = str (acc++(rt++lineS ⟨kind,reg,name,xe,xf,n,0,0,pos⟩)++tEnd)):=by
     show _=_
     rw [← HSRT.out]
     simp only [← str_app]
     rfl
    have HRD2:=Lib.hid hrd2
    clear hacc hln h11 h12 hrd2
    generalize lineS ⟨kind,reg,name,xe,xf,n,0,0,pos⟩=L at HHD zL HNA HNX
    generalize str L=SL at HHD zL HNX
    generalize str acc=SA at zA HNX ⊢
    have f1:¬ (9223372036854775807 < SRT.size+SL.size):=by omega
    have f2:¬ (9223372036854775807 < SA.size+(SRT.size+SL.size)):=by omega
    have f3:¬ (9223372036854775807 < SA.size+(SRT.size+SL.size)+2):=by omega
    have f3':¬ (9223372036854775805 < SA.size+(SRT.size+SL.size)):=by omega
    go_wp2_with (go_at_call 67;(with_reducible refine (HHD.out _ (by repeat (first | exact al _ _ | exact Below.refl _ _ | assumption | refine bdrN ?_ _ | refine bdr ?_))).mono ?_);rintro e w3 ⟨rfl,hb3⟩;have hk0:=hb3.cell (p:=⟨wr.heap.size,0,none⟩) (by simp only [World.size_alloc];omega);have hk7:=hb3.cell (p:=⟨wr.heap.size,7,none⟩) (by simp only [World.size_alloc];omega))
    go_roundw
    case rel=>exact ⟨j+1,_,by omega,by first | exact congrArg Value.string HNX.out | (rw [← HNX.out];rfl),by go_num,HRD2.out,HNA.out,bt HB.out (bt (al _ _) hb3)⟩
    case measure=>simp [intOf];omega
   ·subst hb0 he0
    rw [List.length_drop,List.length_map] at hbe
    have hkk:(kind == 11)=true∨((kind == 11)=false∧(kind == 12)=true):=by rcases hkb with rfl | rfl <;> simp
    clear hkb
    rcases hkk with k11 | ⟨k11,k12⟩
    all_goals
     rcases Nat.lt_or_ge 0 ne with hn0 | hn0
     ·have hne:(0:Int) < (ne:Int):=by omega
      have HRD2:=Lib.hid hrd3
      obtain ⟨da,hda⟩:=hrd1
      obtain ⟨P1,d1,hs1,hv1⟩:=(HV.out.below HB.out).cut (j+1) nb (by omega) ((j:Int)+1) ((j:Int)+1+(nb:Int)) (by omega) (by omega)
      have l1:((pl.drop (j+1)).take nb).length≤nb:=by rw [List.length_take];omega
      have m1:=part_map pl (j+1) nb
      have hrt:=HRT.out
      have HI1:Hid (∀ u,Below wr.heap.size wr u→Calls Tryz.prog 37 #[.slice P1 nb d1,.string (SRT++⟨#[32,32]⟩)] u fun e w'=>e = .returned (.string (str (lnS (rt++[32,32]) (((pl.map (·.s)).drop (j+1)).take nb))))∧Below u.heap.size u w'):=fun u hu=>by
       have:=HIH.out ((pl.drop (j+1)).take nb) (.slice P1 nb d1) u (rt++[32,32]) da (by omega) (by rw [m1];exact hda) (fits_sub HFIT.out mem_part) (by rw [List.length_append];simp only [List.length_cons,List.length_nil];omega) (hv1.below hu)
       rw [m1,str_app,HSRT.out] at this
       exact this
      have z1:(str (lnS (rt++[32,32]) (((pl.map (·.s)).drop (j+1)).take nb))).size≤500000:=by
       rw [str_size]
       have:=lnS_len hda (fun x hx=>by
        rw [← m1] at hx
        obtain ⟨y,hy,rfl⟩:=List.mem_map.1 hx
        exact HFIT.out y (mem_part y hy)) (rt++[32,32]) (by rw [← m1,List.length_map,List.length_append];simp only [List.length_cons,List.length_nil];omega)
       have hq:(((pl.map (·.s)).drop (j+1)).take nb).length=((pl.drop (j+1)).take nb).length:=by rw [← m1,List.length_map]
       omega
      obtain ⟨db,hdb⟩:=hrd2
      obtain ⟨P2,d2,hs2,hv2⟩:=(HV.out.below HB.out).cut (j+1+nb) ne (by omega) ((j:Int)+1+(nb:Int)) ((j:Int)+1+(nb:Int)+(ne:Int)) (by omega) (by omega)
      have l2:((pl.drop (j+1+nb)).take ne).length≤ne:=by rw [List.length_take];omega
      have m2:=part_map pl (j+1+nb) ne
      rw [List.drop_drop] at hdb
      have HI2:Hid (∀ u,Below wr.heap.size wr u→Calls Tryz.prog 37 #[.slice P2 ne d2,.string (SRT++⟨#[32,32]⟩)] u fun e w'=>e = .returned (.string (str (lnS (rt++[32,32]) (((pl.map (·.s)).drop (j+1+nb)).take ne))))∧Below u.heap.size u w'):=fun u hu=>by
       have:=HIH.out ((pl.drop (j+1+nb)).take ne) (.slice P2 ne d2) u (rt++[32,32]) db (by omega) (by rw [m2];exact hdb) (fits_sub HFIT.out mem_part) (by rw [List.length_append];simp only [List.length_cons,List.length_nil];omega) (hv2.below hu)
       rw [m2,str_app,HSRT.out] at this
       exact this
      have z2:(str (lnS (rt++[32,32]) (((pl.map (·.s)).drop (j+1+nb)).take ne))).size≤500000:=by
       rw [str_size]
       have:=lnS_len hdb (fun x hx=>by
        rw [← m2] at hx
        obtain ⟨y,hy,rfl⟩:=List.mem_map.1 hx
        exact HFIT.out y (mem_part y hy)) (rt++[32,32]) (by rw [← m2,List.length_map,List.length_append];simp only [List.length_cons,List.length_nil];omega)
       have hq:(((pl.map (·.s)).drop (j+1+nb)).take ne).length=((pl.drop (j+1+nb)).take ne).length:=by rw [← m2,List.length_map]
       omega
      rw [List.drop_drop,List.drop_drop,← Nat.add_assoc,if_pos (by omega)] at hln
      have HNA:Hid ((acc++(rt++lineS ⟨kind,reg,name,xe,xf,n,nb,ne,pos⟩)++(tOpen++lnS (rt++[32,32]) (((pl.map (·.s)).drop (j+1)).take nb))++(rt++tElse++lnS (rt++[32,32]) (((pl.map (·.s)).drop (j+1+nb)).take ne))++(rt++tShut))++lnS rt ((pl.map (·.s)).drop (j+1+nb+ne))=T):=by
       show _=_
       rw [← hacc,hln]
       simp only [List.append_assoc]
      have HNX:Hid (str acc++(SRT++str (lineS ⟨kind,reg,name,xe,xf,n,nb,ne,pos⟩))++(str [32,123,10]++str (lnS (rt++[32,32]) (((pl.map (·.s)).drop (j+1)).take nb)))++(SRT++str [125,32,101,108,115,101,32,123,10]++str (lnS (rt++[32,32]) (((pl.map (·.s)).drop (j+1+nb)).take ne)))++(SRT++str [125,10])=str (acc++(rt++lineS ⟨kind,reg,name,xe,xf,n,nb,ne,pos⟩)++(tOpen++lnS (rt++[32,32]) (((pl.map (·.s)).drop (j+1)).take nb))++(rt++tElse++lnS (rt++[32,32]) (((pl.map (·.s)).drop (j+1+nb)).take ne))++(rt++tShut))):=by
       show _=_
       rw [← HSRT.out]
       simp only [← str_app]
       rfl
      have HRD3:Hid (∃ d,Rd true ((pl.map (·.s)).drop (j+1+nb+ne)) d):=by
       have:=HRD2.out
       rw [List.drop_drop,← Nat.add_assoc] at this
       exact this
      clear hacc hln hda HRD2 l1 m1 hv1 hrd3 hrt hdb l2 m2 hv2
      generalize lineS ⟨kind,reg,name,xe,xf,n,nb,ne,pos⟩=L at HHD zL HNA HNX
      generalize lnS (rt++[32,32]) (((pl.map (·.s)).drop (j+1)).take nb)=L1 at HI1 z1 HNA HNX
      generalize lnS (rt++[32,32]) (((pl.map (·.s)).drop (j+1+nb)).take ne)=L2 at HI2 z2 HNA HNX
      generalize str L=SL at HHD zL HNX
      generalize str L1=S1 at HI1 z1 HNX
      generalize str L2=S2 at HI2 z2 HNX
      generalize str acc=SA at zA HNX ⊢
      have w2:=wrap_in ((j:Int)+1+(nb:Int)) (by omega) (by omega)
      have w3:=wrap_in ((j:Int)+1+(nb:Int)+(ne:Int)) (by omega) (by omega)
      have j0:(0:Int)≤(j:Int)+1:=by omega
      have f0:¬ (9223372036854775807 < SRT.size+SL.size):=by omega
      have f1:¬ (9223372036854775807 < SA.size+(SRT.size+SL.size)):=by omega
      have f2:¬ (9223372036854775807 < SRT.size+2):=by omega
      have f3:¬ (9223372036854775805 < SRT.size):=by omega
      have f4:¬ (9223372036854775807 < 3+S1.size):=by omega
      have f5:¬ (9223372036854775807 < SA.size+(SRT.size+SL.size)+(3+S1.size)):=by omega
      have f6:¬ (9223372036854775807 < SRT.size+9):=by omega
      have f7:¬ (9223372036854775798 < SRT.size):=by omega
      have f8:¬ (9223372036854775807 < SRT.size+9+S2.size):=by omega
      have f9:¬ (9223372036854775807 < SA.size+(SRT.size+SL.size)+(3+S1.size)+(SRT.size+9+S2.size)):=by omega
      have f10:¬ (9223372036854775807 < SA.size+(SRT.size+SL.size)+(3+S1.size)+(SRT.size+9+S2.size)+(SRT.size+2)):=by omega
      go_wp2_with (first | (go_at_call 67;(with_reducible refine (HHD.out _ (by repeat (first | exact al _ _ | exact Below.refl _ _ | assumption | refine bdrN ?_ _ | refine bdr ?_))).mono ?_);rintro e w3 ⟨rfl,hb3⟩;have hk0:=hb3.cell (p:=⟨wr.heap.size,0,none⟩) (by simp only [World.size_alloc];omega);have hk7:=hb3.cell (p:=⟨wr.heap.size,7,none⟩) (by simp only [World.size_alloc];omega);have hlt3:wr.heap.size < w3.heap.size:=Nat.lt_of_lt_of_le (by simp only [World.size_alloc];omega) hb3.size;have HB3:Hid (Below wr.heap.size wr w3):=bt (al _ _) hb3;clear hb3) | (go_at_call_of 37 (Value.slice P1 nb d1);(with_reducible refine (HI1.out _ HB3.out).mono ?_);rintro e w4 ⟨rfl,hb4⟩;have hm7:=hb4.cell (p:=⟨wr.heap.size,7,none⟩) hlt3;have HB4:Hid (Below wr.heap.size wr w4):=bt HB3.out hb4;have hlt4:wr.heap.size < w4.heap.size:=Nat.lt_of_lt_of_le hlt3 hb4.size;clear hb4) | (go_at_call_of 37 (Value.slice P2 ne d2);(with_reducible refine (HI2.out _ HB4.out).mono ?_);rintro e w5 ⟨rfl,hb5⟩;have hn7:=hb5.cell (p:=⟨wr.heap.size,7,none⟩) hlt4;have HB5:Hid (Below wr.heap.size wr w5):=bt HB4.out hb5;clear hb5))
      go_roundw
      case rel=>exact ⟨j+1+nb+ne,_,by omega,by first | exact congrArg Value.string HNX.out | (rw [← HNX.out];rfl),by go_num,HRD3.out,HNA.out,bt HB.out HB5.out⟩
      case measure=>simp [intOf];omega
     ·have hne:¬ ((0:Int) < (ne:Int)):=by omega
      have HRD2:=Lib.hid hrd3
      obtain ⟨da,hda⟩:=hrd1
      obtain ⟨P1,d1,hs1,hv1⟩:=(HV.out.below HB.out).cut (j+1) nb (by omega) ((j:Int)+1) ((j:Int)+1+(nb:Int)) (by omega) (by omega)
      have l1:((pl.drop (j+1)).take nb).length≤nb:=by rw [List.length_take];omega
      have m1:=part_map pl (j+1) nb
      have hrt:=HRT.out
      have HI1:Hid (∀ u,Below wr.heap.size wr u→Calls Tryz.prog 37 #[.slice P1 nb d1,.string (SRT++⟨#[32,32]⟩)] u fun e w'=>e = .returned (.string (str (lnS (rt++[32,32]) (((pl.map (·.s)).drop (j+1)).take nb))))∧Below u.heap.size u w'):=fun u hu=>by
       have:=HIH.out ((pl.drop (j+1)).take nb) (.slice P1 nb d1) u (rt++[32,32]) da (by omega) (by rw [m1];exact hda) (fits_sub HFIT.out mem_part) (by rw [List.length_append];simp only [List.length_cons,List.length_nil];omega) (hv1.below hu)
       rw [m1,str_app,HSRT.out] at this
       exact this
      have z1:(str (lnS (rt++[32,32]) (((pl.map (·.s)).drop (j+1)).take nb))).size≤500000:=by
       rw [str_size]
       have:=lnS_len hda (fun x hx=>by
        rw [← m1] at hx
        obtain ⟨y,hy,rfl⟩:=List.mem_map.1 hx
        exact HFIT.out y (mem_part y hy)) (rt++[32,32]) (by rw [← m1,List.length_map,List.length_append];simp only [List.length_cons,List.length_nil];omega)
       have hq:(((pl.map (·.s)).drop (j+1)).take nb).length=((pl.drop (j+1)).take nb).length:=by rw [← m1,List.length_map]
       omega
      rw [List.drop_drop,List.drop_drop,← Nat.add_assoc,if_neg (by omega)] at hln
      have HNA:Hid ((acc++(rt++lineS ⟨kind,reg,name,xe,xf,n,nb,ne,pos⟩)++(tOpen++lnS (rt++[32,32]) (((pl.map (·.s)).drop (j+1)).take nb))++(rt++tShut))++lnS rt ((pl.map (·.s)).drop (j+1+nb+ne))=T):=by
       show _=_
       rw [← hacc,hln]
       simp only [List.append_assoc,List.nil_append]
      have HNX:Hid (str acc++(SRT++str (lineS ⟨kind,reg,name,xe,xf,n,nb,ne,pos⟩))++(str [32,123,10]++str (lnS (rt++[32,32]) (((pl.map (·.s)).drop (j+1)).take nb)))++(SRT++str [125,10])=str (acc++(rt++lineS ⟨kind,reg,name,xe,xf,n,nb,ne,pos⟩)++(tOpen++lnS (rt++[32,32]) (((pl.map (·.s)).drop (j+1)).take nb))++(rt++tShut))):=by
       show _=_
       rw [← HSRT.out]
       simp only [← str_app]
       rfl
      have HRD3:Hid (∃ d,Rd true ((pl.map (·.s)).drop (j+1+nb+ne)) d):=by
       have:=HRD2.out
       rw [List.drop_drop,← Nat.add_assoc] at this
       exact this
      clear hacc hln hda HRD2 l1 m1 hv1 hrd3 hrt hrd2
      generalize lineS ⟨kind,reg,name,xe,xf,n,nb,ne,pos⟩=L at HHD zL HNA HNX
      generalize lnS (rt++[32,32]) (((pl.map (·.s)).drop (j+1)).take nb)=L1 at HI1 z1 HNA HNX
      generalize str L=SL at HHD zL HNX
      generalize str L1=S1 at HI1 z1 HNX
      generalize str acc=SA at zA HNX ⊢
      have w2:=wrap_in ((j:Int)+1+(nb:Int)) (by omega) (by omega)
      have w3:=wrap_in ((j:Int)+1+(nb:Int)+(ne:Int)) (by omega) (by omega)
      have j0:(0:Int)≤(j:Int)+1:=by omega
      have f0:¬ (9223372036854775807 < SRT.size+SL.size):=by omega
      have f1:¬ (9223372036854775807 < SA.size+(SRT.size+SL.size)):=by omega
      have f2:¬ (9223372036854775807 < SRT.size+2):=by omega
      have f3:¬ (9223372036854775805 < SRT.size):=by omega
      have f4:¬ (9223372036854775807 < 3+S1.size):=by omega
      have f5:¬ (9223372036854775807 < SA.size+(SRT.size+SL.size)+(3+S1.size)):=by omega
      have f6:¬ (9223372036854775807 < SA.size+(SRT.size+SL.size)+(3+S1.size)+(SRT.size+2)):=by omega
      go_wp2_with (first | (go_at_call 67;(with_reducible refine (HHD.out _ (by repeat (first | exact al _ _ | exact Below.refl _ _ | assumption | refine bdrN ?_ _ | refine bdr ?_))).mono ?_);rintro e w3 ⟨rfl,hb3⟩;have hk0:=hb3.cell (p:=⟨wr.heap.size,0,none⟩) (by simp only [World.size_alloc];omega);have hk7:=hb3.cell (p:=⟨wr.heap.size,7,none⟩) (by simp only [World.size_alloc];omega);have hlt3:wr.heap.size < w3.heap.size:=Nat.lt_of_lt_of_le (by simp only [World.size_alloc];omega) hb3.size;have HB3:Hid (Below wr.heap.size wr w3):=bt (al _ _) hb3;clear hb3) | (go_at_call_of 37 (Value.slice P1 nb d1);(with_reducible refine (HI1.out _ HB3.out).mono ?_);rintro e w4 ⟨rfl,hb4⟩;have hm7:=hb4.cell (p:=⟨wr.heap.size,7,none⟩) hlt3;have HB4:Hid (Below wr.heap.size wr w4):=bt HB3.out hb4;have hlt4:wr.heap.size < w4.heap.size:=Nat.lt_of_lt_of_le hlt3 hb4.size;clear hb4))
      go_roundw
      case rel=>exact ⟨j+1+nb+ne,_,by omega,by first | exact congrArg Value.string HNX.out | (rw [← HNX.out];rfl),by go_num,HRD3.out,HNA.out,bt HB.out HB4.out⟩
      case measure=>simp [intOf];omega
  ·have hje:j=pl.length:=by omega
   have HR:Hid (str acc=str T):=by
    show _=_
    rw [← HACC.out,List.drop_eq_nil_of_le (by rw [List.length_map];omega),lnS_nil,List.append_nil]
   go_wp2_with fail
   go_ret
   exact ⟨ret_str HR.out,HB.out⟩
theorem rlinesS_c (pl:List Sv) (v:Value) (w:World) (rt:List UInt8) (d:Nat) (h1:Rd true (pl.map (·.s)) d) (h2:∀ x∈pl,Fits x.s) (h3:rt.length+2*pl.length≤200) (hv:Svs w v pl) :
 Calls Tryz.prog 37 #[v,.string (str rt)] w fun e w'=>e = .returned (.string (str (lnS rt (pl.map (·.s)))))∧Below w.heap.size w w' :=
 (Nat.strongRecOn (motive:=fun N=>LinesC 37 N) pl.length (fun N IH=>rlines_step N IH)) pl v w rt d (Nat.le_refl _) h1 h2 h3 hv
end Go.Proofs.YtaoeaaebafcegaaGreatDoor

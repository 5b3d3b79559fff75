/- Chapter 04 (statements), joined: StrL. -/
import Derived.Test.YtaoeaaebafcegaaGreatDoorPkA26
import Derived.Test.YtaoeaaebafcegaaGreatDoorPkA32
set_option maxRecDepth 100000
set_option maxHeartbeats 16000000
namespace Go.Proofs.YtaoeaaebafcegaaGreatDoor
open Go Go.RowKit
set_option linter.unusedVariables false
theorem max3p (m p q:Int):(if (if m < p+1 then p+1 else m) < q+1 then q+1 else if m < p+1 then p+1 else m)=max m (max (p+1) (q+1)):=by
 repeat' split
 all_goals omega
theorem pdeep_step (N:Nat) (IH:∀ M,M < N→DeepC 32 M):DeepC 32 N:=by
 intro pl v w lo hN h40 hlo hlo2 hv
 have HIH:Hid (∀ (q:List Sv) (u:Value) (x:World) (z:Int),q.length < pl.length→q.length≤40→0≤z→z+q.length≤1000→Svs x u q→Calls Tryz.prog 32 #[u,.int .i64 z] x fun e w'=>e = .returned (.int .i64 (dpS (decide (0 < z)) (q.map (·.s))))∧Below x.heap.size x w'):=fun q u x z h1 h2 h3 h4 h5=>IH q.length (by omega) q u x z (Nat.le_refl _) h2 h3 h4 h5
 clear IH
 obtain ⟨A0,c0,rfl,hc0⟩:=hv.shape
 have HV:=Lib.hid hv
 obtain ⟨T,HT⟩:∃ T,Hid (dpS (decide (0 < lo)) (pl.map (·.s))=T):=⟨_,rfl⟩
 rw [HT.out]
 clear hv
 go_enter Tryz.func32,Tryz.ntmps32
 go_wp2_with fail
 go_loopw [5,6] (fun n i wr=>∃ (j:Nat) (m:Int),j≤pl.length∧n = .int .i64 m∧i = .int .i64 j∧0≤m∧m≤41∧Hid (restD (decide (0 < lo)) (pl.map (·.s)) j m=T)∧Below w.heap.size w wr) (fun _ i _=>pl.length - (intOf i).toNat)
 case atStart=>exact ⟨0,0,Nat.zero_le _,rfl,rfl,by omega,by omega,by show _=_;rw [restD_start];exact HT.out,Below.refl _ _⟩
 case round =>
  obtain ⟨j,m,hj,rfl,rfl,hm0,hm1,HRD,hb⟩:=hrel
  have HB:=Lib.hid hb
  by_cases hjl:j < pl.length
  ·obtain ⟨b,off,c,hE0,hcc,hbt,hat⟩:=HV.out.at_ (by omega)
   cases hE0
   have hx:=(hat j hjl).below hb hbt
   have hlm:j < (pl.map (·.s)).length:=by simpa using hjl
   have HNX:=Lib.hid (HV.out.2 _ (List.getElem_mem hjl))
   have hsv:=sv_map hjl
   have hjl2:(j:Int) < (pl.length:Int):=by omega
   have hlm2:(pl.map (·.s)).length=pl.length:=by simp
   clear hb hat
   by_cases hbad:badS (pl[j]).s (pl.length - (j+1)) (decide (0 < lo))
   ·have HR:Hid (T = -1):=by
     show _=_
     rw [← HRD.out]
     exact restD_bad hlm (by rw [hsv,hlm2];exact hbad)
    have HBAD:=Lib.hid hbad
    clear hbad HRD hsv hlm hlm2
    generalize pl[j] = x at hx HNX HBAD
    obtain ⟨⟨kind,reg,name,xe,xf,n,body,els,pos⟩,ev,fv⟩:=x
    obtain ⟨hx0,hx1,hx2,hx3,hx4,hx5,hx6,hx7,hx8⟩:=hx
    have hnx:=HNX.out
    dsimp only at hnx hx0 hx1 hx2 hx3 hx4 hx5 hx6 hx7 hx8 HBAD
    obtain ⟨A5,c5,rfl,_⟩:=Nods.shape hnx.1
    obtain ⟨A6,c6,rfl,_⟩:=Nods.shape hnx.2
    clear hnx HNX
    by_cases hfar:body < 0∨els < 0∨(pl.length:Int) < body∨(pl.length:Int) < els
    ·have HFAR:=Lib.hid hfar
     clear hfar
     go_upto_region 13 with fail
     all_goals first
      | (go_ret;exact ⟨ret_int HR.out.symm,bt HB.out (al _ _)⟩)
      | (exfalso
         have h1:=HFAR.out
         omega)
    ·have q0:0≤body:=by omega
     have q1:0≤els:=by omega
     have q2:body≤(pl.length:Int):=by omega
     have q3:els≤(pl.length:Int):=by omega
     clear hfar
     have w1:=wrap_in ((j:Int)+1) (by omega) (by omega)
     have w2:=wrap_in ((j:Int)+1+body) (by omega) (by omega)
     have w3:=wrap_in ((j:Int)+1+body+els) (by omega) (by omega)
     by_cases g11:kind=11
     ·subst g11
      go_upto_region 13 with fail
      all_goals first
       | (go_ret;exact ⟨ret_int HR.out.symm,bt HB.out (al _ _)⟩)
       | (exfalso
          clear w1 w2 w3
          have h1:=HBAD.out
          unfold badS at h1
          dsimp only at h1
          first
           | (have hq:(lo == 0)=false:=by assumption
              rw [beq_eq_false_iff_ne] at hq
              rcases h1 with h1 | h1 | h1 | h1
              ·omega
              ·omega
              ·omega
              ·have:=of_decide_eq_false h1.2;omega)
           | (rcases h1 with h1 | h1 | h1 | h1 <;> omega))
     ·by_cases g12:kind=12
      ·subst g12
       go_upto_region 13 with fail
       all_goals first
        | (go_ret;exact ⟨ret_int HR.out.symm,bt HB.out (al _ _)⟩)
        | (exfalso
           clear w1 w2 w3
           have h1:=HBAD.out
           unfold badS at h1
           dsimp only at h1
           first
            | (have hq:(lo == 0)=false:=by assumption
               rw [beq_eq_false_iff_ne] at hq
               rcases h1 with h1 | h1 | h1 | h1
               ·omega
               ·omega
               ·omega
               ·have:=of_decide_eq_false h1.2;omega)
            | (rcases h1 with h1 | h1 | h1 | h1 <;> omega))
      ·have k11:(kind == 11)=false:=by rw [beq_eq_false_iff_ne];exact g11
       have k12:(kind == 12)=false:=by rw [beq_eq_false_iff_ne];exact g12
       have n11:(kind != 11)=true:=by rw [bne_iff_ne];exact g11
       go_upto_region 13 with fail
       all_goals first
        | (go_ret;exact ⟨ret_int HR.out.symm,bt HB.out (al _ _)⟩)
        | (exfalso
           clear w1 w2 w3
           have h1:=HBAD.out
           unfold badS at h1
           dsimp only at h1
           first
            | (have hq:(lo == 0)=false:=by assumption
               rw [beq_eq_false_iff_ne] at hq
               rcases h1 with h1 | h1 | h1 | h1
               ·omega
               ·omega
               ·omega
               ·have:=of_decide_eq_false h1.2;omega)
            | (rcases h1 with h1 | h1 | h1 | h1 <;> omega))
   ·have HNB:=Lib.hid hbad
    generalize hxe:pl[j] = x at hx HNX HNB hsv
    obtain ⟨⟨kind,reg,name,xe,xf,n,body,els,pos⟩,ev,fv⟩:=x
    obtain ⟨hx0,hx1,hx2,hx3,hx4,hx5,hx6,hx7,hx8⟩:=hx
    have hnx:=HNX.out
    dsimp only at hnx hx0 hx1 hx2 hx3 hx4 hx5 hx6 hx7 hx8 hsv
    have hnb:=HNB.out
    unfold badS at hnb
    dsimp only at hnb
    have hb0:0≤body:=by omega
    have he0:0≤els:=by omega
    obtain ⟨nb,rfl⟩:=Int.eq_ofNat_of_zero_le hb0
    obtain ⟨ne,rfl⟩:=Int.eq_ofNat_of_zero_le he0
    have hbe:j+1+nb+ne≤pl.length:=by omega
    have h13:kind=13→0 < lo:=fun e=>by
     rcases Int.lt_or_le 0 lo with h | h
     ·exact h
     ·exact absurd (.inr (.inr (.inr ⟨e,decide_eq_false (by omega)⟩))) hnb
    have HNB2:Hid (¬ badS ((pl.map (·.s))[j]'hlm) ((pl.map (·.s)).length - (j+1)) (decide (0 < lo))):=by rw [hsv,hlm2];exact HNB.out
    obtain ⟨A5,c5,rfl,_⟩:=Nods.shape hnx.1
    obtain ⟨A6,c6,rfl,_⟩:=Nods.shape hnx.2
    clear hnx HNX HNB hbad
    by_cases hkb:kind=11∨kind=12
    ·rcases hkb with rfl | rfl
     ·have hdc:(decide (0 < lo) || decide ((11:Int)=12))=decide (0 < lo):=by simp
      have HBL:Hid (∀ u,Calls Tryz.prog 61 #[.bool false] u fun e w'=>e = .returned (.int .i64 0)∧u=w'):=fun u=>boolP_c false u
      obtain ⟨P1,d1,hs1,hv1⟩:=(HV.out.below HB.out).cut (j+1) nb (by omega) ((j:Int)+1) ((j:Int)+1+(nb:Int)) (by omega) (by omega)
      obtain ⟨P2,d2,hs2,hv2⟩:=(HV.out.below HB.out).cut (j+1+nb) ne (by omega) ((j:Int)+1+(nb:Int)) ((j:Int)+1+(nb:Int)+(ne:Int)) (by omega) (by omega)
      have l1:((pl.drop (j+1)).take nb).length≤nb:=by rw [List.length_take];omega
      have l2:((pl.drop (j+1+nb)).take ne).length≤ne:=by rw [List.length_take];omega
      have m1:=part_map pl (j+1) nb
      have m2:=part_map pl (j+1+nb) ne
      obtain ⟨p,hp⟩:∃ p,dpS (decide (0 < lo)) (((pl.map (·.s)).drop (j+1)).take nb)=p:=⟨_,rfl⟩
      obtain ⟨q,hq⟩:∃ q,dpS (decide (0 < lo)) (((pl.map (·.s)).drop (j+1+nb)).take ne)=q:=⟨_,rfl⟩
      have hp0:-1≤p:=by rw [← hp];exact dpS_ge _ _
      have hq0:-1≤q:=by rw [← hq];exact dpS_ge _ _
      have hp1:p≤40:=by
       have:=dpS_le (decide (0 < lo)) (((pl.map (·.s)).drop (j+1)).take nb)
       rw [hp,← m1,List.length_map] at this
       omega
      have hq1:q≤40:=by
       have:=dpS_le (decide (0 < lo)) (((pl.map (·.s)).drop (j+1+nb)).take ne)
       rw [hq,← m2,List.length_map] at this
       omega
      have HI1:Hid (∀ u,Below wr.heap.size wr u→Calls Tryz.prog 32 #[.slice P1 nb d1,.int .i64 lo] u fun e w'=>e = .returned (.int .i64 p)∧Below u.heap.size u w'):=fun u hu=>by
       have:=HIH.out ((pl.drop (j+1)).take nb) (.slice P1 nb d1) u lo (by omega) (by omega) (by omega) (by omega) (hv1.below hu)
       rw [m1,hp] at this
       exact this
      have HI2:Hid (∀ u,Below wr.heap.size wr u→Calls Tryz.prog 32 #[.slice P2 ne d2,.int .i64 lo] u fun e w'=>e = .returned (.int .i64 q)∧Below u.heap.size u w'):=fun u hu=>by
       have:=HIH.out ((pl.drop (j+1+nb)).take ne) (.slice P2 ne d2) u lo (by omega) (by omega) (by omega) (by omega) (hv2.below hu)
       rw [m2,hq] at this
       exact this
      have HL:Hid (T=if p < 0∨q < 0 then -1 else restD (decide (0 < lo)) (pl.map (·.s)) (j+1+nb+ne) (max m (max (p+1) (q+1)))):=by
       show _=_
       rw [← HRD.out]
       have:=restD_block (n:=m) hlm HNB2.out (by rw [hsv];exact (.inl rfl)) (p:=p) (q:=q) (by rw [hsv];dsimp only;rw [hdc,Int.toNat_natCast];exact hp) (by rw [hsv];dsimp only;rw [hdc,Int.toNat_natCast,Int.toNat_natCast];exact hq)
       rw [this,hsv]
       rfl
      have w1:=wrap_in ((j:Int)+1) (by omega) (by omega)
      have w2:=wrap_in ((j:Int)+1+(nb:Int)) (by omega) (by omega)
      have w3:=wrap_in ((j:Int)+1+(nb:Int)+(ne:Int)) (by omega) (by omega)
      have j0:(0:Int)≤(j:Int)+1:=by omega
      have bh:(nb:Int)≤(pl.length:Int):=by omega
      have eh:(ne:Int)≤(pl.length:Int):=by omega
      have gh:(j:Int)+1+(nb:Int)+(ne:Int)≤(pl.length:Int):=by omega
      have HS1:=Lib.hid hs1
      have HS2:=Lib.hid hs2
      clear hs1 hs2 hv1 hv2 l1 l2 m1 m2 hp hq hdc hnb hsv HNB2 HRD hxe hlm hlm2 h13 hb0 he0
      go_upto_region 5 with fail
      have HSB:Hid (SB (wr.alloc (.cells #[.int .i64 11,.string (str reg),.string (str name),.slice A5 xe.length c5,.slice A6 xf.length c6,.int .i64 n,.int .i64 (nb:Int),.int .i64 (ne:Int),.int .i64 pos] 31)) wr.heap.size ⟨11,reg,name,xe,xf,n,nb,(ne:Int),pos⟩ (.slice A5 xe.length c5) (.slice A6 xf.length c6)):=sb_new wr ⟨11,reg,name,xe,xf,n,nb,(ne:Int),pos⟩ _ _
      have HBY:Hid (Below wr.heap.size wr (wr.alloc (.cells #[.int .i64 11,.string (str reg),.string (str name),.slice A5 xe.length c5,.slice A6 xf.length c6,.int .i64 n,.int .i64 (nb:Int),.int .i64 (ne:Int),.int .i64 pos] 31))):=al wr _
      obtain ⟨pb,HPB⟩:∃ pb,Hid (wr.heap.size=pb):=⟨_,rfl⟩
      rw [HPB.out] at HSB ⊢
      generalize World.alloc wr _=Y at HSB HBY ⊢
      clear hx0 hx1 hx2 hx3 hx4 hx5 hx6 hx7 hx8
      obtain ⟨sl,s0,s1,s2,s3,s4,s5,s6,s7,s8,sfr⟩:=HSB.out
      dsimp only at s0 s6 s7
      clear s1 s2 s3 s4 s5 s8 sfr
      go_upto_region 15 with (go_at_call 61;(with_reducible refine (HBL.out _).mono ?_);rintro e wb ⟨rfl,rfl⟩)
      all_goals (try (exfalso;have hne0:=HNE.out;omega))
      have hs1:=HS1.out
      have hs2:=HS2.out
      have HX:Hid (∀ u,Below Y.heap.size Y u→u.cell? ⟨pb,6,none⟩=some (.int .i64 (nb:Int))):=fun u hu=>(HSB.out.below hu).c6
      clear sl HSB
      go_region_held3 (fun u=>u.cell? ⟨pb,6,none⟩=some (.int .i64 (nb:Int)))
       (exact HX.out _ (bld))
       (first
         | (go_at_call_of 32 (Value.slice P1 nb d1);(with_reducible refine (HI1.out _ (bt HBY.out (bld))).mono ?_);rintro e w4 ⟨rfl,hb4⟩;have h4:Below Y.heap.size Y w4:=bt (bld) hb4;clear hb4)
         | (go_at_call_of 32 (Value.slice P2 ne d2);(with_reducible refine (HI2.out _ (bt HBY.out (bld))).mono ?_);rintro e w5 ⟨rfl,hb5⟩;have h5:Below Y.heap.size Y w5:=bt (bld) hb5;clear hb5))
      all_goals
       clear hs1 hs2
       have HB2:Hid (Below wr.heap.size wr w5):=bt HBY.out h5
       clear h4 h5
       cases hpm:(p == -1)
       ·cases hqm:(q == -1)
        ·have hL:Hid (T=restD (decide (0 < lo)) (pl.map (·.s)) (j+1+nb+ne) (max m (max (p+1) (q+1)))):=by
          show _=_
          rw [beq_eq_false_iff_ne] at hpm hqm
          rw [HL.out,if_neg (by omega)]
         go_wp2_with fail
         go_roundw
         case rel=>exact ⟨j+1+nb+ne,max m (max (p+1) (q+1)),by omega,by rw [max3p],by go_num,by omega,by omega,hL.out.symm,bt HB.out (bt HB2.out (by repeat (first | exact Below.refl _ _ | refine bdrN ?_ _ | refine bdr ?_)))⟩
         case measure=>simp [intOf];omega
        ·have hL:Hid (T = -1):=by
          show _=_
          rw [beq_iff_eq] at hqm
          rw [HL.out,if_pos (by omega)]
         go_wp2_with fail
         go_ret
         exact ⟨ret_int hL.out.symm,bt HB.out (bt HB2.out (by repeat (first | exact Below.refl _ _ | refine bdrN ?_ _ | refine bdr ?_)))⟩
       ·have hL:Hid (T = -1):=by
         show _=_
         rw [beq_iff_eq] at hpm
         rw [HL.out,if_pos (by omega)]
        go_wp2_with fail
        go_ret
        exact ⟨ret_int hL.out.symm,bt HB.out (bt HB2.out (by repeat (first | exact Below.refl _ _ | refine bdrN ?_ _ | refine bdr ?_)))⟩
     ·have HNE:Hid (ne=0):=by show _=_;omega
      have hdc:(decide (0 < lo) || decide ((12:Int)=12))=decide (0 < (lo+1)):=by (rw [decide_eq_true (by omega:0 < lo+1)];simp)
      have HBL:Hid (∀ u,Calls Tryz.prog 61 #[.bool true] u fun e w'=>e = .returned (.int .i64 1)∧u=w'):=fun u=>boolP_c true u
      obtain ⟨P1,d1,hs1,hv1⟩:=(HV.out.below HB.out).cut (j+1) nb (by omega) ((j:Int)+1) ((j:Int)+1+(nb:Int)) (by omega) (by omega)
      obtain ⟨P2,d2,hs2,hv2⟩:=(HV.out.below HB.out).cut (j+1+nb) ne (by omega) ((j:Int)+1+(nb:Int)) ((j:Int)+1+(nb:Int)+(ne:Int)) (by omega) (by omega)
      have l1:((pl.drop (j+1)).take nb).length≤nb:=by rw [List.length_take];omega
      have l2:((pl.drop (j+1+nb)).take ne).length≤ne:=by rw [List.length_take];omega
      have m1:=part_map pl (j+1) nb
      have m2:=part_map pl (j+1+nb) ne
      obtain ⟨p,hp⟩:∃ p,dpS (decide (0 < (lo+1))) (((pl.map (·.s)).drop (j+1)).take nb)=p:=⟨_,rfl⟩
      obtain ⟨q,hq⟩:∃ q,dpS (decide (0 < (lo+1))) (((pl.map (·.s)).drop (j+1+nb)).take ne)=q:=⟨_,rfl⟩
      have hp0:-1≤p:=by rw [← hp];exact dpS_ge _ _
      have hq0:-1≤q:=by rw [← hq];exact dpS_ge _ _
      have hp1:p≤40:=by
       have:=dpS_le (decide (0 < (lo+1))) (((pl.map (·.s)).drop (j+1)).take nb)
       rw [hp,← m1,List.length_map] at this
       omega
      have hq1:q≤40:=by
       have:=dpS_le (decide (0 < (lo+1))) (((pl.map (·.s)).drop (j+1+nb)).take ne)
       rw [hq,← m2,List.length_map] at this
       omega
      have HI1:Hid (∀ u,Below wr.heap.size wr u→Calls Tryz.prog 32 #[.slice P1 nb d1,.int .i64 (lo+1)] u fun e w'=>e = .returned (.int .i64 p)∧Below u.heap.size u w'):=fun u hu=>by
       have:=HIH.out ((pl.drop (j+1)).take nb) (.slice P1 nb d1) u (lo+1) (by omega) (by omega) (by omega) (by omega) (hv1.below hu)
       rw [m1,hp] at this
       exact this
      have HI2:Hid (∀ u,Below wr.heap.size wr u→Calls Tryz.prog 32 #[.slice P2 ne d2,.int .i64 (lo+1)] u fun e w'=>e = .returned (.int .i64 q)∧Below u.heap.size u w'):=fun u hu=>by
       have:=HIH.out ((pl.drop (j+1+nb)).take ne) (.slice P2 ne d2) u (lo+1) (by omega) (by omega) (by omega) (by omega) (hv2.below hu)
       rw [m2,hq] at this
       exact this
      have HL:Hid (T=if p < 0∨q < 0 then -1 else restD (decide (0 < lo)) (pl.map (·.s)) (j+1+nb+ne) (max m (max (p+1) (q+1)))):=by
       show _=_
       rw [← HRD.out]
       have:=restD_block (n:=m) hlm HNB2.out (by rw [hsv];exact (.inr rfl)) (p:=p) (q:=q) (by rw [hsv];dsimp only;rw [hdc,Int.toNat_natCast];exact hp) (by rw [hsv];dsimp only;rw [hdc,Int.toNat_natCast,Int.toNat_natCast];exact hq)
       rw [this,hsv]
       rfl
      have w1:=wrap_in ((j:Int)+1) (by omega) (by omega)
      have w2:=wrap_in ((j:Int)+1+(nb:Int)) (by omega) (by omega)
      have w3:=wrap_in ((j:Int)+1+(nb:Int)+(ne:Int)) (by omega) (by omega)
      have j0:(0:Int)≤(j:Int)+1:=by omega
      have bh:(nb:Int)≤(pl.length:Int):=by omega
      have eh:(ne:Int)≤(pl.length:Int):=by omega
      have gh:(j:Int)+1+(nb:Int)+(ne:Int)≤(pl.length:Int):=by omega
      have HS1:=Lib.hid hs1
      have HS2:=Lib.hid hs2
      clear hs1 hs2 hv1 hv2 l1 l2 m1 m2 hp hq hdc hnb hsv HNB2 HRD hxe hlm hlm2 h13 hb0 he0
      go_upto_region 5 with fail
      have HSB:Hid (SB (wr.alloc (.cells #[.int .i64 12,.string (str reg),.string (str name),.slice A5 xe.length c5,.slice A6 xf.length c6,.int .i64 n,.int .i64 (nb:Int),.int .i64 (ne:Int),.int .i64 pos] 31)) wr.heap.size ⟨12,reg,name,xe,xf,n,nb,(ne:Int),pos⟩ (.slice A5 xe.length c5) (.slice A6 xf.length c6)):=sb_new wr ⟨12,reg,name,xe,xf,n,nb,(ne:Int),pos⟩ _ _
      have HBY:Hid (Below wr.heap.size wr (wr.alloc (.cells #[.int .i64 12,.string (str reg),.string (str name),.slice A5 xe.length c5,.slice A6 xf.length c6,.int .i64 n,.int .i64 (nb:Int),.int .i64 (ne:Int),.int .i64 pos] 31))):=al wr _
      obtain ⟨pb,HPB⟩:∃ pb,Hid (wr.heap.size=pb):=⟨_,rfl⟩
      rw [HPB.out] at HSB ⊢
      generalize World.alloc wr _=Y at HSB HBY ⊢
      clear hx0 hx1 hx2 hx3 hx4 hx5 hx6 hx7 hx8
      obtain ⟨sl,s0,s1,s2,s3,s4,s5,s6,s7,s8,sfr⟩:=HSB.out
      dsimp only at s0 s6 s7
      clear s1 s2 s3 s4 s5 s8 sfr
      go_upto_region 15 with (go_at_call 61;(with_reducible refine (HBL.out _).mono ?_);rintro e wb ⟨rfl,rfl⟩)
      all_goals (try (exfalso;have hne0:=HNE.out;omega))
      have hs1:=HS1.out
      have hs2:=HS2.out
      have HX:Hid (∀ u,Below Y.heap.size Y u→u.cell? ⟨pb,6,none⟩=some (.int .i64 (nb:Int))):=fun u hu=>(HSB.out.below hu).c6
      clear sl HSB
      go_region_held3 (fun u=>u.cell? ⟨pb,6,none⟩=some (.int .i64 (nb:Int)))
       (exact HX.out _ (bld))
       (first
         | (go_at_call_of 32 (Value.slice P1 nb d1);(with_reducible refine (HI1.out _ (bt HBY.out (bld))).mono ?_);rintro e w4 ⟨rfl,hb4⟩;have h4:Below Y.heap.size Y w4:=bt (bld) hb4;clear hb4)
         | (go_at_call_of 32 (Value.slice P2 ne d2);(with_reducible refine (HI2.out _ (bt HBY.out (bld))).mono ?_);rintro e w5 ⟨rfl,hb5⟩;have h5:Below Y.heap.size Y w5:=bt (bld) hb5;clear hb5))
      all_goals
       clear hs1 hs2
       have HB2:Hid (Below wr.heap.size wr w5):=bt HBY.out h5
       clear h4 h5
       cases hpm:(p == -1)
       ·cases hqm:(q == -1)
        ·have hL:Hid (T=restD (decide (0 < lo)) (pl.map (·.s)) (j+1+nb+ne) (max m (max (p+1) (q+1)))):=by
          show _=_
          rw [beq_eq_false_iff_ne] at hpm hqm
          rw [HL.out,if_neg (by omega)]
         go_wp2_with fail
         go_roundw
         case rel=>exact ⟨j+1+nb+ne,max m (max (p+1) (q+1)),by omega,by rw [max3p],by go_num,by omega,by omega,hL.out.symm,bt HB.out (bt HB2.out (by repeat (first | exact Below.refl _ _ | refine bdrN ?_ _ | refine bdr ?_)))⟩
         case measure=>simp [intOf];omega
        ·have hL:Hid (T = -1):=by
          show _=_
          rw [beq_iff_eq] at hqm
          rw [HL.out,if_pos (by omega)]
         go_wp2_with fail
         go_ret
         exact ⟨ret_int hL.out.symm,bt HB.out (bt HB2.out (by repeat (first | exact Below.refl _ _ | refine bdrN ?_ _ | refine bdr ?_)))⟩
       ·have hL:Hid (T = -1):=by
         show _=_
         rw [beq_iff_eq] at hpm
         rw [HL.out,if_pos (by omega)]
        go_wp2_with fail
        go_ret
        exact ⟨ret_int hL.out.symm,bt HB.out (bt HB2.out (by repeat (first | exact Below.refl _ _ | refine bdrN ?_ _ | refine bdr ?_)))⟩
    ·have hnb0:nb=0:=by omega
     have hne0:ne=0:=by omega
     subst hnb0 hne0
     have HL:Hid (restD (decide (0 < lo)) (pl.map (·.s)) (j+1) m=T):=by
      show _=_
      rw [← HRD.out]
      exact (restD_leaf hlm HNB2.out (by rw [hsv];exact hkb)).1.symm
     have k11:(kind == 11)=false:=by rw [beq_eq_false_iff_ne];omega
     have k12:(kind == 12)=false:=by rw [beq_eq_false_iff_ne];omega
     have w1:=wrap_in ((j:Int)+1) (by omega) (by omega)
     clear hnb hkb hsv HNB2 HRD hxe hlm hlm2
     by_cases hk13:kind=13
     ·subst hk13
      have hl0:(lo == 0)=false:=by rw [beq_eq_false_iff_ne];have:=h13 rfl;omega
      clear h13
      go_wp2_with fail
      go_roundw
      case rel=>exact ⟨j+1,m,by omega,rfl,by go_num,hm0,hm1,HL.out,bt HB.out (by repeat (first | exact al _ _ | exact Below.refl _ _ | refine bdrN ?_ _ | refine bdr ?_))⟩
      case measure=>simp [intOf];omega
     ·have k13:(kind == 13)=false:=by rw [beq_eq_false_iff_ne];omega
      have n11:(kind != 11)=true:=by rw [bne_iff_ne];intro e;rw [e] at k11;exact absurd k11 (by decide)
      clear h13 hk13
      go_wp2_with fail
      go_roundw
      case rel=>exact ⟨j+1,m,by omega,rfl,by go_num,hm0,hm1,HL.out,bt HB.out (by repeat (first | exact al _ _ | exact Below.refl _ _ | refine bdrN ?_ _ | refine bdr ?_))⟩
      case measure=>simp [intOf];omega
  ·have hje:j=pl.length:=by omega
   have HR:Hid (T=m):=by
    show _=_
    rw [← HRD.out]
    exact restD_end (by simp;omega) hm0
   go_wp2_with fail
   go_ret
   exact ⟨ret_int HR.out.symm,HB.out⟩
theorem pdeepS_c (pl:List Sv) (h:pl.length≤40) (v:Value) (w:World) (hv:Svs w v pl) :
 Calls Tryz.prog 32 #[v,.int .i64 0] w fun e w'=>e = .returned (.int .i64 (dpS false (pl.map (·.s))))∧Below w.heap.size w w' :=
 (Nat.strongRecOn (motive:=fun N=>DeepC 32 N) pl.length (fun N IH=>pdeep_step N IH)) pl v w 0 (Nat.le_refl _) h (by omega) (by omega) hv
end Go.Proofs.YtaoeaaebafcegaaGreatDoor

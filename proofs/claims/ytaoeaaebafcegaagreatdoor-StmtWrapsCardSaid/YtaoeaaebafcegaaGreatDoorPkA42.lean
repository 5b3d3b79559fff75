/- Chapter 04 (statements), joined: StQP. -/
import Derived.Test.YtaoeaaebafcegaaGreatDoorPkA40
import Derived.Test.YtaoeaaebafcegaaGreatDoorPkA41
set_option maxRecDepth 100000
set_option maxHeartbeats 4000000
namespace Go.Proofs.YtaoeaaebafcegaaGreatDoor
open Go Go.RowKit
set_option linter.unusedVariables false
theorem psign_far {n:Nat} (l:List Tok) (hl:l.length≤100000) (s:List UInt8) (g:Nat) (v o:Value) (i:Nat) (hfar:l.length≤i) (e p:Int) (w:World) (hp:PS (n:Int) w g v i e p o) (hc:Ctx g v l w) :
 Calls Tryz.prog 52 #[.pointer (some ⟨g,0,none⟩),.string (str s)] w fun r w'=>r = .returned (.tuple #[])∧Keep g w w'∧PS (n:Int) w' g v i (wE l i e 5) (wP l i e p) o:=by
 have hct:=hc.now hp.lt
 obtain ⟨A,c,hve,hcc⟩:=hct.shape
 subst hve
 have HPA:=Lib.hid hp
 have HC:=Lib.hid hc
 have HBD:Hid (∀ u,Keep g w u→PS (n:Int) u g (.slice A l.length c) i e p o→Calls Tryz.prog 51 #[.pointer (some ⟨g,0,none⟩),.int .i64 5] u fun r w'=>r = .returned (.tuple #[])∧Keep g u w'∧PS (n:Int) w' g (.slice A l.length c) i (wE l i e 5) (wP l i e p) o):=fun u hk hq=>pwrong_c l hl g _ o i e 5 p u hq (HC.out.keep hk HPA.out.lt)
 have HIS2:Hid (∀ u:World,Keep g w u→Calls Tryz.prog 50 #[.slice A l.length c,.int .i64 i,.string (str s)] u fun r w'=>r = .returned (.bool false)∧u=w'):=fun u hu=>by
  have hh:=is_c l (by omega) i s _ u ((HC.out.keep hu HPA.out.lt).now (Nat.lt_of_lt_of_le HPA.out.lt hu.size))
  unfold IsPost at hh
  rw [isE_out hfar] at hh
  exact hh
 obtain ⟨pl,p0,p1,p2,p3,p4,p5,pf⟩:=hp
 clear hc hct hfar
 by_cases he:e=0
 ·subst he
  go_enter Tryz.func52,Tryz.ntmps52
  go_upto_region 0 with fail
  go_quiet (first | (go_at_call 50;refine (HIS2.out _ ?_).mono ?_;(repeat (first | exact Keep.refl _ _ | refine Keep.drewN ?_ _ | refine Keep.drew ?_));rintro e w' ⟨he,hw⟩;exact ⟨he,_,hw.symm⟩))
  go_wp2_with (go_at_call 51;refine (HBD.out _ ((Keep.refl g w).drewN nq) (HPA.out.drewN nq)).mono ?_;rintro r w2 ⟨rfl,hk2,hp2⟩)
  first | refine bodyPost_end (results_none rfl _ _ _) rfl ?_ | refine bodyPost_ret (results_none rfl _ _ _) rfl ?_
  exact ⟨rfl,((Keep.refl g w).drewN nq).trans hk2,hp2⟩
 ·have heq:(e == 0)=false:=by simpa using he
  go_enter Tryz.func52,Tryz.ntmps52
  go_upto_region 0 with fail
  go_quiet (fail)
  go_wp2_with (go_at_call 51;refine (HBD.out _ ((Keep.refl g w).drewN nq) (HPA.out.drewN nq)).mono ?_;rintro r w2 ⟨rfl,hk2,hp2⟩)
  first | refine bodyPost_end (results_none rfl _ _ _) rfl ?_ | refine bodyPost_ret (results_none rfl _ _ _) rfl ?_
  exact ⟨rfl,((Keep.refl g w).drewN nq).trans hk2,hp2⟩
theorem pblk_far {n:Nat} (l:List Tok) (hl:l.length≤100000) (g:Nat) (v:Value) (i:Nat) (hfar:l.length≤i) (p:Int) (w:World) (hp:PS (n:Int) w g v i 0 p (.slice none 0 0)) (hc:Ctx g v l w) :
 Calls Tryz.prog 27 #[.pointer (some ⟨g,0,none⟩),.int .i64 0] w fun z w'=>z = .returned (.int .i64 0)∧Keep g w w'∧PS (n:Int) w' g v i 6 (placeE l i) (.slice none 0 0):=by
 have HPA:=Lib.hid hp
 have HC:=Lib.hid hc
 have HF:=Lib.hid hfar
 have HE6:Hid (wE l i 0 5=6):=by show _=_;unfold wE;rw [if_pos rfl,if_pos hfar]
 have HP6:Hid (wP l i 0 p=placeE l i):=by show _=_;unfold wP;rw [if_pos rfl]
 have HE7:Hid (∀ q,wE l i 6 5=6∧wP l i 6 q=q):=fun q=>by unfold wE wP;rw [if_neg (by decide),if_neg (by decide)];exact ⟨rfl,rfl⟩
 obtain ⟨A,c,hve,hcc⟩:=(hc.now hp.lt).shape
 subst hve
 obtain ⟨pl0,p0,p1,p2,p3,p4,p5,pf⟩:=hp
 clear hc hfar
 go_enter Tryz.func27,Tryz.ntmps27
 go_upto_region 2 with fail
 go_quiet (fail)
 have HR1:=Lib.hid (HPA.out.drewN nq)
 have HK1:=Lib.hid ((Keep.refl g w).drewN nq)
 clear pl0 p0 p1 p2 p3 p4 p5 pf
 generalize World.drewN _ _=X at HR1 HK1 ⊢
 go_upto_region 5 with (go_at_call 52;refine (psign_far l hl [123] g _ _ i HF.out 0 p _ HR1.out (HC.out.keep HK1.out HPA.out.lt)).mono ?_;rintro r w2 ⟨rfl,hk2,hr2⟩)
 rw [HE6.out,HP6.out] at hr2
 have HR2:=Lib.hid hr2
 have HK2:=Lib.hid (HK1.out.trans hk2)
 clear hr2 hk2
 go_loopw [] (fun wr=>PS (n:Int) wr g (.slice A l.length c) i 6 (placeE l i) (.slice none 0 0)∧Keep g w wr) (fun _=>0)
 case atStart=>exact ⟨HR2.out,HK2.out⟩
 case round =>
  obtain ⟨hr,hk⟩:=hrel
  have HR3:=Lib.hid (hr)
  have HK3:=Lib.hid (hk)
  clear hr hk
  obtain ⟨pl0,p0,p1,p2,p3,p4,p5,pf⟩:=HR3.out
  go_upto_region 5 with fail
  go_quiet (fail)
  replace HR3:=Lib.hid (HR3.out.drewN nq)
  replace HK3:=Lib.hid (HK3.out.drewN nq)
  clear pl0 p0 p1 p2 p3 p4 p5 pf
  generalize World.drewN _ _=Y at HR3 HK3 ⊢
  go_upto_region 8 with (go_at_call 52;refine (psign_far l hl [125] g _ _ i HF.out 6 _ _ HR3.out (HC.out.keep HK3.out HPA.out.lt)).mono ?_;rintro r w4 ⟨rfl,hk4,hr4⟩)
  rw [(HE7.out 0).1,(HE7.out _).2] at hr4
  have HR4:=Lib.hid hr4
  have HK4:=Lib.hid (HK3.out.trans hk4)
  clear hr4 hk4
  obtain ⟨pl0,p0,p1,p2,p3,p4,p5,pf⟩:=HR4.out
  go_wp2_with fail
  go_ret
  exact ⟨ret_int (by omega),HK4.out,HR4.out⟩
theorem ps_new (w:World) (v:Value) (i:Int) (t:TypeId):PS 0 (w.alloc (.cells #[v,.int .i64 i,.int .i64 0,.int .i64 0,.int .i64 0,.slice none 0 0] t)) w.heap.size v i 0 0 (.slice none 0 0):=by
 refine ⟨by rw [World.size_alloc];omega,cells_new _ _ _ _ _ rfl,cells_new _ _ _ _ _ rfl,cells_new _ _ _ _ _ rfl,cells_new _ _ _ _ _ rfl,cells_new _ _ _ _ _ rfl,cells_new _ _ _ _ _ rfl,fun j=>by simp⟩
theorem own_base {w:World} {B B':Nat} {e:TypeId} {size:Nat} {v:Value} {n:Nat} {xs:List Value} (h:w.ownsRow B e size v n xs) (hb:B'≤B):w.ownsRow B' e size v n xs:=by
 refine ⟨h.1,?_⟩
 rcases h.2 with h2 | ⟨q,cap,cur,hv,hq,r⟩
 ·exact .inl h2
 ·exact .inr ⟨q,cap,cur,hv,by omega,r⟩
theorem SOwP.old {g:Nat} {w:World} {v:Value} {pl:List Sv} (h:SOwP (fun k=>k < g+1) (g+1) w v pl):SOwP (fun k=>k < g) g w v pl :=
 ⟨own_base h.own (Nat.le_succ _),fun x hx=>(h.nods x hx).mono (fun k _ e=>e.elim .inl (fun e=>.inr (Nat.lt_succ_of_lt e)))⟩
theorem sowp_nil (T:Nat→Prop) (B:Nat) (w:World):SOwP T B w (.slice none 0 0) []:=⟨World.ownsRow_nil _ _ _ _,fun x hx=>by cases hx⟩
def SParseO (l:List Tok) (i:Int) (w:World) (e:Ending) (w':World):Prop :=
 ∃ V,e = .returned (.tuple #[V,.int .i64 (parS l i).2.1,.int .i64 (parS l i).2.2.1,.int .i64 (parS l i).2.2.2])∧(∃ pl:List Sv,pl.map (·.s)=(parS l i).1∧SOwP (fun k=>k < w.heap.size) w.heap.size w' V pl)∧Below w.heap.size w w'
theorem sparse_reto {l:List Tok} {i:Int} {R:List St × Int × Int × Int} (hR:parS l i=R) {w w':World} {V:Value} {a b c:Int} (ha:R.2.1=a) (hb:R.2.2.1=b) (hc:R.2.2.2=c) (hV:∃ pl:List Sv,pl.map (·.s)=R.1∧SOwP (fun k=>k < w.heap.size) w.heap.size w' V pl) (hB:Below w.heap.size w w') :
 SParseO l i w (.returned (.tuple #[V,.int .i64 a,.int .i64 b,.int .i64 c])) w':=by
 subst hR ha hb hc;exact ⟨V,rfl,hV,hB⟩
theorem SParse_c (l:List Tok) (hl:l.length≤100000) (htx:∀ t∈l,t.text.length≤1000000) (v:Value) (i:Int) (w:World) (hv:Toks w v l) (hE:Env w) :
 Calls Tryz.prog 12 #[v,.int .i64 i] w (SParseO l i w):=by
 obtain ⟨Av,cv,hve,hcv⟩:=hv.shape
 subst hve
 by_cases hi:i < 0
 ·have hR:parS l i=([],0,1,0):=by unfold parS;rw [if_pos hi]
  have HR:=Lib.hid hR
  clear hR hv
  go_enter Tryz.func12,Tryz.ntmps12
  go_wp2_with fail
  refine bodyPost_ret (results_tmp4 rfl _ _ _) rfl ?_
  exact sparse_reto HR.out rfl rfl rfl (⟨[],rfl,sowp_nil _ _ _⟩) (Below.refl _ _)
 ·obtain ⟨n,rfl⟩:=Int.eq_ofNat_of_zero_le (show 0≤i by omega)
  have hi0:decide ((n:Int) < 0)=false:=by simp
  have HCX:Hid (Ctx w.heap.size (.slice Av l.length cv) l (w.alloc (.cells #[.slice Av l.length cv,.int .i64 n,.int .i64 0,.int .i64 0,.int .i64 0,.slice none 0 0] 55))):=⟨Sl.below hv (al _ _),hE.below (al _ _),hE.hm,hE.ht⟩
  have HPQ:=Lib.hid (ps_new w (.slice Av l.length cv) n 55)
  have HBW:=Lib.hid (al w (.cells #[.slice Av l.length cv,.int .i64 n,.int .i64 0,.int .i64 0,.int .i64 0,.slice none 0 0] 55))
  by_cases hfar:l.length≤n
  ·have HPS:=Lib.hid (parS_bad (blk_far hfar))
   have HF:=Lib.hid hfar
   clear hv hi hfar
   go_enter Tryz.func12,Tryz.ntmps12
   go_upto_region 4 with fail
   generalize World.alloc w _=X at HCX HPQ HBW ⊢
   go_upto_region 6 with (go_at_call 27;refine (pblk_far (n:=0) l hl w.heap.size _ n HF.out 0 _ HPQ.out HCX.out).mono ?_;rintro r w2 ⟨rfl,hk2,hr2⟩;obtain ⟨pl0,p0,p1,p2,p3,p4,p5,pf⟩:=hr2)
   go_quiet (fail)
   go_wp2_with fail
   refine bodyPost_ret (results_tmp4 rfl _ _ _) rfl ?_
   exact sparse_reto HPS.out rfl rfl rfl (⟨[],rfl,sowp_nil _ _ _⟩) (qdrN ((KR.of (.slice none 0 0) hk2).belowB HBW.out (Nat.le_refl _) HBW.out.size (fun k e=>by cases e)) _)
  ·have HRW:Hid (RX (0:Int) l w.heap.size (fun k=>k < w.heap.size+1) (.slice Av l.length cv) (.slice none 0 0) (w.alloc (.cells #[.slice Av l.length cv,.int .i64 n,.int .i64 0,.int .i64 0,.int .i64 0,.slice none 0 0] 55)) n 0 0 []) :=
    ⟨HPQ.out,⟨World.ownsRow_nil _ _ _ _,fun x hx=>by cases hx⟩,HCX.out,fun _=>Nat.zero_le _,Nat.zero_le _,by omega,Nat.lt_succ_self _,fun k hk=>by have:=HPQ.out.lt;omega⟩
   have HBK:=Lib.hid (pblk_c l hl htx 13 (Nat.le_refl _))
   have hnl:n < l.length:=by omega
   have hn0:(0:Int)≤(n:Int):=Int.natCast_nonneg _
   have hn1:(n:Int) < (l.length:Int):=by omega
   obtain ⟨bt0,offt,ct,hEE,hct,hbt,hatt⟩:=hv.at_ (by omega)
   cases hEE
   have hpos:Hid (∀ u,Below w.heap.size w u→u.cell? ⟨bt0,offt+n*4+3,none⟩=some (.int .i64 (tk l n).pos)):=fun u hu=>by
    have hps:=(hatt n hnl).pos
    rw [← tk_at hnl] at hps
    exact (hu.cell (p:=⟨bt0,offt+n*4+3,none⟩) hbt).trans hps
   clear hatt hct hv hi hfar
   go_enter Tryz.func12,Tryz.ntmps12
   go_upto_region 4 with fail
   generalize World.alloc w _=X at HCX HPQ HBW HRW ⊢
   go_upto_region 5 with (go_at_call 27;refine (bpk_ok HBK.out (n:=0) (by omega) (by omega) (by omega) HRW.out).mono ?_;rintro r w2 ⟨j,e,p,o,pl,rfl,hr2,hk2,hb2⟩)
   have hBB:=(hk2.belowB HBW.out (Nat.le_refl _) HBW.out.size (fun k e=>by cases e))
   have HB2:=Lib.hid hb2
   have HBB:=Lib.hid hBB
   have HRR:=Lib.hid hr2
   have hps:=hpos.out w2 hBB
   obtain ⟨A3,c3,ho3⟩:=own_len hr2.row.own
   subst ho3
   rw [List.nil_append] at HRR
   obtain ⟨pl0,p0,p1,p2,p3,p4,p5,pf⟩:=hr2.pq
   have HBR:Hid (blkR l 13 false n = .inr (e,p)∧¬ e=0∨e=0∧∃ x,blkR l 13 false n = .inl (x,j)∧pl.map (·.s)=x):=by
    have hb:=HB2.out
    show _∨_
    cases h:blkR l 13 (decide (0 < 0)) n with
    | inr q =>
      obtain ⟨a,c⟩:=q
      rw [h] at hb
      obtain ⟨rfl,rfl,h3⟩:=hb
      exact .inl ⟨h,h3⟩
    | inl q =>
      obtain ⟨x,t⟩:=q
      rw [h] at hb
      obtain ⟨rfl,h2,h3,h4⟩:=hb
      exact .inr ⟨h2,x,h,h4⟩
   clear hr2 hk2 hb2 hBB hpos
   rw [List.nil_append] at p5
   obtain ⟨ps,HPP⟩:∃ ps,Hid ((tk l n).pos=ps):=⟨_,rfl⟩
   rw [HPP.out] at hps
   by_cases he:e=0
   ·subst he
    obtain ⟨x,hx,hpx⟩:∃ x,blkR l 13 false n = .inl (x,j)∧pl.map (·.s)=x:=HBR.out.elim (fun h=>absurd rfl h.2) (fun h=>h.2)
    have hlen:x.length=pl.length:=by rw [← hpx,List.length_map]
    by_cases h40:40 < pl.length
    ·have HPS:Hid (parS l n=([],0,2,ps)):=(parS_big hx (by omega)).trans (by rw [HPP.out])
     have hd40:decide ((40:Int) < (pl.length:Int))=true:=by simp;omega
     clear hx hlen h40 hpx
     go_upto_region 8 with fail
     go_quiet (fail)
     go_wp2_with fail
     refine bodyPost_ret (results_tmp4 rfl _ _ _) rfl ?_
     exact sparse_reto HPS.out rfl rfl rfl (⟨[],rfl,sowp_nil _ _ _⟩) (qdrN HBB.out _)
    ·have HPS:=Lib.hid (parS_ok hx (by omega))
     have hd40:decide ((40:Int) < (pl.length:Int))=false:=by simp;omega
     have HPX:=Lib.hid hpx
     clear hx hlen h40 hpx
     go_upto_region 9 with fail
     go_quiet (fail)
     go_wp2_with fail
     refine bodyPost_ret (results_tmp4 rfl _ _ _) rfl ?_
     exact sparse_reto HPS.out rfl rfl rfl ⟨pl,HPX.out,(HRR.out.drewN nq).row.old⟩ (qdrN HBB.out _)
   ·have HPS:=Lib.hid (parS_bad (HBR.out.elim (fun h=>h.1) (fun h=>absurd h.1 he)))
    have heb:(e == 0)=false:=by simpa using he
    have heb2:(e != 0)=true:=by rw [bne,heb];rfl
    clear he
    go_upto_region 6 with fail
    go_quiet (fail)
    go_wp2_with fail
    refine bodyPost_ret (results_tmp4 rfl _ _ _) rfl ?_
    exact sparse_reto HPS.out rfl rfl rfl (⟨[],rfl,sowp_nil _ _ _⟩) (qdrN HBB.out _)
end Go.Proofs.YtaoeaaebafcegaaGreatDoor

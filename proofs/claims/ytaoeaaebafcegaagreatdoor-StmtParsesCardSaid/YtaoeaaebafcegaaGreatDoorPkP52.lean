/- Chapter 04 (statements), joined: StmL1, StmL2, StmL3, StmM, StmN, StmO, StmP. -/
import Derived.Test.YtaoeaaebafcegaaGreatDoorPkA41
import Derived.Test.YtaoeaaebafcegaaGreatDoorPkP51
set_option maxRecDepth 100000
set_option maxHeartbeats 8000000
namespace Go.Proofs.YtaoeaaebafcegaaGreatDoor
open Go Go.RowKit
set_option linter.unusedVariables false
theorem qoneB_c (l:List Tok) (hl:l.length≤100000) (htx:∀ t∈l,t.text.length≤1000000) (d:Nat) (hd:d≤12) (HB:BlkC l d) (g:Nat) (T:Nat→Prop) (v o:Value) (i:Nat) (p:Int) (pl:List Sv) (n:Nat) (w:World) (hn:n+1+d≤100) (h:RW l g T v o w i 0 p pl) (hk:kindAt l i=13) (h0:n=0) :
 Calls Tryz.prog 49 #[.pointer (some ⟨g,0,none⟩),.int .i64 (12 - (d:Int)),.int .i64 n] w (OnePost l (oneR (blkR l d) (decide (0 < n)) l i) g T v o p pl w):=by
 subst h0
 have HRW:=Lib.hid h
 have HBB:=Lib.hid HB
 clear HB
 have hct:=h.ctx.now h.pq.lt
 obtain ⟨A,c,hve,hcc⟩:=hct.shape
 subst hve
 obtain ⟨Ao,co,hoe⟩:=own_shape h.row.own
 subst hoe
 obtain ⟨i0,hi0,hz0,hz1,hz2⟩:=info_parts info_stmt
 have HP:Hid (∀ u:World,Toks u (.slice A l.length c) l→Calls Tryz.prog 71 #[.slice A l.length c,.int .i64 i] u fun r w'=>r = .returned (.int .i64 (placeE l i))∧Below u.heap.size u w'):=fun u hu=>rplace_c l (by omega) i _ u hu
 have HS:Hid (∀ u,Below w.heap.size w u→u.cell? ⟨g,0,none⟩=some (.slice A l.length c)∧u.cell? ⟨g,1,none⟩=some (.int .i64 i)):=fun u hu=>⟨(HRW.out.pq.below hu).c0,(HRW.out.pq.below hu).c1⟩
 have HT:Hid (∀ u,Below w.heap.size w u→Toks u (.slice A l.length c) l):=fun u hu=>(HRW.out.below hu).ctx.now (HRW.out.below hu).pq.lt
 have HIS:Hid (∀ (k:Nat) u,Below w.heap.size w u→Calls Tryz.prog 46 #[.slice A l.length c,.int .i64 i,.string (str (wordS k))] u fun e w'=>e = .returned (.bool (isE l i (wordS k)))∧Below u.heap.size u w'):=fun k u hu=>(ris_c l (by omega) i (wordS k) _ u (HT.out u hu)).mono (fun e w' he=>⟨he.1,by rw [he.2];exact Below.refl _ _⟩)
 obtain ⟨p0,p1⟩:=HS.out w (Below.refl _ _)
 clear hct h
 rw [oneR_place,hk]
 generalize placeE l i=P at HP ⊢
 have HKK:=Lib.hid hk
 clear hk
 go_enter Tryz.func49,Tryz.ntmps49
 go_upto_region 0 with fail
 go_region_held3 (fun u=>u.cell? ⟨g,0,none⟩=some (.slice A l.length c)∧u.cell? ⟨g,1,none⟩=some (.int .i64 i))
  (exact HS.out _ (blq))
  (first
    | (go_at_call 71;(with_reducible refine (HP.out _ (HT.out _ (blq))).mono ?_);rintro r w5 ⟨rfl,hb5⟩;have h5:Below w.heap.size w w5:=bt (blq) hb5))
 go_upto_region 2 with fail
 go_loopw [6,8] (fun x k wr=>∃ j:Nat,2≤j∧j≤15∧k = .int .i64 j∧x = .int .i64 (kdS l i j:Nat)∧Below w.heap.size w wr) (fun _ k _=>15 - (intOf k).toNat)
 case atStart=>exact ⟨2,Nat.le_refl _,by decide,rfl,by rw [kdS_2];rfl,h5⟩
 case round =>
  obtain ⟨j,hj2,hj15,rfl,rfl,hb⟩:=hrel
  have HS2:Hid (∀ u,Below wr.heap.size wr u→u.cell? ⟨g,0,none⟩=some (.slice A l.length c)∧u.cell? ⟨g,1,none⟩=some (.int .i64 i)):=fun u hu=>HS.out u (bt hb hu)
  have HHB:=Lib.hid hb
  by_cases hj:j < 15
  ·have hj14:j≤14:=by omega
   have hjl:(j:Int)≤14:=by omega
   have HW:Hid (∀ u,Calls Tryz.prog 72 #[.int .i64 j] u fun e w'=>e = .returned (.string (str (wordS j)))∧Below u.heap.size u w'):=fun u=>qword_c j hj14 u
   have HI:=Lib.hid (fun u hu=>HIS.out j u (bt hb hu))
   have HK:Hid (kdS l i (j+1)=if isE l i (wordS j)=true then j else kdS l i j):=by
    show _=_
    cases hw:isE l i (wordS j)
    ·rw [kdS_no hj2 hw,if_neg (by decide)]
    ·rw [kdS_yes hj2 hj14 hw,if_pos rfl]
   obtain ⟨p0,p1⟩:=HS2.out wr (Below.refl _ _)
   clear hb HIS
   generalize kdS l i j=K at HK ⊢
   generalize wordS j=sj at HW HI HK
   cases hw:isE l i sj
   all_goals
    rw [hw] at HI HK
    go_upto_region 4 with fail
    go_region_held3 (fun u=>u.cell? ⟨g,0,none⟩=some (.slice A l.length c)∧u.cell? ⟨g,1,none⟩=some (.int .i64 i))
     (exact HS2.out _ (blq))
     (first
       | (go_at_call 72;(with_reducible refine (HW.out _).mono ?_);rintro r w6 ⟨rfl,hb6⟩;have h6:Below wr.heap.size wr w6:=bt (blq) hb6)
       | (go_at_call 46;(with_reducible refine (HI.out _ (blq)).mono ?_);rintro r w7 ⟨rfl,hb7⟩;have h7:Below wr.heap.size wr w7:=bt (blq) hb7))
    all_goals
     go_wp2_with fail
     go_roundw
     case rel=>exact ⟨j+1,by omega,by omega,by go_num,by rw [HK.out];rfl,bt HHB.out (blq)⟩
     case measure=>simp only [intOf];omega
  ·obtain rfl:j=15:=by omega
   rw [kdS_15,HKK.out]
   have HWR:=Lib.hid (HRW.out.below hb)
   have HB0:=Lib.hid hb
   clear HIS HS2 hb p0 p1 HS HT HP HHB hj hj2 hj15
   have HBD:Hid (∀ e0 u,Below wr.heap.size wr u→Calls Tryz.prog 47 #[.pointer (some ⟨g,0,none⟩),.int .i64 e0] u fun r w'=>r = .returned (.tuple #[])∧Keep g u w'∧PQ w' g (.slice A l.length c) i (wE l i 0 e0) (wP l i 0 p) (.slice Ao pl.length co)):=fun e0 u hu=>qbad_c l hl g _ _ i 0 e0 p u (HWR.out.below hu).pq (HWR.out.below hu).ctx
   obtain ⟨pl0,p0,p1,p2,p3,p4,pf⟩:=HWR.out.pq
   go_wp2_with (go_at_call 47;refine (HBD.out 5 _ (Below.refl _ _)).mono ?_;rintro r w2 ⟨rfl,hk2,hp2⟩)
   refine bodyPost_end (results_none rfl _ _ _) rfl ?_
   have hE:¬ wE l i 0 5=0:=by unfold wE;rw [if_pos rfl];split <;> decide
   refine ⟨i,_,_,_,[],rfl,by rw [List.append_nil];exact HWR.out.keep hk2 hp2 (Nat.le_refl _) HWR.out.im (fun h=>absurd h hE),(KR.of _ (Keep.of HB0.out)).trans (KR.of _ hk2),?_⟩
   unfold oneP
   rw [if_pos ⟨rfl,rfl⟩]
   exact ⟨rfl,rfl,hE⟩
theorem qone1_c (l:List Tok) (hl:l.length≤100000) (htx:∀ t∈l,t.text.length≤1000000) (d:Nat) (hd:d≤12) (HB:BlkC l d) (g:Nat) (T:Nat→Prop) (v o:Value) (i:Nat) (p:Int) (pl:List Sv) (n:Nat) (w:World) (hn:n+1+d≤100) (h:RW l g T v o w i 0 p pl) (hk:kindAt l i=1) :
 Calls Tryz.prog 49 #[.pointer (some ⟨g,0,none⟩),.int .i64 (12 - (d:Int)),.int .i64 n] w (OnePost l (oneR (blkR l d) (decide (0 < n)) l i) g T v o p pl w):=by
 have HRW:=Lib.hid h
 have HBB:=Lib.hid HB
 clear HB
 have hct:=h.ctx.now h.pq.lt
 obtain ⟨A,c,hve,hcc⟩:=hct.shape
 subst hve
 obtain ⟨Ao,co,hoe⟩:=own_shape h.row.own
 subst hoe
 obtain ⟨i0,hi0,hz0,hz1,hz2⟩:=info_parts info_stmt
 have HP:Hid (∀ u:World,Toks u (.slice A l.length c) l→Calls Tryz.prog 71 #[.slice A l.length c,.int .i64 i] u fun r w'=>r = .returned (.int .i64 (placeE l i))∧Below u.heap.size u w'):=fun u hu=>rplace_c l (by omega) i _ u hu
 have HS:Hid (∀ u,Below w.heap.size w u→u.cell? ⟨g,0,none⟩=some (.slice A l.length c)∧u.cell? ⟨g,1,none⟩=some (.int .i64 i)):=fun u hu=>⟨(HRW.out.pq.below hu).c0,(HRW.out.pq.below hu).c1⟩
 have HT:Hid (∀ u,Below w.heap.size w u→Toks u (.slice A l.length c) l):=fun u hu=>(HRW.out.below hu).ctx.now (HRW.out.below hu).pq.lt
 have HIS:Hid (∀ (k:Nat) u,Below w.heap.size w u→Calls Tryz.prog 46 #[.slice A l.length c,.int .i64 i,.string (str (wordS k))] u fun e w'=>e = .returned (.bool (isE l i (wordS k)))∧Below u.heap.size u w'):=fun k u hu=>(ris_c l (by omega) i (wordS k) _ u (HT.out u hu)).mono (fun e w' he=>⟨he.1,by rw [he.2];exact Below.refl _ _⟩)
 obtain ⟨p0,p1⟩:=HS.out w (Below.refl _ _)
 clear hct h
 rw [oneR_place,hk]
 generalize placeE l i=P at HP ⊢
 have HKK:=Lib.hid hk
 clear hk
 go_enter Tryz.func49,Tryz.ntmps49
 go_upto_region 0 with fail
 go_region_held3 (fun u=>u.cell? ⟨g,0,none⟩=some (.slice A l.length c)∧u.cell? ⟨g,1,none⟩=some (.int .i64 i))
  (exact HS.out _ (blq))
  (first
    | (go_at_call 71;(with_reducible refine (HP.out _ (HT.out _ (blq))).mono ?_);rintro r w5 ⟨rfl,hb5⟩;have h5:Below w.heap.size w w5:=bt (blq) hb5))
 go_upto_region 2 with fail
 go_loopw [6,8] (fun x k wr=>∃ j:Nat,2≤j∧j≤15∧k = .int .i64 j∧x = .int .i64 (kdS l i j:Nat)∧Below w.heap.size w wr) (fun _ k _=>15 - (intOf k).toNat)
 case atStart=>exact ⟨2,Nat.le_refl _,by decide,rfl,by rw [kdS_2];rfl,h5⟩
 case round =>
  obtain ⟨j,hj2,hj15,rfl,rfl,hb⟩:=hrel
  have HS2:Hid (∀ u,Below wr.heap.size wr u→u.cell? ⟨g,0,none⟩=some (.slice A l.length c)∧u.cell? ⟨g,1,none⟩=some (.int .i64 i)):=fun u hu=>HS.out u (bt hb hu)
  have HHB:=Lib.hid hb
  by_cases hj:j < 15
  ·have hj14:j≤14:=by omega
   have hjl:(j:Int)≤14:=by omega
   have HW:Hid (∀ u,Calls Tryz.prog 72 #[.int .i64 j] u fun e w'=>e = .returned (.string (str (wordS j)))∧Below u.heap.size u w'):=fun u=>qword_c j hj14 u
   have HI:=Lib.hid (fun u hu=>HIS.out j u (bt hb hu))
   have HK:Hid (kdS l i (j+1)=if isE l i (wordS j)=true then j else kdS l i j):=by
    show _=_
    cases hw:isE l i (wordS j)
    ·rw [kdS_no hj2 hw,if_neg (by decide)]
    ·rw [kdS_yes hj2 hj14 hw,if_pos rfl]
   obtain ⟨p0,p1⟩:=HS2.out wr (Below.refl _ _)
   clear hb HIS
   generalize kdS l i j=K at HK ⊢
   generalize wordS j=sj at HW HI HK
   cases hw:isE l i sj
   all_goals
    rw [hw] at HI HK
    go_upto_region 4 with fail
    go_region_held3 (fun u=>u.cell? ⟨g,0,none⟩=some (.slice A l.length c)∧u.cell? ⟨g,1,none⟩=some (.int .i64 i))
     (exact HS2.out _ (blq))
     (first
       | (go_at_call 72;(with_reducible refine (HW.out _).mono ?_);rintro r w6 ⟨rfl,hb6⟩;have h6:Below wr.heap.size wr w6:=bt (blq) hb6)
       | (go_at_call 46;(with_reducible refine (HI.out _ (blq)).mono ?_);rintro r w7 ⟨rfl,hb7⟩;have h7:Below wr.heap.size wr w7:=bt (blq) hb7))
    all_goals
     go_wp2_with fail
     go_roundw
     case rel=>exact ⟨j+1,by omega,by omega,by go_num,by rw [HK.out];rfl,bt HHB.out (blq)⟩
     case measure=>simp only [intOf];omega
  ·obtain rfl:j=15:=by omega
   rw [kdS_15,HKK.out]
   have HWR:=Lib.hid (HRW.out.below hb)
   have HB0:=Lib.hid hb
   clear HIS HS2 hb p0 p1 HS HT HP HHB hj hj2 hj15
   have HPL:Hid (∀ (i:Nat) u,i≤1000000→PQ u g (.slice A l.length c) i 0 p (.slice Ao pl.length co)→Ctx g (.slice A l.length c) l u→Calls Tryz.prog 73 #[.pointer (some ⟨g,0,none⟩),.int .i64 1,.int .i64 P] u fun r w'=>∃ (x:St) (j:Nat) (e' p':Int) (ev fv:Value),r = .returned (.agg #[.int .i64 x.kind,.string (str x.reg),.string (str x.name),ev,fv,.int .i64 x.n,.int .i64 x.body,.int .i64 x.els,.int .i64 x.pos])∧runS l ⟨{ zeroS with kind:=(1:Nat),pos:=P },i,0,p⟩ (opsS 1)=⟨x,j,e',p'⟩∧Nods w' ev x.e∧Nods w' fv x.f∧Fresh u.heap.size ev∧Fresh u.heap.size fv∧Keep g u w'∧PQ w' g (.slice A l.length c) j e' p' (.slice Ao pl.length co)∧i≤j∧j≤1000000):=fun i u hi hpq hcx =>
    (qplain_c l hl htx 1 (by decide) (by decide) g _ _ i hi p P u hpq hcx).mono (fun r w' hh=>by
      obtain ⟨⟨x,j,e',p'⟩,ev,fv,hr,hs,h1,h2,h3,h4,h5,h6,h7⟩:=hh
      have hm:=run_mono l (opsS 1) ⟨{ zeroS with kind:=(1:Nat),pos:=P },i,0,p⟩
      rw [← hs] at hm
      exact ⟨x,j,e',p',ev,fv,hr,hs.symm,h1,h2,h3,h4,h5,h6,hm,h7⟩)
   obtain ⟨pl0,p0,p1,p2,p3,p4,pf⟩:=HWR.out.pq
   have pf1:=pf 1
   have HKU:Hid (Keep g w wr):=Keep.of HB0.out
   have HPU0:=Lib.hid HWR.out.pq
   have HCU:=Lib.hid HWR.out.ctx
   have HI1:=Lib.hid HWR.out.im
   have HIU:Hid (i≤i):=Nat.le_refl _
   generalize wr=U at HKU HPU0 HCU HWR HB0 pl0 p0 p1 p2 p3 p4 pf pf1 ⊢
   have HPU:Hid (PQ U g (.slice A l.length c) (i:Nat) 0 p (.slice Ao pl.length co)):=HPU0.out
   go_upto_region 11 with (go_at_call 73;refine (HPL.out i U HI1.out HPU.out HCU.out).mono ?_;rintro r w1 ⟨x,j,e1,p1,ev,fv,rfl,hrun,hne,hnf,hfe,hff,hk1,hp1,hij,hjm⟩;obtain ⟨A1,c1,rfl,_⟩:=Nods.shape hne;obtain ⟨A2,c2,rfl,_⟩:=Nods.shape hnf)
   have HRUN:Hid (runS l ⟨{ zeroS with kind:=(1:Nat),pos:=P },if (1:Nat)=1 then i else i+1,0,p⟩ (opsS 1)=⟨x,j,e1,p1⟩):=by rw [if_pos rfl];exact hrun
   have HOX:=Lib.hid (ox_new HRW.out (HKU.out.trans hk1) hp1 hne hnf (hfe.mono HKU.out.size) (hff.mono HKU.out.size) (Nat.le_trans HIU.out hij) (fun he=>part_lt HRUN.out he) hjm)
   clear hne hnf hfe hff hk1 hp1 hij hjm hrun
   generalize w1.heap.size=q at HOX ⊢
   generalize World.alloc w1 _=X at HOX ⊢
   obtain ⟨pl1,p0,p1',p2,p3,p4,pf⟩:=HOX.out.pq
   obtain ⟨bl,b0,b1,b2,b3,b4,b5,b6,b7,b8,bfr⟩:=HOX.out.sb
   go_upto_region 12 with fail
   have HT2:Hid (pl.length+1≤maxLen∧(pl.length+1)*120≤140737488355328):=by have:=HRW.out.n1;have:=HRW.out.im;show _∧_;unfold maxLen;constructor <;> omega
   have HGS:Hid (g+1≤X.heap.size):=HOX.out.pq.lt
   have hca:=((al X (.cells #[.int .i64 x.kind,.string (str x.reg),.string (str x.name),.slice A1 x.e.length c1,.slice A2 x.f.length c2,.int .i64 x.n,.int .i64 x.body,.int .i64 x.els,.int .i64 x.pos] 31)).cell (p:=⟨g,4,none⟩) HOX.out.pq.lt).trans p4
   go_region_law
    ((refine step_append_lies _ (by rfl) _ _ _ (by rfl) (g+1) 31 i0 _ 9 120 Tryz.underlying24 hi0 hz0 hz1 hz2 rfl (by decide) (.slice Ao pl.length co) pl.length (pl.flatMap Sv.cells) (by rfl) (HOX.out.row.below (bt (al X _) (qdr (Below.refl _ _)))).own ⟨X.heap.size,0,none⟩ 1 1 (Sv.cells ⟨x,.slice A1 x.e.length c1,.slice A2 x.f.length c2⟩) (by rfl) (by rfl) (World.news_of_block (cs:=#[.int .i64 x.kind,.string (str x.reg),.string (str x.name),.slice A1 x.e.length c1,.slice A2 x.f.length c2,.int .i64 x.n,.int .i64 x.body,.int .i64 x.els,.int .i64 x.pos]) (t:=31) (fr:=(0,0)) (heap_alloc_new X _)) (by simp [Sv.cells,Value.oneCell']) (by decide) HT2.out.1 HT2.out.2 (Nat.le_trans HGS.out (al X _).size) (X.heap.size+1) (by simp) ?_;intro gg cap wa hown hgrow hat hlt;have HPA:=(HOX.out.pq.below (bt (al X _) (qdr (Below.refl _ _)))).grown hgrow (fun e=>by have:=(HOX.out.row.own.lt g e).1;omega);have a4:=HPA.c4;have af:=HPA.fr 4))
   all_goals
    have HAP:=Lib.hid (one_app (x:=⟨x,.slice A1 x.e.length c1,.slice A2 x.f.length c2⟩) HOX.out.pq HOX.out.row HOX.out.ctx ⟨.inl HOX.out.tg,fun k hk=>hk.elim (fun h=>Nat.lt_of_lt_of_le (HOX.out.tl k h) HOX.out.kp.size) (fun h=>by subst h;exact HOX.out.sb.lt)⟩ HOX.out.off (bt (al X _) (qdr (Below.refl _ _))) (by simpa using hown) hgrow (by
     rcases hat with e | e
     ·exact .inl e.symm
     ·refine .inr ?_
      show some gg=some _
      rw [e];simp) HOX.out.n1 HOX.out.n0 HOX.out.im)
    have HRY:=Lib.hid HAP.out.1
    have HKY:=Lib.hid ((KR.of _ HOX.out.kp).trans HAP.out.2)
    have HSY:=Lib.hid (HOX.out.sb.kr HAP.out.2 (fun e=>by have:=HOX.out.hq;have:=HRW.out.pq.lt;omega) HOX.out.own)
    have HFY:=Lib.hid (HOX.out.off.kr HAP.out.2 (.inl HOX.out.tg))
    have HQN:=Lib.hid (HAP.out.2.ne HOX.out.sb.lt HOX.out.own)
    have HWQ:=Lib.hid HOX.out.hq
    have HGQ:Hid (g < q):=by have:=HOX.out.hq;have:=HRW.out.pq.lt;show _ < _;omega
    clear HAP hown hgrow hat hlt HPA a4 af hca HOX HT2 HGS pl1 p0 p1' p2 p3 p4 pf bl b0 b1 b2 b3 b4 b5 b6 b7 b8 bfr
    generalize World.setCell wa _ _=Y at HRY HKY HSY HFY ⊢
    obtain ⟨yl,y0,y1,y2,y3,y4,yf⟩:=HRY.out.pq
    go_wp2_with (go_at_call 48;refine (qmust_c l hl [59] g _ _ j (Nat.le_trans HRY.out.im (by decide)) e1 p1 _ HRY.out.pq HRY.out.ctx).mono ?_;rintro r w2 ⟨rfl,hk2,hp2⟩)
    refine bodyPost_end (results_none rfl _ _ _) rfl ?_
    exact ⟨_,_,_,_,[⟨x,.slice A1 x.e.length c1,.slice A2 x.f.length c2⟩],rfl,(HRY.out.keep hk2 hp2 (mI_le _ _ _ _) (mI_lt hl _ HRY.out.im _) mE_zero).mono (fun k hk=>.inl hk) HRW.out.tg,HKY.out.trans (KR.of _ hk2),one_sign (fun h=>absurd h.1 (by decide)) (by decide) (by decide) HRUN.out _ _⟩
theorem qone13_c (l:List Tok) (hl:l.length≤100000) (htx:∀ t∈l,t.text.length≤1000000) (d:Nat) (hd:d≤12) (HB:BlkC l d) (g:Nat) (T:Nat→Prop) (v o:Value) (i:Nat) (p:Int) (pl:List Sv) (n:Nat) (w:World) (hn:n+1+d≤100) (h:RW l g T v o w i 0 p pl) (hk:kindAt l i=13) (h0:((n:Int) == 0)=false) :
 Calls Tryz.prog 49 #[.pointer (some ⟨g,0,none⟩),.int .i64 (12 - (d:Int)),.int .i64 n] w (OnePost l (oneR (blkR l d) (decide (0 < n)) l i) g T v o p pl w):=by
 have HN0:Hid (¬ decide (0 < n)=false):=fun h=>by rw [beq_eq_false_iff_ne] at h0;rw [decide_eq_false_iff_not] at h;omega
 have HRW:=Lib.hid h
 have HBB:=Lib.hid HB
 clear HB
 have hct:=h.ctx.now h.pq.lt
 obtain ⟨A,c,hve,hcc⟩:=hct.shape
 subst hve
 obtain ⟨Ao,co,hoe⟩:=own_shape h.row.own
 subst hoe
 obtain ⟨i0,hi0,hz0,hz1,hz2⟩:=info_parts info_stmt
 have HP:Hid (∀ u:World,Toks u (.slice A l.length c) l→Calls Tryz.prog 71 #[.slice A l.length c,.int .i64 i] u fun r w'=>r = .returned (.int .i64 (placeE l i))∧Below u.heap.size u w'):=fun u hu=>rplace_c l (by omega) i _ u hu
 have HS:Hid (∀ u,Below w.heap.size w u→u.cell? ⟨g,0,none⟩=some (.slice A l.length c)∧u.cell? ⟨g,1,none⟩=some (.int .i64 i)):=fun u hu=>⟨(HRW.out.pq.below hu).c0,(HRW.out.pq.below hu).c1⟩
 have HT:Hid (∀ u,Below w.heap.size w u→Toks u (.slice A l.length c) l):=fun u hu=>(HRW.out.below hu).ctx.now (HRW.out.below hu).pq.lt
 have HIS:Hid (∀ (k:Nat) u,Below w.heap.size w u→Calls Tryz.prog 46 #[.slice A l.length c,.int .i64 i,.string (str (wordS k))] u fun e w'=>e = .returned (.bool (isE l i (wordS k)))∧Below u.heap.size u w'):=fun k u hu=>(ris_c l (by omega) i (wordS k) _ u (HT.out u hu)).mono (fun e w' he=>⟨he.1,by rw [he.2];exact Below.refl _ _⟩)
 obtain ⟨p0,p1⟩:=HS.out w (Below.refl _ _)
 clear hct h
 rw [oneR_place,hk]
 generalize placeE l i=P at HP ⊢
 have HKK:=Lib.hid hk
 clear hk
 go_enter Tryz.func49,Tryz.ntmps49
 go_upto_region 0 with fail
 go_region_held3 (fun u=>u.cell? ⟨g,0,none⟩=some (.slice A l.length c)∧u.cell? ⟨g,1,none⟩=some (.int .i64 i))
  (exact HS.out _ (blq))
  (first
    | (go_at_call 71;(with_reducible refine (HP.out _ (HT.out _ (blq))).mono ?_);rintro r w5 ⟨rfl,hb5⟩;have h5:Below w.heap.size w w5:=bt (blq) hb5))
 go_upto_region 2 with fail
 go_loopw [6,8] (fun x k wr=>∃ j:Nat,2≤j∧j≤15∧k = .int .i64 j∧x = .int .i64 (kdS l i j:Nat)∧Below w.heap.size w wr) (fun _ k _=>15 - (intOf k).toNat)
 case atStart=>exact ⟨2,Nat.le_refl _,by decide,rfl,by rw [kdS_2];rfl,h5⟩
 case round =>
  obtain ⟨j,hj2,hj15,rfl,rfl,hb⟩:=hrel
  have HS2:Hid (∀ u,Below wr.heap.size wr u→u.cell? ⟨g,0,none⟩=some (.slice A l.length c)∧u.cell? ⟨g,1,none⟩=some (.int .i64 i)):=fun u hu=>HS.out u (bt hb hu)
  have HHB:=Lib.hid hb
  by_cases hj:j < 15
  ·have hj14:j≤14:=by omega
   have hjl:(j:Int)≤14:=by omega
   have HW:Hid (∀ u,Calls Tryz.prog 72 #[.int .i64 j] u fun e w'=>e = .returned (.string (str (wordS j)))∧Below u.heap.size u w'):=fun u=>qword_c j hj14 u
   have HI:=Lib.hid (fun u hu=>HIS.out j u (bt hb hu))
   have HK:Hid (kdS l i (j+1)=if isE l i (wordS j)=true then j else kdS l i j):=by
    show _=_
    cases hw:isE l i (wordS j)
    ·rw [kdS_no hj2 hw,if_neg (by decide)]
    ·rw [kdS_yes hj2 hj14 hw,if_pos rfl]
   obtain ⟨p0,p1⟩:=HS2.out wr (Below.refl _ _)
   clear hb HIS
   generalize kdS l i j=K at HK ⊢
   generalize wordS j=sj at HW HI HK
   cases hw:isE l i sj
   all_goals
    rw [hw] at HI HK
    go_upto_region 4 with fail
    go_region_held3 (fun u=>u.cell? ⟨g,0,none⟩=some (.slice A l.length c)∧u.cell? ⟨g,1,none⟩=some (.int .i64 i))
     (exact HS2.out _ (blq))
     (first
       | (go_at_call 72;(with_reducible refine (HW.out _).mono ?_);rintro r w6 ⟨rfl,hb6⟩;have h6:Below wr.heap.size wr w6:=bt (blq) hb6)
       | (go_at_call 46;(with_reducible refine (HI.out _ (blq)).mono ?_);rintro r w7 ⟨rfl,hb7⟩;have h7:Below wr.heap.size wr w7:=bt (blq) hb7))
    all_goals
     go_wp2_with fail
     go_roundw
     case rel=>exact ⟨j+1,by omega,by omega,by go_num,by rw [HK.out];rfl,bt HHB.out (blq)⟩
     case measure=>simp only [intOf];omega
  ·obtain rfl:j=15:=by omega
   rw [kdS_15,HKK.out]
   have HWR:=Lib.hid (HRW.out.below hb)
   have HB0:=Lib.hid hb
   clear HIS HS2 hb p0 p1 HS HT HP HHB hj hj2 hj15
   have HPL:Hid (∀ (i:Nat) u,i≤1000000→PQ u g (.slice A l.length c) i 0 p (.slice Ao pl.length co)→Ctx g (.slice A l.length c) l u→Calls Tryz.prog 73 #[.pointer (some ⟨g,0,none⟩),.int .i64 13,.int .i64 P] u fun r w'=>∃ (x:St) (j:Nat) (e' p':Int) (ev fv:Value),r = .returned (.agg #[.int .i64 x.kind,.string (str x.reg),.string (str x.name),ev,fv,.int .i64 x.n,.int .i64 x.body,.int .i64 x.els,.int .i64 x.pos])∧runS l ⟨{ zeroS with kind:=(13:Nat),pos:=P },i,0,p⟩ (opsS 13)=⟨x,j,e',p'⟩∧Nods w' ev x.e∧Nods w' fv x.f∧Fresh u.heap.size ev∧Fresh u.heap.size fv∧Keep g u w'∧PQ w' g (.slice A l.length c) j e' p' (.slice Ao pl.length co)∧i≤j∧j≤1000000):=fun i u hi hpq hcx =>
    (qplain_c l hl htx 13 (by decide) (by decide) g _ _ i hi p P u hpq hcx).mono (fun r w' hh=>by
      obtain ⟨⟨x,j,e',p'⟩,ev,fv,hr,hs,h1,h2,h3,h4,h5,h6,h7⟩:=hh
      have hm:=run_mono l (opsS 13) ⟨{ zeroS with kind:=(13:Nat),pos:=P },i,0,p⟩
      rw [← hs] at hm
      exact ⟨x,j,e',p',ev,fv,hr,hs.symm,h1,h2,h3,h4,h5,h6,hm,h7⟩)
   obtain ⟨pl0,p0,p1,p2,p3,p4,pf⟩:=HWR.out.pq
   have pf1:=pf 1
   have him:(i:Int)≤1000000:=by have:=HWR.out.im;omega
   go_upto_region 10 with fail
   have HKU:Hid (Keep g w (wr.setCell ⟨g,1,none⟩ (.int .i64 ((i+1:Nat):Int)))):=(Keep.of HB0.out).trans ((Keep.refl g wr).set 1 _)
   have HPU0:Hid (PQ (wr.setCell ⟨g,1,none⟩ (.int .i64 ((i+1:Nat):Int))) g (.slice A l.length c) ((i+1:Nat):Int) 0 p (.slice Ao pl.length co)):=HWR.out.pq.set1 _
   have HCU:Hid (Ctx g (.slice A l.length c) l (wr.setCell ⟨g,1,none⟩ (.int .i64 ((i+1:Nat):Int)))):=HWR.out.ctx.keep ((Keep.refl g wr).set 1 _) HWR.out.pq.lt
   have HIU:Hid (i≤i+1):=Nat.le_succ _
   have HI1:Hid (i+1≤1000000):=by have:=isE_lt (kindAt_is (l:=l) (i:=i) (by rw [HKK.out];decide));show _≤_;omega
   clear pl0 p0 p1 p2 p3 p4 pf pf1 him
   rw [show (i:Int)+1=((i+1:Nat):Int) by omega]
   generalize World.setCell wr _ _=U at HKU HPU0 HCU ⊢
   obtain ⟨pl0,p0,p1,p2,p3,p4,pf⟩:=HPU0.out
   have HPU:Hid (PQ U g (.slice A l.length c) ((i+1):Nat) 0 p (.slice Ao pl.length co)):=HPU0.out
   go_upto_region 11 with (go_at_call 73;refine (HPL.out (i+1) U HI1.out HPU.out HCU.out).mono ?_;rintro r w1 ⟨x,j,e1,p1,ev,fv,rfl,hrun,hne,hnf,hfe,hff,hk1,hp1,hij,hjm⟩;obtain ⟨A1,c1,rfl,_⟩:=Nods.shape hne;obtain ⟨A2,c2,rfl,_⟩:=Nods.shape hnf)
   have HRUN:Hid (runS l ⟨{ zeroS with kind:=(13:Nat),pos:=P },if (13:Nat)=1 then i else i+1,0,p⟩ (opsS 13)=⟨x,j,e1,p1⟩):=by rw [if_neg (by decide)];exact hrun
   have HOX:=Lib.hid (ox_new HRW.out (HKU.out.trans hk1) hp1 hne hnf (hfe.mono HKU.out.size) (hff.mono HKU.out.size) (Nat.le_trans HIU.out hij) (fun he=>part_lt HRUN.out he) hjm)
   clear hne hnf hfe hff hk1 hp1 hij hjm hrun
   generalize w1.heap.size=q at HOX ⊢
   generalize World.alloc w1 _=X at HOX ⊢
   obtain ⟨pl1,p0,p1',p2,p3,p4,pf⟩:=HOX.out.pq
   obtain ⟨bl,b0,b1,b2,b3,b4,b5,b6,b7,b8,bfr⟩:=HOX.out.sb
   go_upto_region 12 with fail
   have HT2:Hid (pl.length+1≤maxLen∧(pl.length+1)*120≤140737488355328):=by have:=HRW.out.n1;have:=HRW.out.im;show _∧_;unfold maxLen;constructor <;> omega
   have HGS:Hid (g+1≤X.heap.size):=HOX.out.pq.lt
   have hca:=((al X (.cells #[.int .i64 x.kind,.string (str x.reg),.string (str x.name),.slice A1 x.e.length c1,.slice A2 x.f.length c2,.int .i64 x.n,.int .i64 x.body,.int .i64 x.els,.int .i64 x.pos] 31)).cell (p:=⟨g,4,none⟩) HOX.out.pq.lt).trans p4
   go_region_law
    ((refine step_append_lies _ (by rfl) _ _ _ (by rfl) (g+1) 31 i0 _ 9 120 Tryz.underlying24 hi0 hz0 hz1 hz2 rfl (by decide) (.slice Ao pl.length co) pl.length (pl.flatMap Sv.cells) (by rfl) (HOX.out.row.below (bt (al X _) (qdr (Below.refl _ _)))).own ⟨X.heap.size,0,none⟩ 1 1 (Sv.cells ⟨x,.slice A1 x.e.length c1,.slice A2 x.f.length c2⟩) (by rfl) (by rfl) (World.news_of_block (cs:=#[.int .i64 x.kind,.string (str x.reg),.string (str x.name),.slice A1 x.e.length c1,.slice A2 x.f.length c2,.int .i64 x.n,.int .i64 x.body,.int .i64 x.els,.int .i64 x.pos]) (t:=31) (fr:=(0,0)) (heap_alloc_new X _)) (by simp [Sv.cells,Value.oneCell']) (by decide) HT2.out.1 HT2.out.2 (Nat.le_trans HGS.out (al X _).size) (X.heap.size+1) (by simp) ?_;intro gg cap wa hown hgrow hat hlt;have HPA:=(HOX.out.pq.below (bt (al X _) (qdr (Below.refl _ _)))).grown hgrow (fun e=>by have:=(HOX.out.row.own.lt g e).1;omega);have a4:=HPA.c4;have af:=HPA.fr 4))
   all_goals
    have HAP:=Lib.hid (one_app (x:=⟨x,.slice A1 x.e.length c1,.slice A2 x.f.length c2⟩) HOX.out.pq HOX.out.row HOX.out.ctx ⟨.inl HOX.out.tg,fun k hk=>hk.elim (fun h=>Nat.lt_of_lt_of_le (HOX.out.tl k h) HOX.out.kp.size) (fun h=>by subst h;exact HOX.out.sb.lt)⟩ HOX.out.off (bt (al X _) (qdr (Below.refl _ _))) (by simpa using hown) hgrow (by
     rcases hat with e | e
     ·exact .inl e.symm
     ·refine .inr ?_
      show some gg=some _
      rw [e];simp) HOX.out.n1 HOX.out.n0 HOX.out.im)
    have HRY:=Lib.hid HAP.out.1
    have HKY:=Lib.hid ((KR.of _ HOX.out.kp).trans HAP.out.2)
    have HSY:=Lib.hid (HOX.out.sb.kr HAP.out.2 (fun e=>by have:=HOX.out.hq;have:=HRW.out.pq.lt;omega) HOX.out.own)
    have HFY:=Lib.hid (HOX.out.off.kr HAP.out.2 (.inl HOX.out.tg))
    have HQN:=Lib.hid (HAP.out.2.ne HOX.out.sb.lt HOX.out.own)
    have HWQ:=Lib.hid HOX.out.hq
    have HGQ:Hid (g < q):=by have:=HOX.out.hq;have:=HRW.out.pq.lt;show _ < _;omega
    clear HAP hown hgrow hat hlt HPA a4 af hca HOX HT2 HGS pl1 p0 p1' p2 p3 p4 pf bl b0 b1 b2 b3 b4 b5 b6 b7 b8 bfr
    generalize World.setCell wa _ _=Y at HRY HKY HSY HFY ⊢
    obtain ⟨yl,y0,y1,y2,y3,y4,yf⟩:=HRY.out.pq
    go_wp2_with (go_at_call 48;refine (qmust_c l hl [59] g _ _ j (Nat.le_trans HRY.out.im (by decide)) e1 p1 _ HRY.out.pq HRY.out.ctx).mono ?_;rintro r w2 ⟨rfl,hk2,hp2⟩)
    refine bodyPost_end (results_none rfl _ _ _) rfl ?_
    exact ⟨_,_,_,_,[⟨x,.slice A1 x.e.length c1,.slice A2 x.f.length c2⟩],rfl,(HRY.out.keep hk2 hp2 (mI_le _ _ _ _) (mI_lt hl _ HRY.out.im _) mE_zero).mono (fun k hk=>.inl hk) HRW.out.tg,HKY.out.trans (KR.of _ hk2),one_sign (fun h=>HN0.out h.2) (by decide) (by decide) HRUN.out _ _⟩
theorem qoneS_c (l:List Tok) (hl:l.length≤100000) (htx:∀ t∈l,t.text.length≤1000000) (d:Nat) (hd:d≤12) (HB:BlkC l d) (g:Nat) (T:Nat→Prop) (v o:Value) (i:Nat) (p:Int) (pl:List Sv) (n:Nat) (w:World) (hn:n+1+d≤100) (h:RW l g T v o w i 0 p pl) (k:Nat) (hk:kindAt l i=k) (h2:2≤k) (h14:k≤14) (h1:((k:Int) == 1)=false) (h11:((k:Int) == 11)=false) (h12:((k:Int) == 12)=false) (h13:((k:Int) == 13)=false) :
 Calls Tryz.prog 49 #[.pointer (some ⟨g,0,none⟩),.int .i64 (12 - (d:Int)),.int .i64 n] w (OnePost l (oneR (blkR l d) (decide (0 < n)) l i) g T v o p pl w):=by
 have HK2:=Lib.hid h2
 have HK11:Hid (k≠11):=fun e=>by subst e;exact absurd h11 (by decide)
 have HK12:Hid (k≠12):=fun e=>by subst e;exact absurd h12 (by decide)
 have HK13:Hid (k≠13):=fun e=>by subst e;exact absurd h13 (by decide)
 have b1:((k:Int) != 1)=true:=by rw [bne,h1];rfl
 have b11:((k:Int) != 11)=true:=by rw [bne,h11];rfl
 have b12:((k:Int) != 12)=true:=by rw [bne,h12];rfl
 have HRW:=Lib.hid h
 have HBB:=Lib.hid HB
 clear HB
 have hct:=h.ctx.now h.pq.lt
 obtain ⟨A,c,hve,hcc⟩:=hct.shape
 subst hve
 obtain ⟨Ao,co,hoe⟩:=own_shape h.row.own
 subst hoe
 obtain ⟨i0,hi0,hz0,hz1,hz2⟩:=info_parts info_stmt
 have HP:Hid (∀ u:World,Toks u (.slice A l.length c) l→Calls Tryz.prog 71 #[.slice A l.length c,.int .i64 i] u fun r w'=>r = .returned (.int .i64 (placeE l i))∧Below u.heap.size u w'):=fun u hu=>rplace_c l (by omega) i _ u hu
 have HS:Hid (∀ u,Below w.heap.size w u→u.cell? ⟨g,0,none⟩=some (.slice A l.length c)∧u.cell? ⟨g,1,none⟩=some (.int .i64 i)):=fun u hu=>⟨(HRW.out.pq.below hu).c0,(HRW.out.pq.below hu).c1⟩
 have HT:Hid (∀ u,Below w.heap.size w u→Toks u (.slice A l.length c) l):=fun u hu=>(HRW.out.below hu).ctx.now (HRW.out.below hu).pq.lt
 have HIS:Hid (∀ (k:Nat) u,Below w.heap.size w u→Calls Tryz.prog 46 #[.slice A l.length c,.int .i64 i,.string (str (wordS k))] u fun e w'=>e = .returned (.bool (isE l i (wordS k)))∧Below u.heap.size u w'):=fun k u hu=>(ris_c l (by omega) i (wordS k) _ u (HT.out u hu)).mono (fun e w' he=>⟨he.1,by rw [he.2];exact Below.refl _ _⟩)
 obtain ⟨p0,p1⟩:=HS.out w (Below.refl _ _)
 clear hct h
 rw [oneR_place,hk]
 generalize placeE l i=P at HP ⊢
 have HKK:=Lib.hid hk
 clear hk
 go_enter Tryz.func49,Tryz.ntmps49
 go_upto_region 0 with fail
 go_region_held3 (fun u=>u.cell? ⟨g,0,none⟩=some (.slice A l.length c)∧u.cell? ⟨g,1,none⟩=some (.int .i64 i))
  (exact HS.out _ (blq))
  (first
    | (go_at_call 71;(with_reducible refine (HP.out _ (HT.out _ (blq))).mono ?_);rintro r w5 ⟨rfl,hb5⟩;have h5:Below w.heap.size w w5:=bt (blq) hb5))
 go_upto_region 2 with fail
 go_loopw [6,8] (fun x k wr=>∃ j:Nat,2≤j∧j≤15∧k = .int .i64 j∧x = .int .i64 (kdS l i j:Nat)∧Below w.heap.size w wr) (fun _ k _=>15 - (intOf k).toNat)
 case atStart=>exact ⟨2,Nat.le_refl _,by decide,rfl,by rw [kdS_2];rfl,h5⟩
 case round =>
  obtain ⟨j,hj2,hj15,rfl,rfl,hb⟩:=hrel
  have HS2:Hid (∀ u,Below wr.heap.size wr u→u.cell? ⟨g,0,none⟩=some (.slice A l.length c)∧u.cell? ⟨g,1,none⟩=some (.int .i64 i)):=fun u hu=>HS.out u (bt hb hu)
  have HHB:=Lib.hid hb
  by_cases hj:j < 15
  ·have hj14:j≤14:=by omega
   have hjl:(j:Int)≤14:=by omega
   have HW:Hid (∀ u,Calls Tryz.prog 72 #[.int .i64 j] u fun e w'=>e = .returned (.string (str (wordS j)))∧Below u.heap.size u w'):=fun u=>qword_c j hj14 u
   have HI:=Lib.hid (fun u hu=>HIS.out j u (bt hb hu))
   have HK:Hid (kdS l i (j+1)=if isE l i (wordS j)=true then j else kdS l i j):=by
    show _=_
    cases hw:isE l i (wordS j)
    ·rw [kdS_no hj2 hw,if_neg (by decide)]
    ·rw [kdS_yes hj2 hj14 hw,if_pos rfl]
   obtain ⟨p0,p1⟩:=HS2.out wr (Below.refl _ _)
   clear hb HIS
   generalize kdS l i j=K at HK ⊢
   generalize wordS j=sj at HW HI HK
   cases hw:isE l i sj
   all_goals
    rw [hw] at HI HK
    go_upto_region 4 with fail
    go_region_held3 (fun u=>u.cell? ⟨g,0,none⟩=some (.slice A l.length c)∧u.cell? ⟨g,1,none⟩=some (.int .i64 i))
     (exact HS2.out _ (blq))
     (first
       | (go_at_call 72;(with_reducible refine (HW.out _).mono ?_);rintro r w6 ⟨rfl,hb6⟩;have h6:Below wr.heap.size wr w6:=bt (blq) hb6)
       | (go_at_call 46;(with_reducible refine (HI.out _ (blq)).mono ?_);rintro r w7 ⟨rfl,hb7⟩;have h7:Below wr.heap.size wr w7:=bt (blq) hb7))
    all_goals
     go_wp2_with fail
     go_roundw
     case rel=>exact ⟨j+1,by omega,by omega,by go_num,by rw [HK.out];rfl,bt HHB.out (blq)⟩
     case measure=>simp only [intOf];omega
  ·obtain rfl:j=15:=by omega
   rw [kdS_15,HKK.out]
   have HWR:=Lib.hid (HRW.out.below hb)
   have HB0:=Lib.hid hb
   clear HIS HS2 hb p0 p1 HS HT HP HHB hj hj2 hj15
   have HPL:Hid (∀ (i:Nat) u,i≤1000000→PQ u g (.slice A l.length c) i 0 p (.slice Ao pl.length co)→Ctx g (.slice A l.length c) l u→Calls Tryz.prog 73 #[.pointer (some ⟨g,0,none⟩),.int .i64 (k:Int),.int .i64 P] u fun r w'=>∃ (x:St) (j:Nat) (e' p':Int) (ev fv:Value),r = .returned (.agg #[.int .i64 x.kind,.string (str x.reg),.string (str x.name),ev,fv,.int .i64 x.n,.int .i64 x.body,.int .i64 x.els,.int .i64 x.pos])∧runS l ⟨{ zeroS with kind:=(k:Nat),pos:=P },i,0,p⟩ (opsS k)=⟨x,j,e',p'⟩∧Nods w' ev x.e∧Nods w' fv x.f∧Fresh u.heap.size ev∧Fresh u.heap.size fv∧Keep g u w'∧PQ w' g (.slice A l.length c) j e' p' (.slice Ao pl.length co)∧i≤j∧j≤1000000):=fun i u hi hpq hcx =>
    (qplain_c l hl htx k (by omega) (by omega) g _ _ i hi p P u hpq hcx).mono (fun r w' hh=>by
      obtain ⟨⟨x,j,e',p'⟩,ev,fv,hr,hs,h1,h2,h3,h4,h5,h6,h7⟩:=hh
      have hm:=run_mono l (opsS k) ⟨{ zeroS with kind:=(k:Nat),pos:=P },i,0,p⟩
      rw [← hs] at hm
      exact ⟨x,j,e',p',ev,fv,hr,hs.symm,h1,h2,h3,h4,h5,h6,hm,h7⟩)
   obtain ⟨pl0,p0,p1,p2,p3,p4,pf⟩:=HWR.out.pq
   have pf1:=pf 1
   have him:(i:Int)≤1000000:=by have:=HWR.out.im;omega
   go_upto_region 10 with fail
   have HKU:Hid (Keep g w (wr.setCell ⟨g,1,none⟩ (.int .i64 ((i+1:Nat):Int)))):=(Keep.of HB0.out).trans ((Keep.refl g wr).set 1 _)
   have HPU0:Hid (PQ (wr.setCell ⟨g,1,none⟩ (.int .i64 ((i+1:Nat):Int))) g (.slice A l.length c) ((i+1:Nat):Int) 0 p (.slice Ao pl.length co)):=HWR.out.pq.set1 _
   have HCU:Hid (Ctx g (.slice A l.length c) l (wr.setCell ⟨g,1,none⟩ (.int .i64 ((i+1:Nat):Int)))):=HWR.out.ctx.keep ((Keep.refl g wr).set 1 _) HWR.out.pq.lt
   have HIU:Hid (i≤i+1):=Nat.le_succ _
   have HI1:Hid (i+1≤1000000):=by have:=isE_lt (kindAt_is (l:=l) (i:=i) (by rw [HKK.out];have:=HK2.out;omega));show _≤_;omega
   clear pl0 p0 p1 p2 p3 p4 pf pf1 him
   rw [show (i:Int)+1=((i+1:Nat):Int) by omega]
   generalize World.setCell wr _ _=U at HKU HPU0 HCU ⊢
   obtain ⟨pl0,p0,p1,p2,p3,p4,pf⟩:=HPU0.out
   have HPU:Hid (PQ U g (.slice A l.length c) ((i+1):Nat) 0 p (.slice Ao pl.length co)):=HPU0.out
   go_upto_region 11 with (go_at_call 73;refine (HPL.out (i+1) U HI1.out HPU.out HCU.out).mono ?_;rintro r w1 ⟨x,j,e1,p1,ev,fv,rfl,hrun,hne,hnf,hfe,hff,hk1,hp1,hij,hjm⟩;obtain ⟨A1,c1,rfl,_⟩:=Nods.shape hne;obtain ⟨A2,c2,rfl,_⟩:=Nods.shape hnf)
   have HRUN:Hid (runS l ⟨{ zeroS with kind:=(k:Nat),pos:=P },if (k:Nat)=1 then i else i+1,0,p⟩ (opsS k)=⟨x,j,e1,p1⟩):=by rw [if_neg (by have:=HK2.out;omega)];exact hrun
   have HOX:=Lib.hid (ox_new HRW.out (HKU.out.trans hk1) hp1 hne hnf (hfe.mono HKU.out.size) (hff.mono HKU.out.size) (Nat.le_trans HIU.out hij) (fun he=>part_lt HRUN.out he) hjm)
   clear hne hnf hfe hff hk1 hp1 hij hjm hrun
   generalize w1.heap.size=q at HOX ⊢
   generalize World.alloc w1 _=X at HOX ⊢
   obtain ⟨pl1,p0,p1',p2,p3,p4,pf⟩:=HOX.out.pq
   obtain ⟨bl,b0,b1,b2,b3,b4,b5,b6,b7,b8,bfr⟩:=HOX.out.sb
   go_upto_region 12 with fail
   have HT2:Hid (pl.length+1≤maxLen∧(pl.length+1)*120≤140737488355328):=by have:=HRW.out.n1;have:=HRW.out.im;show _∧_;unfold maxLen;constructor <;> omega
   have HGS:Hid (g+1≤X.heap.size):=HOX.out.pq.lt
   have hca:=((al X (.cells #[.int .i64 x.kind,.string (str x.reg),.string (str x.name),.slice A1 x.e.length c1,.slice A2 x.f.length c2,.int .i64 x.n,.int .i64 x.body,.int .i64 x.els,.int .i64 x.pos] 31)).cell (p:=⟨g,4,none⟩) HOX.out.pq.lt).trans p4
   go_region_law
    ((refine step_append_lies _ (by rfl) _ _ _ (by rfl) (g+1) 31 i0 _ 9 120 Tryz.underlying24 hi0 hz0 hz1 hz2 rfl (by decide) (.slice Ao pl.length co) pl.length (pl.flatMap Sv.cells) (by rfl) (HOX.out.row.below (bt (al X _) (qdr (Below.refl _ _)))).own ⟨X.heap.size,0,none⟩ 1 1 (Sv.cells ⟨x,.slice A1 x.e.length c1,.slice A2 x.f.length c2⟩) (by rfl) (by rfl) (World.news_of_block (cs:=#[.int .i64 x.kind,.string (str x.reg),.string (str x.name),.slice A1 x.e.length c1,.slice A2 x.f.length c2,.int .i64 x.n,.int .i64 x.body,.int .i64 x.els,.int .i64 x.pos]) (t:=31) (fr:=(0,0)) (heap_alloc_new X _)) (by simp [Sv.cells,Value.oneCell']) (by decide) HT2.out.1 HT2.out.2 (Nat.le_trans HGS.out (al X _).size) (X.heap.size+1) (by simp) ?_;intro gg cap wa hown hgrow hat hlt;have HPA:=(HOX.out.pq.below (bt (al X _) (qdr (Below.refl _ _)))).grown hgrow (fun e=>by have:=(HOX.out.row.own.lt g e).1;omega);have a4:=HPA.c4;have af:=HPA.fr 4))
   all_goals
    have HAP:=Lib.hid (one_app (x:=⟨x,.slice A1 x.e.length c1,.slice A2 x.f.length c2⟩) HOX.out.pq HOX.out.row HOX.out.ctx ⟨.inl HOX.out.tg,fun k hk=>hk.elim (fun h=>Nat.lt_of_lt_of_le (HOX.out.tl k h) HOX.out.kp.size) (fun h=>by subst h;exact HOX.out.sb.lt)⟩ HOX.out.off (bt (al X _) (qdr (Below.refl _ _))) (by simpa using hown) hgrow (by
     rcases hat with e | e
     ·exact .inl e.symm
     ·refine .inr ?_
      show some gg=some _
      rw [e];simp) HOX.out.n1 HOX.out.n0 HOX.out.im)
    have HRY:=Lib.hid HAP.out.1
    have HKY:=Lib.hid ((KR.of _ HOX.out.kp).trans HAP.out.2)
    have HSY:=Lib.hid (HOX.out.sb.kr HAP.out.2 (fun e=>by have:=HOX.out.hq;have:=HRW.out.pq.lt;omega) HOX.out.own)
    have HFY:=Lib.hid (HOX.out.off.kr HAP.out.2 (.inl HOX.out.tg))
    have HQN:=Lib.hid (HAP.out.2.ne HOX.out.sb.lt HOX.out.own)
    have HWQ:=Lib.hid HOX.out.hq
    have HGQ:Hid (g < q):=by have:=HOX.out.hq;have:=HRW.out.pq.lt;show _ < _;omega
    clear HAP hown hgrow hat hlt HPA a4 af hca HOX HT2 HGS pl1 p0 p1' p2 p3 p4 pf bl b0 b1 b2 b3 b4 b5 b6 b7 b8 bfr
    generalize World.setCell wa _ _=Y at HRY HKY HSY HFY ⊢
    obtain ⟨yl,y0,y1,y2,y3,y4,yf⟩:=HRY.out.pq
    go_wp2_with (go_at_call 48;refine (qmust_c l hl [59] g _ _ j (Nat.le_trans HRY.out.im (by decide)) e1 p1 _ HRY.out.pq HRY.out.ctx).mono ?_;rintro r w2 ⟨rfl,hk2,hp2⟩)
    refine bodyPost_end (results_none rfl _ _ _) rfl ?_
    exact ⟨_,_,_,_,[⟨x,.slice A1 x.e.length c1,.slice A2 x.f.length c2⟩],rfl,(HRY.out.keep hk2 hp2 (mI_le _ _ _ _) (mI_lt hl _ HRY.out.im _) mE_zero).mono (fun k hk=>.inl hk) HRW.out.tg,HKY.out.trans (KR.of _ hk2),one_sign (fun h=>HK13.out h.1) HK11.out HK12.out HRUN.out _ _⟩
theorem qone12_c (l:List Tok) (hl:l.length≤100000) (htx:∀ t∈l,t.text.length≤1000000) (d:Nat) (hd:d≤12) (HB:BlkC l d) (g:Nat) (T:Nat→Prop) (v o:Value) (i:Nat) (p:Int) (pl:List Sv) (n:Nat) (w:World) (hn:n+1+d≤100) (h:RW l g T v o w i 0 p pl) (hk:kindAt l i=12) :
 Calls Tryz.prog 49 #[.pointer (some ⟨g,0,none⟩),.int .i64 (12 - (d:Int)),.int .i64 n] w (OnePost l (oneR (blkR l d) (decide (0 < n)) l i) g T v o p pl w):=by
 have HRW:=Lib.hid h
 have HBB:=Lib.hid HB
 clear HB
 have hct:=h.ctx.now h.pq.lt
 obtain ⟨A,c,hve,hcc⟩:=hct.shape
 subst hve
 obtain ⟨Ao,co,hoe⟩:=own_shape h.row.own
 subst hoe
 obtain ⟨i0,hi0,hz0,hz1,hz2⟩:=info_parts info_stmt
 have HP:Hid (∀ u:World,Toks u (.slice A l.length c) l→Calls Tryz.prog 71 #[.slice A l.length c,.int .i64 i] u fun r w'=>r = .returned (.int .i64 (placeE l i))∧Below u.heap.size u w'):=fun u hu=>rplace_c l (by omega) i _ u hu
 have HS:Hid (∀ u,Below w.heap.size w u→u.cell? ⟨g,0,none⟩=some (.slice A l.length c)∧u.cell? ⟨g,1,none⟩=some (.int .i64 i)):=fun u hu=>⟨(HRW.out.pq.below hu).c0,(HRW.out.pq.below hu).c1⟩
 have HT:Hid (∀ u,Below w.heap.size w u→Toks u (.slice A l.length c) l):=fun u hu=>(HRW.out.below hu).ctx.now (HRW.out.below hu).pq.lt
 have HIS:Hid (∀ (k:Nat) u,Below w.heap.size w u→Calls Tryz.prog 46 #[.slice A l.length c,.int .i64 i,.string (str (wordS k))] u fun e w'=>e = .returned (.bool (isE l i (wordS k)))∧Below u.heap.size u w'):=fun k u hu=>(ris_c l (by omega) i (wordS k) _ u (HT.out u hu)).mono (fun e w' he=>⟨he.1,by rw [he.2];exact Below.refl _ _⟩)
 obtain ⟨p0,p1⟩:=HS.out w (Below.refl _ _)
 clear hct h
 rw [oneR_place,hk]
 generalize placeE l i=P at HP ⊢
 have HKK:=Lib.hid hk
 clear hk
 go_enter Tryz.func49,Tryz.ntmps49
 go_upto_region 0 with fail
 go_region_held3 (fun u=>u.cell? ⟨g,0,none⟩=some (.slice A l.length c)∧u.cell? ⟨g,1,none⟩=some (.int .i64 i))
  (exact HS.out _ (blq))
  (first
    | (go_at_call 71;(with_reducible refine (HP.out _ (HT.out _ (blq))).mono ?_);rintro r w5 ⟨rfl,hb5⟩;have h5:Below w.heap.size w w5:=bt (blq) hb5))
 go_upto_region 2 with fail
 go_loopw [6,8] (fun x k wr=>∃ j:Nat,2≤j∧j≤15∧k = .int .i64 j∧x = .int .i64 (kdS l i j:Nat)∧Below w.heap.size w wr) (fun _ k _=>15 - (intOf k).toNat)
 case atStart=>exact ⟨2,Nat.le_refl _,by decide,rfl,by rw [kdS_2];rfl,h5⟩
 case round =>
  obtain ⟨j,hj2,hj15,rfl,rfl,hb⟩:=hrel
  have HS2:Hid (∀ u,Below wr.heap.size wr u→u.cell? ⟨g,0,none⟩=some (.slice A l.length c)∧u.cell? ⟨g,1,none⟩=some (.int .i64 i)):=fun u hu=>HS.out u (bt hb hu)
  have HHB:=Lib.hid hb
  by_cases hj:j < 15
  ·have hj14:j≤14:=by omega
   have hjl:(j:Int)≤14:=by omega
   have HW:Hid (∀ u,Calls Tryz.prog 72 #[.int .i64 j] u fun e w'=>e = .returned (.string (str (wordS j)))∧Below u.heap.size u w'):=fun u=>qword_c j hj14 u
   have HI:=Lib.hid (fun u hu=>HIS.out j u (bt hb hu))
   have HK:Hid (kdS l i (j+1)=if isE l i (wordS j)=true then j else kdS l i j):=by
    show _=_
    cases hw:isE l i (wordS j)
    ·rw [kdS_no hj2 hw,if_neg (by decide)]
    ·rw [kdS_yes hj2 hj14 hw,if_pos rfl]
   obtain ⟨p0,p1⟩:=HS2.out wr (Below.refl _ _)
   clear hb HIS
   generalize kdS l i j=K at HK ⊢
   generalize wordS j=sj at HW HI HK
   cases hw:isE l i sj
   all_goals
    rw [hw] at HI HK
    go_upto_region 4 with fail
    go_region_held3 (fun u=>u.cell? ⟨g,0,none⟩=some (.slice A l.length c)∧u.cell? ⟨g,1,none⟩=some (.int .i64 i))
     (exact HS2.out _ (blq))
     (first
       | (go_at_call 72;(with_reducible refine (HW.out _).mono ?_);rintro r w6 ⟨rfl,hb6⟩;have h6:Below wr.heap.size wr w6:=bt (blq) hb6)
       | (go_at_call 46;(with_reducible refine (HI.out _ (blq)).mono ?_);rintro r w7 ⟨rfl,hb7⟩;have h7:Below wr.heap.size wr w7:=bt (blq) hb7))
    all_goals
     go_wp2_with fail
     go_roundw
     case rel=>exact ⟨j+1,by omega,by omega,by go_num,by rw [HK.out];rfl,bt HHB.out (blq)⟩
     case measure=>simp only [intOf];omega
  ·obtain rfl:j=15:=by omega
   rw [kdS_15,HKK.out]
   have HWR:=Lib.hid (HRW.out.below hb)
   have HB0:=Lib.hid hb
   clear HIS HS2 hb p0 p1 HS HT HP HHB hj hj2 hj15
   have HPL:Hid (∀ (i:Nat) u,i≤1000000→PQ u g (.slice A l.length c) i 0 p (.slice Ao pl.length co)→Ctx g (.slice A l.length c) l u→Calls Tryz.prog 73 #[.pointer (some ⟨g,0,none⟩),.int .i64 12,.int .i64 P] u fun r w'=>∃ (x:St) (j:Nat) (e' p':Int) (ev fv:Value),r = .returned (.agg #[.int .i64 x.kind,.string (str x.reg),.string (str x.name),ev,fv,.int .i64 x.n,.int .i64 x.body,.int .i64 x.els,.int .i64 x.pos])∧runS l ⟨{ zeroS with kind:=(12:Nat),pos:=P },i,0,p⟩ (opsS 12)=⟨x,j,e',p'⟩∧Nods w' ev x.e∧Nods w' fv x.f∧Fresh u.heap.size ev∧Fresh u.heap.size fv∧Keep g u w'∧PQ w' g (.slice A l.length c) j e' p' (.slice Ao pl.length co)∧i≤j∧j≤1000000):=fun i u hi hpq hcx =>
    (qplain_c l hl htx 12 (by decide) (by decide) g _ _ i hi p P u hpq hcx).mono (fun r w' hh=>by
      obtain ⟨⟨x,j,e',p'⟩,ev,fv,hr,hs,h1,h2,h3,h4,h5,h6,h7⟩:=hh
      have hm:=run_mono l (opsS 12) ⟨{ zeroS with kind:=(12:Nat),pos:=P },i,0,p⟩
      rw [← hs] at hm
      exact ⟨x,j,e',p',ev,fv,hr,hs.symm,h1,h2,h3,h4,h5,h6,hm,h7⟩)
   obtain ⟨pl0,p0,p1,p2,p3,p4,pf⟩:=HWR.out.pq
   have pf1:=pf 1
   have him:(i:Int)≤1000000:=by have:=HWR.out.im;omega
   go_upto_region 10 with fail
   have HKU:Hid (Keep g w (wr.setCell ⟨g,1,none⟩ (.int .i64 ((i+1:Nat):Int)))):=(Keep.of HB0.out).trans ((Keep.refl g wr).set 1 _)
   have HPU0:Hid (PQ (wr.setCell ⟨g,1,none⟩ (.int .i64 ((i+1:Nat):Int))) g (.slice A l.length c) ((i+1:Nat):Int) 0 p (.slice Ao pl.length co)):=HWR.out.pq.set1 _
   have HCU:Hid (Ctx g (.slice A l.length c) l (wr.setCell ⟨g,1,none⟩ (.int .i64 ((i+1:Nat):Int)))):=HWR.out.ctx.keep ((Keep.refl g wr).set 1 _) HWR.out.pq.lt
   have HIU:Hid (i≤i+1):=Nat.le_succ _
   have HI1:Hid (i+1≤1000000):=by have:=isE_lt (kindAt_is (l:=l) (i:=i) (by rw [HKK.out];decide));show _≤_;omega
   clear pl0 p0 p1 p2 p3 p4 pf pf1 him
   rw [show (i:Int)+1=((i+1:Nat):Int) by omega]
   generalize World.setCell wr _ _=U at HKU HPU0 HCU ⊢
   obtain ⟨pl0,p0,p1,p2,p3,p4,pf⟩:=HPU0.out
   have HPU:Hid (PQ U g (.slice A l.length c) ((i+1):Nat) 0 p (.slice Ao pl.length co)):=HPU0.out
   go_upto_region 11 with (go_at_call 73;refine (HPL.out (i+1) U HI1.out HPU.out HCU.out).mono ?_;rintro r w1 ⟨x,j,e1,p1,ev,fv,rfl,hrun,hne,hnf,hfe,hff,hk1,hp1,hij,hjm⟩;obtain ⟨A1,c1,rfl,_⟩:=Nods.shape hne;obtain ⟨A2,c2,rfl,_⟩:=Nods.shape hnf)
   have HRUN:Hid (runS l ⟨{ zeroS with kind:=(12:Nat),pos:=P },if (12:Nat)=1 then i else i+1,0,p⟩ (opsS 12)=⟨x,j,e1,p1⟩):=by rw [if_neg (by decide)];exact hrun
   have HOX:=Lib.hid (ox_new HRW.out (HKU.out.trans hk1) hp1 hne hnf (hfe.mono HKU.out.size) (hff.mono HKU.out.size) (Nat.le_trans HIU.out hij) (fun he=>part_lt HRUN.out he) hjm)
   clear hne hnf hfe hff hk1 hp1 hij hjm hrun
   generalize w1.heap.size=q at HOX ⊢
   generalize World.alloc w1 _=X at HOX ⊢
   obtain ⟨pl1,p0,p1',p2,p3,p4,pf⟩:=HOX.out.pq
   obtain ⟨bl,b0,b1,b2,b3,b4,b5,b6,b7,b8,bfr⟩:=HOX.out.sb
   go_upto_region 12 with fail
   have HT2:Hid (pl.length+1≤maxLen∧(pl.length+1)*120≤140737488355328):=by have:=HRW.out.n1;have:=HRW.out.im;show _∧_;unfold maxLen;constructor <;> omega
   have HGS:Hid (g+1≤X.heap.size):=HOX.out.pq.lt
   have hca:=((al X (.cells #[.int .i64 x.kind,.string (str x.reg),.string (str x.name),.slice A1 x.e.length c1,.slice A2 x.f.length c2,.int .i64 x.n,.int .i64 x.body,.int .i64 x.els,.int .i64 x.pos] 31)).cell (p:=⟨g,4,none⟩) HOX.out.pq.lt).trans p4
   go_region_law
    ((refine step_append_lies _ (by rfl) _ _ _ (by rfl) (g+1) 31 i0 _ 9 120 Tryz.underlying24 hi0 hz0 hz1 hz2 rfl (by decide) (.slice Ao pl.length co) pl.length (pl.flatMap Sv.cells) (by rfl) (HOX.out.row.below (bt (al X _) (qdr (Below.refl _ _)))).own ⟨X.heap.size,0,none⟩ 1 1 (Sv.cells ⟨x,.slice A1 x.e.length c1,.slice A2 x.f.length c2⟩) (by rfl) (by rfl) (World.news_of_block (cs:=#[.int .i64 x.kind,.string (str x.reg),.string (str x.name),.slice A1 x.e.length c1,.slice A2 x.f.length c2,.int .i64 x.n,.int .i64 x.body,.int .i64 x.els,.int .i64 x.pos]) (t:=31) (fr:=(0,0)) (heap_alloc_new X _)) (by simp [Sv.cells,Value.oneCell']) (by decide) HT2.out.1 HT2.out.2 (Nat.le_trans HGS.out (al X _).size) (X.heap.size+1) (by simp) ?_;intro gg cap wa hown hgrow hat hlt;have HPA:=(HOX.out.pq.below (bt (al X _) (qdr (Below.refl _ _)))).grown hgrow (fun e=>by have:=(HOX.out.row.own.lt g e).1;omega);have a4:=HPA.c4;have af:=HPA.fr 4))
   all_goals
    have HAP:=Lib.hid (one_app (x:=⟨x,.slice A1 x.e.length c1,.slice A2 x.f.length c2⟩) HOX.out.pq HOX.out.row HOX.out.ctx ⟨.inl HOX.out.tg,fun k hk=>hk.elim (fun h=>Nat.lt_of_lt_of_le (HOX.out.tl k h) HOX.out.kp.size) (fun h=>by subst h;exact HOX.out.sb.lt)⟩ HOX.out.off (bt (al X _) (qdr (Below.refl _ _))) (by simpa using hown) hgrow (by
     rcases hat with e | e
     ·exact .inl e.symm
     ·refine .inr ?_
      show some gg=some _
      rw [e];simp) HOX.out.n1 HOX.out.n0 HOX.out.im)
    have HRY:=Lib.hid HAP.out.1
    have HKY:=Lib.hid ((KR.of _ HOX.out.kp).trans HAP.out.2)
    have HSY:=Lib.hid (HOX.out.sb.kr HAP.out.2 (fun e=>by have:=HOX.out.hq;have:=HRW.out.pq.lt;omega) HOX.out.own)
    have HFY:=Lib.hid (HOX.out.off.kr HAP.out.2 (.inl HOX.out.tg))
    have HQN:=Lib.hid (HAP.out.2.ne HOX.out.sb.lt HOX.out.own)
    have HWQ:=Lib.hid HOX.out.hq
    have HGQ:Hid (g < q):=by have:=HOX.out.hq;have:=HRW.out.pq.lt;show _ < _;omega
    clear HAP hown hgrow hat hlt HPA a4 af hca HOX HT2 HGS pl1 p0 p1' p2 p3 p4 pf bl b0 b1 b2 b3 b4 b5 b6 b7 b8 bfr
    generalize World.setCell wa _ _=Y at HRY HKY HSY HFY ⊢
    have hn9:(n:Int)≤100:=by omega
    have hd12:(d:Int)≤12:=by omega
    obtain ⟨yl,y0,y1,y2,y3,y4,yf⟩:=HRY.out.pq
    by_cases he1:e1=0
    ·subst he1
     have HSX:=Lib.hid HSY.out
     have HQX:=Lib.hid HQN.out
     go_upto_region 19 with (go_at_call 26;refine (blk_ok HBB.out (n:=n+1) (by omega) (by omega) (by omega) HRY.out).mono ?_;rintro r w2 ⟨j2,e2,p2,o2,pl2,rfl,hr2,hk2,hb2⟩;have HS2:=Lib.hid (HSY.out.kr hk2 (Nat.ne_of_gt HGQ.out) HQN.out);obtain ⟨sl,s0,s1,s2,s3,s4,s5,s6,s7,s8,sfr⟩:=HS2.out;have sf6:=sfr 6)
     rw [decide_eq_true (Nat.succ_pos n)] at hb2
     have HB2:=Lib.hid hb2
     clear hb2
     have HRZ:=Lib.hid ((hr2.cell (b:=q) (j:=6) (u:=(.int .i64 (pl2.length:Nat))) (.inr rfl) ((hk2).ne HSY.out.lt HQN.out) HGQ.out))
     have HSZ:=Lib.hid (HS2.out.setBody (pl2.length:Nat))
     have HFZ:=Lib.hid (((HFY.out.kr hk2 (.inl HRW.out.tg)).setCell ⟨q,6,none⟩ (.inr (.inr rfl)) (.int .i64 (pl2.length:Nat))))
     have HKZ:=Lib.hid (((HKY.out.trans hk2).cell (b:=q) (j:=6) (u:=(.int .i64 (pl2.length:Nat))) HWQ.out))
     have HQZ:=Lib.hid ((hk2).ne HSY.out.lt HQN.out)
     clear sl s0 s1 s2 s3 s4 s5 s6 s7 s8 sfr sf6 yl y0 y1 y2 y3 y4 yf HS2 hr2 hk2
     generalize World.setCell w2 _ _=Z at HRZ HSZ HFZ HKZ ⊢
     obtain ⟨zl,z0,z1,z2,z3,z4,zf⟩:=HRZ.out.pq
     go_quiet (fail)
     replace HRZ:=Lib.hid (HRZ.out.drewN nq)
     replace HSZ:=Lib.hid (HSZ.out.drewN nq)
     replace HFZ:=Lib.hid (HFZ.out.below (qdrN (Below.refl _ _) nq))
     replace HKZ:=Lib.hid (HKZ.out.drewN nq)
     clear zl z0 z1 z2 z3 z4 zf
     generalize World.drewN _ _=Z at HRZ HSZ HFZ HKZ ⊢
     go_upto_region 22 with fail
     obtain ⟨gg2,cap2,rfl,hog2,hcl2⟩:=own_some HRZ.out.row.own (by simp only [List.length_append,List.length_cons,List.length_nil];omega)
     have HG2:=Lib.hid hog2
     have hgm:∀ m,m < 9→∀ u,(Sv.cells ⟨x,.slice A1 x.e.length c1,.slice A2 x.f.length c2⟩)[m]? = some u→Z.cell? ⟨gg2,pl.length*9+m,none⟩=some u:=fun m hm u hu=>hcl2 _ _ (by
      have:=flat_getElem Sv.cells 9 Sv.cells_len (pl++[(⟨x,.slice A1 x.e.length c1,.slice A2 x.f.length c2⟩:Sv)]++pl2) pl.length m (by simp only [List.length_append,List.length_cons,List.length_nil];omega) hm
      rw [this];simpa using hu)
     obtain ⟨k0,k1,k2,k3,k4,k5,k6,k7,k8⟩:_∧_∧_∧_∧_∧_∧_∧_∧_:=⟨hgm 0 (by decide) _ rfl,hgm 1 (by decide) _ rfl,hgm 2 (by decide) _ rfl,hgm 3 (by decide) _ rfl,hgm 4 (by decide) _ rfl,hgm 5 (by decide) _ rfl,hgm 6 (by decide) _ rfl,hgm 7 (by decide) _ rfl,hgm 8 (by decide) _ rfl⟩
     rw [Nat.add_zero] at k0
     have kfr:=(Unf.own HRZ.out.row.own ⟨gg2,0,none⟩ _ _ rfl).2
     have HKL:Hid (pl.length < (pl++[(⟨x,.slice A1 x.e.length c1,.slice A2 x.f.length c2⟩:Sv)]++pl2).length):=by show _ < _;simp only [List.length_append,List.length_cons,List.length_nil];omega
     have hkl:(pl.length:Int) < ((pl++[(⟨x,.slice A1 x.e.length c1,.slice A2 x.f.length c2⟩:Sv)]++pl2).length:Nat):=by have:=HKL.out;omega
     have hkl2:pl.length < (pl++[(⟨x,.slice A1 x.e.length c1,.slice A2 x.f.length c2⟩:Sv)]++pl2).length:=HKL.out
     obtain ⟨zl,z0,z1,z2,z3,z4,zf⟩:=HRZ.out.pq
     obtain ⟨sl,s0,s1,s2,s3,s4,s5,s6,s7,s8,sfr⟩:=HSZ.out
     clear hgm hcl2 hog2
     generalize hN:(pl++[(⟨x,.slice A1 x.e.length c1,.slice A2 x.f.length c2⟩:Sv)]++pl2).length=N at z4 hkl hkl2
     have HN:=Lib.hid hN
     clear hN
     go_region
     refine bodyPost_end (results_none rfl _ _ _) rfl ?_
     have HPT:=one_put HRZ.out HG2.out pl.length HKL.out ⟨{ x with body:=((pl2.length:Nat):Int) },.slice A1 x.e.length c1,.slice A2 x.f.length c2⟩ HFZ.out
     have HPE:(pl++[(⟨x,.slice A1 x.e.length c1,.slice A2 x.f.length c2⟩:Sv)]++pl2).set pl.length ⟨{ x with body:=((pl2.length:Nat):Int) },.slice A1 x.e.length c1,.slice A2 x.f.length c2⟩=pl++(⟨{ x with body:=((pl2.length:Nat):Int) },.slice A1 x.e.length c1,.slice A2 x.f.length c2⟩ :: (pl2)):=by simp only [List.append_assoc, List.cons_append, List.nil_append, set_mid]
     rw [HPE] at HPT
     exact ⟨_,_,_,_,_ :: pl2,rfl,(HPT.1.below (qdr (Below.refl _ _))).mono (fun k hk=>.inl hk) HRW.out.tg,(HKZ.out.trans HPT.2).drew,one_loop HRUN.out rfl HB2.out⟩
    ·have HE1:=Lib.hid he1
     clear he1
     have HSX:=Lib.hid HSY.out
     have HQX:=Lib.hid HQN.out
     go_upto_region 19 with (go_at_call 26;refine (blk_no HBB.out (n:=n+1) (by omega) (by omega) (by omega) HE1.out HRY.out).mono ?_;rintro r w2 ⟨rfl,hk2,hr2⟩;have HS2:=Lib.hid (HSY.out.kr (KR.of _ hk2) (Nat.ne_of_gt HGQ.out) HQN.out);obtain ⟨sl,s0,s1,s2,s3,s4,s5,s6,s7,s8,sfr⟩:=HS2.out;have sf6:=sfr 6)
     have HRZ:=Lib.hid ((hr2.cell (b:=q) (j:=6) (u:=(.int .i64 (0:Int))) (.inr rfl) (((KR.of _ hk2)).ne HSY.out.lt HQN.out) HGQ.out))
     have HSZ:=Lib.hid (HS2.out.setBody (0:Int))
     have HFZ:=Lib.hid (((HFY.out.kr (KR.of _ hk2) (.inl HRW.out.tg)).setCell ⟨q,6,none⟩ (.inr (.inr rfl)) (.int .i64 (0:Int))))
     have HKZ:=Lib.hid (((HKY.out.trans (KR.of _ hk2)).cell (b:=q) (j:=6) (u:=(.int .i64 (0:Int))) HWQ.out))
     have HQZ:=Lib.hid (((KR.of _ hk2)).ne HSY.out.lt HQN.out)
     clear sl s0 s1 s2 s3 s4 s5 s6 s7 s8 sfr sf6 yl y0 y1 y2 y3 y4 yf HS2 hr2 hk2
     generalize World.setCell w2 _ _=Z at HRZ HSZ HFZ HKZ ⊢
     obtain ⟨zl,z0,z1,z2,z3,z4,zf⟩:=HRZ.out.pq
     go_quiet (fail)
     replace HRZ:=Lib.hid (HRZ.out.drewN nq)
     replace HSZ:=Lib.hid (HSZ.out.drewN nq)
     replace HFZ:=Lib.hid (HFZ.out.below (qdrN (Below.refl _ _) nq))
     replace HKZ:=Lib.hid (HKZ.out.drewN nq)
     clear zl z0 z1 z2 z3 z4 zf
     generalize World.drewN _ _=Z at HRZ HSZ HFZ HKZ ⊢
     go_upto_region 22 with fail
     obtain ⟨gg2,cap2,hv2,hog2,hcl2⟩:=own_some HRZ.out.row.own (by simp only [List.length_append,List.length_cons,List.length_nil];omega)
     obtain rfl:gg2=gg:=by injection hv2 with e1;injection e1 with e1;injection e1 with e1;exact e1.symm
     clear hv2
     have HG2:=Lib.hid hog2
     have hgm:∀ m,m < 9→∀ u,(Sv.cells ⟨x,.slice A1 x.e.length c1,.slice A2 x.f.length c2⟩)[m]? = some u→Z.cell? ⟨gg2,pl.length*9+m,none⟩=some u:=fun m hm u hu=>hcl2 _ _ (by
      have:=flat_getElem Sv.cells 9 Sv.cells_len (pl++[(⟨x,.slice A1 x.e.length c1,.slice A2 x.f.length c2⟩:Sv)]) pl.length m (by simp only [List.length_append,List.length_cons,List.length_nil];omega) hm
      rw [this];simpa using hu)
     obtain ⟨k0,k1,k2,k3,k4,k5,k6,k7,k8⟩:_∧_∧_∧_∧_∧_∧_∧_∧_:=⟨hgm 0 (by decide) _ rfl,hgm 1 (by decide) _ rfl,hgm 2 (by decide) _ rfl,hgm 3 (by decide) _ rfl,hgm 4 (by decide) _ rfl,hgm 5 (by decide) _ rfl,hgm 6 (by decide) _ rfl,hgm 7 (by decide) _ rfl,hgm 8 (by decide) _ rfl⟩
     rw [Nat.add_zero] at k0
     have kfr:=(Unf.own HRZ.out.row.own ⟨gg2,0,none⟩ _ _ rfl).2
     have HKL:Hid (pl.length < (pl++[(⟨x,.slice A1 x.e.length c1,.slice A2 x.f.length c2⟩:Sv)]).length):=by show _ < _;simp only [List.length_append,List.length_cons,List.length_nil];omega
     have hkl:(pl.length:Int) < ((pl++[(⟨x,.slice A1 x.e.length c1,.slice A2 x.f.length c2⟩:Sv)]).length:Nat):=by have:=HKL.out;omega
     have hkl2:pl.length < (pl++[(⟨x,.slice A1 x.e.length c1,.slice A2 x.f.length c2⟩:Sv)]).length:=HKL.out
     obtain ⟨zl,z0,z1,z2,z3,z4,zf⟩:=HRZ.out.pq
     obtain ⟨sl,s0,s1,s2,s3,s4,s5,s6,s7,s8,sfr⟩:=HSZ.out
     clear hgm hcl2 hog2
     rw [List.length_append,List.length_cons,List.length_nil] at hkl hkl2
     generalize hN:pl.length+(0+1)=N at hkl hkl2
     have hN2:pl.length+1=N:=by omega
     rw [hN2] at z4
     have HN:=Lib.hid hN2
     clear hN hN2
     go_region
     refine bodyPost_end (results_none rfl _ _ _) rfl ?_
     have HPT:=one_put HRZ.out HG2.out pl.length HKL.out ⟨{ x with body:=(0:Int) },.slice A1 x.e.length c1,.slice A2 x.f.length c2⟩ HFZ.out
     have HPE:(pl++[(⟨x,.slice A1 x.e.length c1,.slice A2 x.f.length c2⟩:Sv)]).set pl.length ⟨{ x with body:=(0:Int) },.slice A1 x.e.length c1,.slice A2 x.f.length c2⟩=pl++(⟨{ x with body:=(0:Int) },.slice A1 x.e.length c1,.slice A2 x.f.length c2⟩ :: ([])):=by simp only [set_mid]
     rw [HPE] at HPT
     exact ⟨_,_,_,_,_ :: [],rfl,(HPT.1.below (qdr (Below.refl _ _))).mono (fun k hk=>.inl hk) HRW.out.tg,(HKZ.out.trans HPT.2).drew,one_wrong (fun h=>absurd h.1 (by decide)) HRUN.out HE1.out _ _⟩
theorem qone11_c (l:List Tok) (hl:l.length≤100000) (htx:∀ t∈l,t.text.length≤1000000) (d:Nat) (hd:d≤12) (HB:BlkC l d) (g:Nat) (T:Nat→Prop) (v o:Value) (i:Nat) (p:Int) (pl:List Sv) (n:Nat) (w:World) (hn:n+1+d≤100) (h:RW l g T v o w i 0 p pl) (hk:kindAt l i=11) :
 Calls Tryz.prog 49 #[.pointer (some ⟨g,0,none⟩),.int .i64 (12 - (d:Int)),.int .i64 n] w (OnePost l (oneR (blkR l d) (decide (0 < n)) l i) g T v o p pl w):=by
 have HRW:=Lib.hid h
 have HBB:=Lib.hid HB
 clear HB
 have hct:=h.ctx.now h.pq.lt
 obtain ⟨A,c,hve,hcc⟩:=hct.shape
 subst hve
 obtain ⟨Ao,co,hoe⟩:=own_shape h.row.own
 subst hoe
 obtain ⟨i0,hi0,hz0,hz1,hz2⟩:=info_parts info_stmt
 have HP:Hid (∀ u:World,Toks u (.slice A l.length c) l→Calls Tryz.prog 71 #[.slice A l.length c,.int .i64 i] u fun r w'=>r = .returned (.int .i64 (placeE l i))∧Below u.heap.size u w'):=fun u hu=>rplace_c l (by omega) i _ u hu
 have HS:Hid (∀ u,Below w.heap.size w u→u.cell? ⟨g,0,none⟩=some (.slice A l.length c)∧u.cell? ⟨g,1,none⟩=some (.int .i64 i)):=fun u hu=>⟨(HRW.out.pq.below hu).c0,(HRW.out.pq.below hu).c1⟩
 have HT:Hid (∀ u,Below w.heap.size w u→Toks u (.slice A l.length c) l):=fun u hu=>(HRW.out.below hu).ctx.now (HRW.out.below hu).pq.lt
 have HIS:Hid (∀ (k:Nat) u,Below w.heap.size w u→Calls Tryz.prog 46 #[.slice A l.length c,.int .i64 i,.string (str (wordS k))] u fun e w'=>e = .returned (.bool (isE l i (wordS k)))∧Below u.heap.size u w'):=fun k u hu=>(ris_c l (by omega) i (wordS k) _ u (HT.out u hu)).mono (fun e w' he=>⟨he.1,by rw [he.2];exact Below.refl _ _⟩)
 obtain ⟨p0,p1⟩:=HS.out w (Below.refl _ _)
 clear hct h
 rw [oneR_place,hk]
 generalize placeE l i=P at HP ⊢
 have HKK:=Lib.hid hk
 clear hk
 go_enter Tryz.func49,Tryz.ntmps49
 go_upto_region 0 with fail
 go_region_held3 (fun u=>u.cell? ⟨g,0,none⟩=some (.slice A l.length c)∧u.cell? ⟨g,1,none⟩=some (.int .i64 i))
  (exact HS.out _ (blq))
  (first
    | (go_at_call 71;(with_reducible refine (HP.out _ (HT.out _ (blq))).mono ?_);rintro r w5 ⟨rfl,hb5⟩;have h5:Below w.heap.size w w5:=bt (blq) hb5))
 go_upto_region 2 with fail
 go_loopw [6,8] (fun x k wr=>∃ j:Nat,2≤j∧j≤15∧k = .int .i64 j∧x = .int .i64 (kdS l i j:Nat)∧Below w.heap.size w wr) (fun _ k _=>15 - (intOf k).toNat)
 case atStart=>exact ⟨2,Nat.le_refl _,by decide,rfl,by rw [kdS_2];rfl,h5⟩
 case round =>
  obtain ⟨j,hj2,hj15,rfl,rfl,hb⟩:=hrel
  have HS2:Hid (∀ u,Below wr.heap.size wr u→u.cell? ⟨g,0,none⟩=some (.slice A l.length c)∧u.cell? ⟨g,1,none⟩=some (.int .i64 i)):=fun u hu=>HS.out u (bt hb hu)
  have HHB:=Lib.hid hb
  by_cases hj:j < 15
  ·have hj14:j≤14:=by omega
   have hjl:(j:Int)≤14:=by omega
   have HW:Hid (∀ u,Calls Tryz.prog 72 #[.int .i64 j] u fun e w'=>e = .returned (.string (str (wordS j)))∧Below u.heap.size u w'):=fun u=>qword_c j hj14 u
   have HI:=Lib.hid (fun u hu=>HIS.out j u (bt hb hu))
   have HK:Hid (kdS l i (j+1)=if isE l i (wordS j)=true then j else kdS l i j):=by
    show _=_
    cases hw:isE l i (wordS j)
    ·rw [kdS_no hj2 hw,if_neg (by decide)]
    ·rw [kdS_yes hj2 hj14 hw,if_pos rfl]
   obtain ⟨p0,p1⟩:=HS2.out wr (Below.refl _ _)
   clear hb HIS
   generalize kdS l i j=K at HK ⊢
   generalize wordS j=sj at HW HI HK
   cases hw:isE l i sj
   all_goals
    rw [hw] at HI HK
    go_upto_region 4 with fail
    go_region_held3 (fun u=>u.cell? ⟨g,0,none⟩=some (.slice A l.length c)∧u.cell? ⟨g,1,none⟩=some (.int .i64 i))
     (exact HS2.out _ (blq))
     (first
       | (go_at_call 72;(with_reducible refine (HW.out _).mono ?_);rintro r w6 ⟨rfl,hb6⟩;have h6:Below wr.heap.size wr w6:=bt (blq) hb6)
       | (go_at_call 46;(with_reducible refine (HI.out _ (blq)).mono ?_);rintro r w7 ⟨rfl,hb7⟩;have h7:Below wr.heap.size wr w7:=bt (blq) hb7))
    all_goals
     go_wp2_with fail
     go_roundw
     case rel=>exact ⟨j+1,by omega,by omega,by go_num,by rw [HK.out];rfl,bt HHB.out (blq)⟩
     case measure=>simp only [intOf];omega
  ·obtain rfl:j=15:=by omega
   rw [kdS_15,HKK.out]
   have HWR:=Lib.hid (HRW.out.below hb)
   have HB0:=Lib.hid hb
   clear HIS HS2 hb p0 p1 HS HT HP HHB hj hj2 hj15
   have HPL:Hid (∀ (i:Nat) u,i≤1000000→PQ u g (.slice A l.length c) i 0 p (.slice Ao pl.length co)→Ctx g (.slice A l.length c) l u→Calls Tryz.prog 73 #[.pointer (some ⟨g,0,none⟩),.int .i64 11,.int .i64 P] u fun r w'=>∃ (x:St) (j:Nat) (e' p':Int) (ev fv:Value),r = .returned (.agg #[.int .i64 x.kind,.string (str x.reg),.string (str x.name),ev,fv,.int .i64 x.n,.int .i64 x.body,.int .i64 x.els,.int .i64 x.pos])∧runS l ⟨{ zeroS with kind:=(11:Nat),pos:=P },i,0,p⟩ (opsS 11)=⟨x,j,e',p'⟩∧Nods w' ev x.e∧Nods w' fv x.f∧Fresh u.heap.size ev∧Fresh u.heap.size fv∧Keep g u w'∧PQ w' g (.slice A l.length c) j e' p' (.slice Ao pl.length co)∧i≤j∧j≤1000000):=fun i u hi hpq hcx =>
    (qplain_c l hl htx 11 (by decide) (by decide) g _ _ i hi p P u hpq hcx).mono (fun r w' hh=>by
      obtain ⟨⟨x,j,e',p'⟩,ev,fv,hr,hs,h1,h2,h3,h4,h5,h6,h7⟩:=hh
      have hm:=run_mono l (opsS 11) ⟨{ zeroS with kind:=(11:Nat),pos:=P },i,0,p⟩
      rw [← hs] at hm
      exact ⟨x,j,e',p',ev,fv,hr,hs.symm,h1,h2,h3,h4,h5,h6,hm,h7⟩)
   obtain ⟨pl0,p0,p1,p2,p3,p4,pf⟩:=HWR.out.pq
   have pf1:=pf 1
   have him:(i:Int)≤1000000:=by have:=HWR.out.im;omega
   go_upto_region 10 with fail
   have HKU:Hid (Keep g w (wr.setCell ⟨g,1,none⟩ (.int .i64 ((i+1:Nat):Int)))):=(Keep.of HB0.out).trans ((Keep.refl g wr).set 1 _)
   have HPU0:Hid (PQ (wr.setCell ⟨g,1,none⟩ (.int .i64 ((i+1:Nat):Int))) g (.slice A l.length c) ((i+1:Nat):Int) 0 p (.slice Ao pl.length co)):=HWR.out.pq.set1 _
   have HCU:Hid (Ctx g (.slice A l.length c) l (wr.setCell ⟨g,1,none⟩ (.int .i64 ((i+1:Nat):Int)))):=HWR.out.ctx.keep ((Keep.refl g wr).set 1 _) HWR.out.pq.lt
   have HIU:Hid (i≤i+1):=Nat.le_succ _
   have HI1:Hid (i+1≤1000000):=by have:=isE_lt (kindAt_is (l:=l) (i:=i) (by rw [HKK.out];decide));show _≤_;omega
   clear pl0 p0 p1 p2 p3 p4 pf pf1 him
   rw [show (i:Int)+1=((i+1:Nat):Int) by omega]
   generalize World.setCell wr _ _=U at HKU HPU0 HCU ⊢
   obtain ⟨pl0,p0,p1,p2,p3,p4,pf⟩:=HPU0.out
   have HPU:Hid (PQ U g (.slice A l.length c) ((i+1):Nat) 0 p (.slice Ao pl.length co)):=HPU0.out
   go_upto_region 11 with (go_at_call 73;refine (HPL.out (i+1) U HI1.out HPU.out HCU.out).mono ?_;rintro r w1 ⟨x,j,e1,p1,ev,fv,rfl,hrun,hne,hnf,hfe,hff,hk1,hp1,hij,hjm⟩;obtain ⟨A1,c1,rfl,_⟩:=Nods.shape hne;obtain ⟨A2,c2,rfl,_⟩:=Nods.shape hnf)
   have HRUN:Hid (runS l ⟨{ zeroS with kind:=(11:Nat),pos:=P },if (11:Nat)=1 then i else i+1,0,p⟩ (opsS 11)=⟨x,j,e1,p1⟩):=by rw [if_neg (by decide)];exact hrun
   have HOX:=Lib.hid (ox_new HRW.out (HKU.out.trans hk1) hp1 hne hnf (hfe.mono HKU.out.size) (hff.mono HKU.out.size) (Nat.le_trans HIU.out hij) (fun he=>part_lt HRUN.out he) hjm)
   clear hne hnf hfe hff hk1 hp1 hij hjm hrun
   generalize w1.heap.size=q at HOX ⊢
   generalize World.alloc w1 _=X at HOX ⊢
   obtain ⟨pl1,p0,p1',p2,p3,p4,pf⟩:=HOX.out.pq
   obtain ⟨bl,b0,b1,b2,b3,b4,b5,b6,b7,b8,bfr⟩:=HOX.out.sb
   go_upto_region 12 with fail
   have HT2:Hid (pl.length+1≤maxLen∧(pl.length+1)*120≤140737488355328):=by have:=HRW.out.n1;have:=HRW.out.im;show _∧_;unfold maxLen;constructor <;> omega
   have HGS:Hid (g+1≤X.heap.size):=HOX.out.pq.lt
   have hca:=((al X (.cells #[.int .i64 x.kind,.string (str x.reg),.string (str x.name),.slice A1 x.e.length c1,.slice A2 x.f.length c2,.int .i64 x.n,.int .i64 x.body,.int .i64 x.els,.int .i64 x.pos] 31)).cell (p:=⟨g,4,none⟩) HOX.out.pq.lt).trans p4
   go_region_law
    ((refine step_append_lies _ (by rfl) _ _ _ (by rfl) (g+1) 31 i0 _ 9 120 Tryz.underlying24 hi0 hz0 hz1 hz2 rfl (by decide) (.slice Ao pl.length co) pl.length (pl.flatMap Sv.cells) (by rfl) (HOX.out.row.below (bt (al X _) (qdr (Below.refl _ _)))).own ⟨X.heap.size,0,none⟩ 1 1 (Sv.cells ⟨x,.slice A1 x.e.length c1,.slice A2 x.f.length c2⟩) (by rfl) (by rfl) (World.news_of_block (cs:=#[.int .i64 x.kind,.string (str x.reg),.string (str x.name),.slice A1 x.e.length c1,.slice A2 x.f.length c2,.int .i64 x.n,.int .i64 x.body,.int .i64 x.els,.int .i64 x.pos]) (t:=31) (fr:=(0,0)) (heap_alloc_new X _)) (by simp [Sv.cells,Value.oneCell']) (by decide) HT2.out.1 HT2.out.2 (Nat.le_trans HGS.out (al X _).size) (X.heap.size+1) (by simp) ?_;intro gg cap wa hown hgrow hat hlt;have HPA:=(HOX.out.pq.below (bt (al X _) (qdr (Below.refl _ _)))).grown hgrow (fun e=>by have:=(HOX.out.row.own.lt g e).1;omega);have a4:=HPA.c4;have af:=HPA.fr 4))
   all_goals
    have HAP:=Lib.hid (one_app (x:=⟨x,.slice A1 x.e.length c1,.slice A2 x.f.length c2⟩) HOX.out.pq HOX.out.row HOX.out.ctx ⟨.inl HOX.out.tg,fun k hk=>hk.elim (fun h=>Nat.lt_of_lt_of_le (HOX.out.tl k h) HOX.out.kp.size) (fun h=>by subst h;exact HOX.out.sb.lt)⟩ HOX.out.off (bt (al X _) (qdr (Below.refl _ _))) (by simpa using hown) hgrow (by
     rcases hat with e | e
     ·exact .inl e.symm
     ·refine .inr ?_
      show some gg=some _
      rw [e];simp) HOX.out.n1 HOX.out.n0 HOX.out.im)
    have HRY:=Lib.hid HAP.out.1
    have HKY:=Lib.hid ((KR.of _ HOX.out.kp).trans HAP.out.2)
    have HSY:=Lib.hid (HOX.out.sb.kr HAP.out.2 (fun e=>by have:=HOX.out.hq;have:=HRW.out.pq.lt;omega) HOX.out.own)
    have HFY:=Lib.hid (HOX.out.off.kr HAP.out.2 (.inl HOX.out.tg))
    have HQN:=Lib.hid (HAP.out.2.ne HOX.out.sb.lt HOX.out.own)
    have HWQ:=Lib.hid HOX.out.hq
    have HGQ:Hid (g < q):=by have:=HOX.out.hq;have:=HRW.out.pq.lt;show _ < _;omega
    clear HAP hown hgrow hat hlt HPA a4 af hca HOX HT2 HGS pl1 p0 p1' p2 p3 p4 pf bl b0 b1 b2 b3 b4 b5 b6 b7 b8 bfr
    generalize World.setCell wa _ _=Y at HRY HKY HSY HFY ⊢
    have hn9:(n:Int)≤100:=by omega
    have hd12:(d:Int)≤12:=by omega
    obtain ⟨yl,y0,y1,y2,y3,y4,yf⟩:=HRY.out.pq
    by_cases he1:e1=0
    ·subst he1
     have HSX:=Lib.hid HSY.out
     have HQX:=Lib.hid HQN.out
     go_upto_region 19 with (go_at_call 26;refine (blk_ok HBB.out (n:=n) (by omega) (by omega) (by omega) HRY.out).mono ?_;rintro r w2 ⟨j2,e2,p2,o2,pl2,rfl,hr2,hk2,hb2⟩;have HS2:=Lib.hid (HSY.out.kr hk2 (Nat.ne_of_gt HGQ.out) HQN.out);obtain ⟨sl,s0,s1,s2,s3,s4,s5,s6,s7,s8,sfr⟩:=HS2.out;have sf6:=sfr 6)
     have HB2:=Lib.hid hb2
     clear hb2
     have HRZ:=Lib.hid ((hr2.cell (b:=q) (j:=6) (u:=(.int .i64 (pl2.length:Nat))) (.inr rfl) ((hk2).ne HSY.out.lt HQN.out) HGQ.out))
     have HSZ:=Lib.hid (HS2.out.setBody (pl2.length:Nat))
     have HFZ:=Lib.hid (((HFY.out.kr hk2 (.inl HRW.out.tg)).setCell ⟨q,6,none⟩ (.inr (.inr rfl)) (.int .i64 (pl2.length:Nat))))
     have HKZ:=Lib.hid (((HKY.out.trans hk2).cell (b:=q) (j:=6) (u:=(.int .i64 (pl2.length:Nat))) HWQ.out))
     have HQZ:=Lib.hid ((hk2).ne HSY.out.lt HQN.out)
     clear sl s0 s1 s2 s3 s4 s5 s6 s7 s8 sfr sf6 yl y0 y1 y2 y3 y4 yf HS2 hr2 hk2
     generalize World.setCell w2 _ _=Z at HRZ HSZ HFZ HKZ ⊢
     obtain ⟨zl,z0,z1,z2,z3,z4,zf⟩:=HRZ.out.pq
     by_cases he2:e2=0
     ·subst he2
      cases hi:isE l j2 wElse
      ·have HIS2:Hid (∀ u,Below Z.heap.size Z u→Calls Tryz.prog 46 #[.slice A l.length c,.int .i64 j2,.string (str wElse)] u fun r w'=>r = .returned (.bool false)∧u=w'):=fun u hu=>by
        have hh:=ris_c l (by omega) j2 wElse _ u ((HRZ.out.below hu).ctx.now (HRZ.out.below hu).pq.lt)
        unfold IsPost at hh
        rw [hi] at hh
        exact hh
       have HI2:=Lib.hid hi
       clear hi
       go_quiet (first | (go_at_call 46;refine (HIS2.out _ ?_).mono ?_;(repeat (first | exact Below.refl _ _ | refine qdrN ?_ _ | refine qdr ?_));rintro e w' ⟨he,hw⟩;exact ⟨he,_,hw.symm⟩))
       replace HRZ:=Lib.hid (HRZ.out.drewN nq)
       replace HSZ:=Lib.hid (HSZ.out.drewN nq)
       replace HFZ:=Lib.hid (HFZ.out.below (qdrN (Below.refl _ _) nq))
       replace HKZ:=Lib.hid (HKZ.out.drewN nq)
       clear zl z0 z1 z2 z3 z4 zf
       generalize World.drewN _ _=Z at HRZ HSZ HFZ HKZ ⊢
       go_upto_region 22 with fail
       obtain ⟨gg2,cap2,rfl,hog2,hcl2⟩:=own_some HRZ.out.row.own (by simp only [List.length_append,List.length_cons,List.length_nil];omega)
       have HG2:=Lib.hid hog2
       have hgm:∀ m,m < 9→∀ u,(Sv.cells ⟨x,.slice A1 x.e.length c1,.slice A2 x.f.length c2⟩)[m]? = some u→Z.cell? ⟨gg2,pl.length*9+m,none⟩=some u:=fun m hm u hu=>hcl2 _ _ (by
        have:=flat_getElem Sv.cells 9 Sv.cells_len (pl++[(⟨x,.slice A1 x.e.length c1,.slice A2 x.f.length c2⟩:Sv)]++pl2) pl.length m (by simp only [List.length_append,List.length_cons,List.length_nil];omega) hm
        rw [this];simpa using hu)
       obtain ⟨k0,k1,k2,k3,k4,k5,k6,k7,k8⟩:_∧_∧_∧_∧_∧_∧_∧_∧_:=⟨hgm 0 (by decide) _ rfl,hgm 1 (by decide) _ rfl,hgm 2 (by decide) _ rfl,hgm 3 (by decide) _ rfl,hgm 4 (by decide) _ rfl,hgm 5 (by decide) _ rfl,hgm 6 (by decide) _ rfl,hgm 7 (by decide) _ rfl,hgm 8 (by decide) _ rfl⟩
       rw [Nat.add_zero] at k0
       have kfr:=(Unf.own HRZ.out.row.own ⟨gg2,0,none⟩ _ _ rfl).2
       have HKL:Hid (pl.length < (pl++[(⟨x,.slice A1 x.e.length c1,.slice A2 x.f.length c2⟩:Sv)]++pl2).length):=by show _ < _;simp only [List.length_append,List.length_cons,List.length_nil];omega
       have hkl:(pl.length:Int) < ((pl++[(⟨x,.slice A1 x.e.length c1,.slice A2 x.f.length c2⟩:Sv)]++pl2).length:Nat):=by have:=HKL.out;omega
       have hkl2:pl.length < (pl++[(⟨x,.slice A1 x.e.length c1,.slice A2 x.f.length c2⟩:Sv)]++pl2).length:=HKL.out
       obtain ⟨zl,z0,z1,z2,z3,z4,zf⟩:=HRZ.out.pq
       obtain ⟨sl,s0,s1,s2,s3,s4,s5,s6,s7,s8,sfr⟩:=HSZ.out
       clear hgm hcl2 hog2
       generalize hN:(pl++[(⟨x,.slice A1 x.e.length c1,.slice A2 x.f.length c2⟩:Sv)]++pl2).length=N at z4 hkl hkl2
       have HN:=Lib.hid hN
       clear hN
       go_region
       refine bodyPost_end (results_none rfl _ _ _) rfl ?_
       have HPT:=one_put HRZ.out HG2.out pl.length HKL.out ⟨{ x with body:=((pl2.length:Nat):Int) },.slice A1 x.e.length c1,.slice A2 x.f.length c2⟩ HFZ.out
       have HPE:(pl++[(⟨x,.slice A1 x.e.length c1,.slice A2 x.f.length c2⟩:Sv)]++pl2).set pl.length ⟨{ x with body:=((pl2.length:Nat):Int) },.slice A1 x.e.length c1,.slice A2 x.f.length c2⟩=pl++(⟨{ x with body:=((pl2.length:Nat):Int) },.slice A1 x.e.length c1,.slice A2 x.f.length c2⟩ :: (pl2)):=by simp only [List.append_assoc, List.cons_append, List.nil_append, set_mid]
       rw [HPE] at HPT
       exact ⟨_,_,_,_,_ :: pl2,rfl,(HPT.1.below (qdr (Below.refl _ _))).mono (fun k hk=>.inl hk) HRW.out.tg,(HKZ.out.trans HPT.2).drew,one_ifb HRUN.out rfl HB2.out (fun h=>by rw [HI2.out] at h;exact absurd h.2 (by decide))⟩
      ·have HIS2:Hid (∀ u,Below Z.heap.size Z u→Calls Tryz.prog 46 #[.slice A l.length c,.int .i64 j2,.string (str wElse)] u fun r w'=>r = .returned (.bool true)∧u=w'):=fun u hu=>by
        have hh:=ris_c l (by omega) j2 wElse _ u ((HRZ.out.below hu).ctx.now (HRZ.out.below hu).pq.lt)
        unfold IsPost at hh
        rw [hi] at hh
        exact hh
       have HI2:=Lib.hid hi
       clear hi
       go_quiet (first | (go_at_call 46;refine (HIS2.out _ ?_).mono ?_;(repeat (first | exact Below.refl _ _ | refine qdrN ?_ _ | refine qdr ?_));rintro e w' ⟨he,hw⟩;exact ⟨he,_,hw.symm⟩))
       replace HRZ:=Lib.hid (HRZ.out.drewN nq)
       replace HSZ:=Lib.hid (HSZ.out.drewN nq)
       replace HFZ:=Lib.hid (HFZ.out.below (qdrN (Below.refl _ _) nq))
       replace HKZ:=Lib.hid (HKZ.out.drewN nq)
       clear zl z0 z1 z2 z3 z4 zf
       generalize World.drewN _ _=Z at HRZ HSZ HFZ HKZ ⊢
       have HJ2:Hid (j2+1≤1000000):=by have:=isE_lt HI2.out;show _≤_;omega
       have hj2:(j2:Int)≤1000000:=by have:=HJ2.out;omega
       obtain ⟨zl,z0,z1,z2,z3,z4,zf⟩:=HRZ.out.pq
       have zf1:=zf 1
       go_upto_region 21 with fail
       rw [show (j2:Int)+1=((j2+1:Nat):Int) by omega]
       have hkg:=(Keep.refl g Z).set 1 (.int .i64 ((j2+1:Nat):Int))
       have HRV:=Lib.hid (HRZ.out.keep hkg (HRZ.out.pq.set1 ((j2+1:Nat):Int)) (Nat.le_succ _) HJ2.out id)
       have HSV:=Lib.hid (HSZ.out.keep hkg (Nat.ne_of_gt HGQ.out))
       have HFV:=Lib.hid (HFZ.out.kr (KR.of _ hkg) (.inl HRW.out.tg))
       have HKV:=Lib.hid (HKZ.out.trans (KR.of _ hkg))
       clear zl z0 z1 z2 z3 z4 zf zf1 hkg hj2 HRZ HSZ HFZ HKZ
       generalize World.setCell Z _ _=V at HRV HSV HFV HKV ⊢
       obtain ⟨zl,z0,z1,z2,z3,z4,zf⟩:=HRV.out.pq
       go_upto_region 22 with (go_at_call 26;refine (blk_ok HBB.out (n:=n) (by omega) (by omega) (by omega) HRV.out).mono ?_;rintro r w3 ⟨j3,e3,p3,o3,pl3,rfl,hr3,hk3,hb3⟩;have HS3:=Lib.hid (HSV.out.kr hk3 (Nat.ne_of_gt HGQ.out) HQZ.out);obtain ⟨sl,s0,s1,s2,s3,s4,s5,s6,s7,s8,sfr⟩:=HS3.out;have sf7:=sfr 7)
       have HB3:=Lib.hid hb3
       have HRZ:=Lib.hid ((hr3.cell (b:=q) (j:=7) (u:=.int .i64 (pl3.length:Nat)) (.inr rfl) (hk3.ne HSV.out.lt HQZ.out) HGQ.out))
       have HSZ:=Lib.hid (HS3.out.setElse (pl3.length:Nat))
       have HFZ:=Lib.hid (((HFV.out.kr hk3 (.inl HRW.out.tg)).setCell ⟨q,7,none⟩ (.inr (.inr rfl)) (.int .i64 (pl3.length:Nat))))
       have HKZ:=Lib.hid (((HKV.out.trans hk3).cell (b:=q) (j:=7) (u:=.int .i64 (pl3.length:Nat)) HWQ.out))
       clear sl s0 s1 s2 s3 s4 s5 s6 s7 s8 sfr sf7 zl z0 z1 z2 z3 z4 zf HS3 hr3 hk3 hb3
       generalize World.setCell w3 _ _=Z at HRZ HSZ HFZ HKZ ⊢
       obtain ⟨gg2,cap2,rfl,hog2,hcl2⟩:=own_some HRZ.out.row.own (by simp only [List.length_append,List.length_cons,List.length_nil];omega)
       have HG2:=Lib.hid hog2
       have hgm:∀ m,m < 9→∀ u,(Sv.cells ⟨x,.slice A1 x.e.length c1,.slice A2 x.f.length c2⟩)[m]? = some u→Z.cell? ⟨gg2,pl.length*9+m,none⟩=some u:=fun m hm u hu=>hcl2 _ _ (by
        have:=flat_getElem Sv.cells 9 Sv.cells_len (pl++[(⟨x,.slice A1 x.e.length c1,.slice A2 x.f.length c2⟩:Sv)]++pl2++pl3) pl.length m (by simp only [List.length_append,List.length_cons,List.length_nil];omega) hm
        rw [this];simpa using hu)
       obtain ⟨k0,k1,k2,k3,k4,k5,k6,k7,k8⟩:_∧_∧_∧_∧_∧_∧_∧_∧_:=⟨hgm 0 (by decide) _ rfl,hgm 1 (by decide) _ rfl,hgm 2 (by decide) _ rfl,hgm 3 (by decide) _ rfl,hgm 4 (by decide) _ rfl,hgm 5 (by decide) _ rfl,hgm 6 (by decide) _ rfl,hgm 7 (by decide) _ rfl,hgm 8 (by decide) _ rfl⟩
       rw [Nat.add_zero] at k0
       have kfr:=(Unf.own HRZ.out.row.own ⟨gg2,0,none⟩ _ _ rfl).2
       have HKL:Hid (pl.length < (pl++[(⟨x,.slice A1 x.e.length c1,.slice A2 x.f.length c2⟩:Sv)]++pl2++pl3).length):=by show _ < _;simp only [List.length_append,List.length_cons,List.length_nil];omega
       have hkl:(pl.length:Int) < ((pl++[(⟨x,.slice A1 x.e.length c1,.slice A2 x.f.length c2⟩:Sv)]++pl2++pl3).length:Nat):=by have:=HKL.out;omega
       have hkl2:pl.length < (pl++[(⟨x,.slice A1 x.e.length c1,.slice A2 x.f.length c2⟩:Sv)]++pl2++pl3).length:=HKL.out
       obtain ⟨zl,z0,z1,z2,z3,z4,zf⟩:=HRZ.out.pq
       obtain ⟨sl,s0,s1,s2,s3,s4,s5,s6,s7,s8,sfr⟩:=HSZ.out
       clear hgm hcl2 hog2
       generalize hN:(pl++[(⟨x,.slice A1 x.e.length c1,.slice A2 x.f.length c2⟩:Sv)]++pl2++pl3).length=N at z4 hkl hkl2
       have HN:=Lib.hid hN
       clear hN
       go_region
       refine bodyPost_end (results_none rfl _ _ _) rfl ?_
       have HPT:=one_put HRZ.out HG2.out pl.length HKL.out ⟨{ x with body:=((pl2.length:Nat):Int),els:=((pl3.length:Nat):Int) },.slice A1 x.e.length c1,.slice A2 x.f.length c2⟩ HFZ.out
       have HPE:(pl++[(⟨x,.slice A1 x.e.length c1,.slice A2 x.f.length c2⟩:Sv)]++pl2++pl3).set pl.length ⟨{ x with body:=((pl2.length:Nat):Int),els:=((pl3.length:Nat):Int) },.slice A1 x.e.length c1,.slice A2 x.f.length c2⟩=pl++(⟨{ x with body:=((pl2.length:Nat):Int),els:=((pl3.length:Nat):Int) },.slice A1 x.e.length c1,.slice A2 x.f.length c2⟩ :: (pl2++pl3)):=by simp only [List.append_assoc, List.cons_append, List.nil_append, set_mid]
       rw [HPE] at HPT
       exact ⟨_,_,_,_,_ :: (pl2++pl3),rfl,(HPT.1.below (qdr (Below.refl _ _))).mono (fun k hk=>.inl hk) HRW.out.tg,(HKZ.out.trans HPT.2).drew,one_ife HRUN.out rfl HB2.out rfl HI2.out HB3.out⟩
     ·have HE2:=Lib.hid he2
      have heq:(e2 == 0)=false:=by simpa using he2
      clear he2
      go_quiet (fail)
      replace HRZ:=Lib.hid (HRZ.out.drewN nq)
      replace HSZ:=Lib.hid (HSZ.out.drewN nq)
      replace HFZ:=Lib.hid (HFZ.out.below (qdrN (Below.refl _ _) nq))
      replace HKZ:=Lib.hid (HKZ.out.drewN nq)
      clear zl z0 z1 z2 z3 z4 zf
      generalize World.drewN _ _=Z at HRZ HSZ HFZ HKZ ⊢
      go_upto_region 22 with fail
      obtain ⟨gg2,cap2,rfl,hog2,hcl2⟩:=own_some HRZ.out.row.own (by simp only [List.length_append,List.length_cons,List.length_nil];omega)
      have HG2:=Lib.hid hog2
      have hgm:∀ m,m < 9→∀ u,(Sv.cells ⟨x,.slice A1 x.e.length c1,.slice A2 x.f.length c2⟩)[m]? = some u→Z.cell? ⟨gg2,pl.length*9+m,none⟩=some u:=fun m hm u hu=>hcl2 _ _ (by
       have:=flat_getElem Sv.cells 9 Sv.cells_len (pl++[(⟨x,.slice A1 x.e.length c1,.slice A2 x.f.length c2⟩:Sv)]++pl2) pl.length m (by simp only [List.length_append,List.length_cons,List.length_nil];omega) hm
       rw [this];simpa using hu)
      obtain ⟨k0,k1,k2,k3,k4,k5,k6,k7,k8⟩:_∧_∧_∧_∧_∧_∧_∧_∧_:=⟨hgm 0 (by decide) _ rfl,hgm 1 (by decide) _ rfl,hgm 2 (by decide) _ rfl,hgm 3 (by decide) _ rfl,hgm 4 (by decide) _ rfl,hgm 5 (by decide) _ rfl,hgm 6 (by decide) _ rfl,hgm 7 (by decide) _ rfl,hgm 8 (by decide) _ rfl⟩
      rw [Nat.add_zero] at k0
      have kfr:=(Unf.own HRZ.out.row.own ⟨gg2,0,none⟩ _ _ rfl).2
      have HKL:Hid (pl.length < (pl++[(⟨x,.slice A1 x.e.length c1,.slice A2 x.f.length c2⟩:Sv)]++pl2).length):=by show _ < _;simp only [List.length_append,List.length_cons,List.length_nil];omega
      have hkl:(pl.length:Int) < ((pl++[(⟨x,.slice A1 x.e.length c1,.slice A2 x.f.length c2⟩:Sv)]++pl2).length:Nat):=by have:=HKL.out;omega
      have hkl2:pl.length < (pl++[(⟨x,.slice A1 x.e.length c1,.slice A2 x.f.length c2⟩:Sv)]++pl2).length:=HKL.out
      obtain ⟨zl,z0,z1,z2,z3,z4,zf⟩:=HRZ.out.pq
      obtain ⟨sl,s0,s1,s2,s3,s4,s5,s6,s7,s8,sfr⟩:=HSZ.out
      clear hgm hcl2 hog2
      generalize hN:(pl++[(⟨x,.slice A1 x.e.length c1,.slice A2 x.f.length c2⟩:Sv)]++pl2).length=N at z4 hkl hkl2
      have HN:=Lib.hid hN
      clear hN
      go_region
      refine bodyPost_end (results_none rfl _ _ _) rfl ?_
      have HPT:=one_put HRZ.out HG2.out pl.length HKL.out ⟨{ x with body:=((pl2.length:Nat):Int) },.slice A1 x.e.length c1,.slice A2 x.f.length c2⟩ HFZ.out
      have HPE:(pl++[(⟨x,.slice A1 x.e.length c1,.slice A2 x.f.length c2⟩:Sv)]++pl2).set pl.length ⟨{ x with body:=((pl2.length:Nat):Int) },.slice A1 x.e.length c1,.slice A2 x.f.length c2⟩=pl++(⟨{ x with body:=((pl2.length:Nat):Int) },.slice A1 x.e.length c1,.slice A2 x.f.length c2⟩ :: (pl2)):=by simp only [List.append_assoc, List.cons_append, List.nil_append, set_mid]
      rw [HPE] at HPT
      exact ⟨_,_,_,_,_ :: pl2,rfl,(HPT.1.below (qdr (Below.refl _ _))).mono (fun k hk=>.inl hk) HRW.out.tg,(HKZ.out.trans HPT.2).drew,one_ifb HRUN.out rfl HB2.out (fun h=>HE2.out h.1)⟩
    ·have HE1:=Lib.hid he1
     have heq:(e1 == 0)=false:=by simpa using he1
     clear he1
     have HSX:=Lib.hid HSY.out
     have HQX:=Lib.hid HQN.out
     go_upto_region 19 with (go_at_call 26;refine (blk_no HBB.out (n:=n) (by omega) (by omega) (by omega) HE1.out HRY.out).mono ?_;rintro r w2 ⟨rfl,hk2,hr2⟩;have HS2:=Lib.hid (HSY.out.kr (KR.of _ hk2) (Nat.ne_of_gt HGQ.out) HQN.out);obtain ⟨sl,s0,s1,s2,s3,s4,s5,s6,s7,s8,sfr⟩:=HS2.out;have sf6:=sfr 6)
     have HRZ:=Lib.hid ((hr2.cell (b:=q) (j:=6) (u:=(.int .i64 (0:Int))) (.inr rfl) (((KR.of _ hk2)).ne HSY.out.lt HQN.out) HGQ.out))
     have HSZ:=Lib.hid (HS2.out.setBody (0:Int))
     have HFZ:=Lib.hid (((HFY.out.kr (KR.of _ hk2) (.inl HRW.out.tg)).setCell ⟨q,6,none⟩ (.inr (.inr rfl)) (.int .i64 (0:Int))))
     have HKZ:=Lib.hid (((HKY.out.trans (KR.of _ hk2)).cell (b:=q) (j:=6) (u:=(.int .i64 (0:Int))) HWQ.out))
     have HQZ:=Lib.hid (((KR.of _ hk2)).ne HSY.out.lt HQN.out)
     clear sl s0 s1 s2 s3 s4 s5 s6 s7 s8 sfr sf6 yl y0 y1 y2 y3 y4 yf HS2 hr2 hk2
     generalize World.setCell w2 _ _=Z at HRZ HSZ HFZ HKZ ⊢
     obtain ⟨zl,z0,z1,z2,z3,z4,zf⟩:=HRZ.out.pq
     go_quiet (fail)
     replace HRZ:=Lib.hid (HRZ.out.drewN nq)
     replace HSZ:=Lib.hid (HSZ.out.drewN nq)
     replace HFZ:=Lib.hid (HFZ.out.below (qdrN (Below.refl _ _) nq))
     replace HKZ:=Lib.hid (HKZ.out.drewN nq)
     clear zl z0 z1 z2 z3 z4 zf
     generalize World.drewN _ _=Z at HRZ HSZ HFZ HKZ ⊢
     go_upto_region 22 with fail
     obtain ⟨gg2,cap2,hv2,hog2,hcl2⟩:=own_some HRZ.out.row.own (by simp only [List.length_append,List.length_cons,List.length_nil];omega)
     obtain rfl:gg2=gg:=by injection hv2 with e1;injection e1 with e1;injection e1 with e1;exact e1.symm
     clear hv2
     have HG2:=Lib.hid hog2
     have hgm:∀ m,m < 9→∀ u,(Sv.cells ⟨x,.slice A1 x.e.length c1,.slice A2 x.f.length c2⟩)[m]? = some u→Z.cell? ⟨gg2,pl.length*9+m,none⟩=some u:=fun m hm u hu=>hcl2 _ _ (by
      have:=flat_getElem Sv.cells 9 Sv.cells_len (pl++[(⟨x,.slice A1 x.e.length c1,.slice A2 x.f.length c2⟩:Sv)]) pl.length m (by simp only [List.length_append,List.length_cons,List.length_nil];omega) hm
      rw [this];simpa using hu)
     obtain ⟨k0,k1,k2,k3,k4,k5,k6,k7,k8⟩:_∧_∧_∧_∧_∧_∧_∧_∧_:=⟨hgm 0 (by decide) _ rfl,hgm 1 (by decide) _ rfl,hgm 2 (by decide) _ rfl,hgm 3 (by decide) _ rfl,hgm 4 (by decide) _ rfl,hgm 5 (by decide) _ rfl,hgm 6 (by decide) _ rfl,hgm 7 (by decide) _ rfl,hgm 8 (by decide) _ rfl⟩
     rw [Nat.add_zero] at k0
     have kfr:=(Unf.own HRZ.out.row.own ⟨gg2,0,none⟩ _ _ rfl).2
     have HKL:Hid (pl.length < (pl++[(⟨x,.slice A1 x.e.length c1,.slice A2 x.f.length c2⟩:Sv)]).length):=by show _ < _;simp only [List.length_append,List.length_cons,List.length_nil];omega
     have hkl:(pl.length:Int) < ((pl++[(⟨x,.slice A1 x.e.length c1,.slice A2 x.f.length c2⟩:Sv)]).length:Nat):=by have:=HKL.out;omega
     have hkl2:pl.length < (pl++[(⟨x,.slice A1 x.e.length c1,.slice A2 x.f.length c2⟩:Sv)]).length:=HKL.out
     obtain ⟨zl,z0,z1,z2,z3,z4,zf⟩:=HRZ.out.pq
     obtain ⟨sl,s0,s1,s2,s3,s4,s5,s6,s7,s8,sfr⟩:=HSZ.out
     clear hgm hcl2 hog2
     rw [List.length_append,List.length_cons,List.length_nil] at hkl hkl2
     generalize hN:pl.length+(0+1)=N at hkl hkl2
     have hN2:pl.length+1=N:=by omega
     rw [hN2] at z4
     have HN:=Lib.hid hN2
     clear hN hN2
     go_region
     refine bodyPost_end (results_none rfl _ _ _) rfl ?_
     have HPT:=one_put HRZ.out HG2.out pl.length HKL.out ⟨{ x with body:=(0:Int) },.slice A1 x.e.length c1,.slice A2 x.f.length c2⟩ HFZ.out
     have HPE:(pl++[(⟨x,.slice A1 x.e.length c1,.slice A2 x.f.length c2⟩:Sv)]).set pl.length ⟨{ x with body:=(0:Int) },.slice A1 x.e.length c1,.slice A2 x.f.length c2⟩=pl++(⟨{ x with body:=(0:Int) },.slice A1 x.e.length c1,.slice A2 x.f.length c2⟩ :: ([])):=by simp only [set_mid]
     rw [HPE] at HPT
     exact ⟨_,_,_,_,_ :: [],rfl,(HPT.1.below (qdr (Below.refl _ _))).mono (fun k hk=>.inl hk) HRW.out.tg,(HKZ.out.trans HPT.2).drew,one_wrong (fun h=>absurd h.1 (by decide)) HRUN.out HE1.out _ _⟩
theorem qone_c (l:List Tok) (hl:l.length≤100000) (htx:∀ t∈l,t.text.length≤1000000) (d:Nat) (hd:d≤12) (HB:BlkC l d) (g:Nat) (T:Nat→Prop) (v o:Value) (i:Nat) (p:Int) (pl:List Sv) (n:Nat) (w:World) (hn:n+1+d≤100) (h:RW l g T v o w i 0 p pl) :
 Calls Tryz.prog 49 #[.pointer (some ⟨g,0,none⟩),.int .i64 (12 - (d:Int)),.int .i64 n] w (OnePost l (oneR (blkR l d) (decide (0 < n)) l i) g T v o p pl w):=by
 have hr:=kindAt_range l i
 by_cases h1:kindAt l i=1
 ·exact qone1_c l hl htx d hd HB g T v o i p pl n w hn h h1
 ·by_cases h11:kindAt l i=11
  ·exact qone11_c l hl htx d hd HB g T v o i p pl n w hn h h11
  ·by_cases h12:kindAt l i=12
   ·exact qone12_c l hl htx d hd HB g T v o i p pl n w hn h h12
   ·by_cases h13:kindAt l i=13
    ·by_cases h0:n=0
     ·exact qoneB_c l hl htx d hd HB g T v o i p pl n w hn h h13 h0
     ·exact qone13_c l hl htx d hd HB g T v o i p pl n w hn h h13 (by rw [beq_eq_false_iff_ne];omega)
    ·exact qoneS_c l hl htx d hd HB g T v o i p pl n w hn h (kindAt l i) rfl (by omega) hr.2 (by rw [beq_eq_false_iff_ne];omega) (by rw [beq_eq_false_iff_ne];omega) (by rw [beq_eq_false_iff_ne];omega) (by rw [beq_eq_false_iff_ne];omega)
def leftW (l : List Tok) (g : Nat) (w : World) : Nat := match w.cell? ⟨g, 2, none⟩ with
  | some (.int .i64 e) => if e = 0 then (match w.cell? ⟨g, 1, none⟩ with | some (.int .i64 i) => l.length + 2 - i.toNat | _ => 0) else 0
  | _ => 0
theorem left_of {l:List Tok} {g:Nat} {v o:Value} {w:World} {i:Nat} {e p:Int} (h:PQ w g v i e p o):leftW l g w=if e=0 then l.length+2 - i else 0:=by
 unfold leftW
 rw [h.c2]
 simp only
 rw [h.c1]
 simp only [Int.toNat_natCast]
theorem must_err (l:List Tok) (hl:l.length≤100000) (s:List UInt8) {g:Nat} {T:Nat→Prop} {v o:Value} {i:Nat} {e p:Int} {pl:List Sv} {w:World} (he:¬ e=0) (h:RW l g T v o w i e p pl) :
 Calls Tryz.prog 48 #[.pointer (some ⟨g,0,none⟩),.string (str s)] w fun r w'=>r = .returned (.tuple #[])∧Keep g w w'∧RW l g T v o w' i e p pl :=
 (qmust_c l hl s g v o i (Nat.le_trans h.im (by decide)) e p w h.pq h.ctx).mono (fun r w' hh=>by
   obtain ⟨hr,hk,hp⟩:=hh
   have hm:=mI_err (l:=l) (s:=s) (i:=i) (p:=p) he
   rw [hm.1,hm.2.1,hm.2.2] at hp
   exact ⟨hr,hk,h.keep hk hp (Nat.le_refl _) h.im id⟩)
theorem bad_err (l:List Tok) (hl:l.length≤100000) (k:Int) {g:Nat} {T:Nat→Prop} {v o:Value} {i:Nat} {e p:Int} {pl:List Sv} {w:World} (he:¬ e=0) (h:RW l g T v o w i e p pl) :
 Calls Tryz.prog 47 #[.pointer (some ⟨g,0,none⟩),.int .i64 k] w fun r w'=>r = .returned (.tuple #[])∧Keep g w w'∧RW l g T v o w' i e p pl :=
 (qbad_c l hl g v o i e k p w h.pq h.ctx).mono (fun r w' hh=>by
   obtain ⟨hr,hk,hp⟩:=hh
   unfold wE wP at hp
   rw [if_neg he,if_neg he] at hp
   exact ⟨hr,hk,h.keep hk hp (Nat.le_refl _) h.im id⟩)
theorem qblk_err (l:List Tok) (hl:l.length≤100000) (g:Nat) (T:Nat→Prop) (v o:Value) (i:Nat) (e p:Int) (pl:List Sv) (D n:Int) (w:World) (h:RW l g T v o w i e p pl) (he:¬ e=0) (hD:decide (12 < D)=false) :
 Calls Tryz.prog 26 #[.pointer (some ⟨g,0,none⟩),.int .i64 D,.int .i64 n] w fun z w'=>z = .returned (.int .i64 0)∧Keep g w w'∧RW l g T v o w' i e p pl:=by
 have HRW:=Lib.hid h
 have HE:=Lib.hid he
 have heb:(e == 0)=false:=by simpa using he
 obtain ⟨A,c,hve,hcc⟩:=(h.ctx.now h.pq.lt).shape
 subst hve
 obtain ⟨Ao,co,hoe⟩:=own_shape h.row.own
 subst hoe
 obtain ⟨pl0,p0,p1,p2,p3,p4,pf⟩:=h.pq
 clear h he
 go_enter Tryz.func26,Tryz.ntmps26
 go_upto_region 2 with fail
 go_quiet (fail)
 have HR1:=Lib.hid (HRW.out.drewN nq)
 have HK1:=Lib.hid ((Keep.refl g w).drewN nq)
 clear pl0 p0 p1 p2 p3 p4 pf
 generalize World.drewN _ _=X at HR1 HK1 ⊢
 go_upto_region 5 with (go_at_call 48;refine (must_err l hl [123] HE.out HR1.out).mono ?_;rintro r w2 ⟨rfl,hk2,hr2⟩)
 have HR2:=Lib.hid hr2
 have HK2:=Lib.hid (HK1.out.trans hk2)
 clear hr2 hk2
 go_loopw [] (fun wr=>RW l g T (.slice A l.length c) (.slice Ao pl.length co) wr i e p pl∧Keep g w wr) (fun _=>0)
 case atStart=>exact ⟨HR2.out,HK2.out⟩
 case round =>
  obtain ⟨hr,hk⟩:=hrel
  have HR3:=Lib.hid (hr)
  have HK3:=Lib.hid (hk)
  clear hr hk
  obtain ⟨pl0,p0,p1,p2,p3,p4,pf⟩:=HR3.out.pq
  go_upto_region 5 with fail
  go_quiet (fail)
  replace HR3:=Lib.hid (HR3.out.drewN nq)
  replace HK3:=Lib.hid (HK3.out.drewN nq)
  clear pl0 p0 p1 p2 p3 p4 pf
  generalize World.drewN _ _=Y at HR3 HK3 ⊢
  go_upto_region 8 with (go_at_call 48;refine (must_err l hl [125] HE.out HR3.out).mono ?_;rintro r w4 ⟨rfl,hk4,hr4⟩)
  have HR4:=Lib.hid hr4
  have HK4:=Lib.hid (HK3.out.trans hk4)
  clear hr4 hk4
  obtain ⟨pl0,p0,p1,p2,p3,p4,pf⟩:=HR4.out.pq
  go_wp2_with fail
  go_ret
  exact ⟨ret_int (by omega),HK4.out,HR4.out⟩
theorem qblk_err13a (l:List Tok) (hl:l.length≤100000) (g:Nat) (T:Nat→Prop) (v o:Value) (i:Nat) (e:Int) (p:Int) (pl:List Sv) (n:Int) (w:World) (h:RW l g T v o w i e p pl) (he:¬ e=0) (hs:isE l i [123] = false) :
 Calls Tryz.prog 26 #[.pointer (some ⟨g,0,none⟩),.int .i64 13,.int .i64 n] w fun z w'=>z = .returned (.int .i64 0)∧Keep g w w'∧RW l g T v o w' i e p pl:=by
 have HE:=Lib.hid he
 have heb:(e == 0)=false:=by simpa using he
 clear he
 have HRW:=Lib.hid h
 obtain ⟨A,c,hve,hcc⟩:=(h.ctx.now h.pq.lt).shape
 subst hve
 obtain ⟨Ao,co,hoe⟩:=own_shape h.row.own
 subst hoe
 obtain ⟨pl0,p0,p1,p2,p3,p4,pf⟩:=h.pq
 clear h
 have HIS:Hid (∀ u,Below w.heap.size w u→Calls Tryz.prog 46 #[.slice A l.length c,.int .i64 i,.string (str [123])] u fun r w'=>r = .returned (.bool false)∧u=w'):=fun u hu=>by
  have hh:=ris_c l (by omega) i [123] _ u ((HRW.out.below hu).ctx.now (HRW.out.below hu).pq.lt)
  unfold IsPost at hh
  rw [hs] at hh
  exact hh
 have HS:=Lib.hid hs
 clear hs
 go_enter Tryz.func26,Tryz.ntmps26
 go_upto_region 2 with fail
 go_quiet (first | (go_at_call 46;refine (HIS.out _ ?_).mono ?_;(repeat (first | exact Below.refl _ _ | refine qdrN ?_ _ | refine qdr ?_));rintro e w' ⟨he,hw⟩;exact ⟨he,_,hw.symm⟩))
 have HR1:=Lib.hid (HRW.out.drewN nq)
 have HK1:=Lib.hid ((Keep.refl g w).drewN nq)
 clear pl0 p0 p1 p2 p3 p4 pf
 generalize World.drewN _ _=X at HR1 HK1 ⊢
 go_upto_region 5 with (go_at_call 48;refine (must_err l hl [123] HE.out HR1.out).mono ?_;rintro r w2 ⟨rfl,hk2,hr2⟩)
 have HR2:=Lib.hid hr2
 have HK2:=Lib.hid (HK1.out.trans hk2)
 clear hr2 hk2
 go_loopw [] (fun wr=>RW l g T (.slice A l.length c) (.slice Ao pl.length co) wr i e p pl∧Keep g w wr) (fun _=>0)
 case atStart=>exact ⟨HR2.out,HK2.out⟩
 case round =>
  obtain ⟨hr,hk⟩:=hrel
  have HR3:=Lib.hid (hr)
  have HK3:=Lib.hid (hk)
  clear hr hk
  obtain ⟨pl0,p0,p1,p2,p3,p4,pf⟩:=HR3.out.pq
  go_upto_region 5 with fail
  go_quiet (fail)
  replace HR3:=Lib.hid (HR3.out.drewN nq)
  replace HK3:=Lib.hid (HK3.out.drewN nq)
  clear pl0 p0 p1 p2 p3 p4 pf
  generalize World.drewN _ _=Y at HR3 HK3 ⊢
  go_upto_region 8 with (go_at_call 48;refine (must_err l hl [125] HE.out HR3.out).mono ?_;rintro r w4 ⟨rfl,hk4,hr4⟩)
  have HR4:=Lib.hid hr4
  have HK4:=Lib.hid (HK3.out.trans hk4)
  clear hr4 hk4
  obtain ⟨pl0,p0,p1,p2,p3,p4,pf⟩:=HR4.out.pq
  go_wp2_with fail
  go_ret
  exact ⟨ret_int (by omega),HK4.out,HR4.out⟩
theorem qblk_err13b (l:List Tok) (hl:l.length≤100000) (g:Nat) (T:Nat→Prop) (v o:Value) (i:Nat) (e:Int) (p:Int) (pl:List Sv) (n:Int) (w:World) (h:RW l g T v o w i e p pl) (he:¬ e=0) (hs:isE l i [123] = true) :
 Calls Tryz.prog 26 #[.pointer (some ⟨g,0,none⟩),.int .i64 13,.int .i64 n] w fun z w'=>z = .returned (.int .i64 0)∧Keep g w w'∧RW l g T v o w' i e p pl:=by
 have HE:=Lib.hid he
 have heb:(e == 0)=false:=by simpa using he
 clear he
 have HRW:=Lib.hid h
 obtain ⟨A,c,hve,hcc⟩:=(h.ctx.now h.pq.lt).shape
 subst hve
 obtain ⟨Ao,co,hoe⟩:=own_shape h.row.own
 subst hoe
 obtain ⟨pl0,p0,p1,p2,p3,p4,pf⟩:=h.pq
 clear h
 have HIS:Hid (∀ u,Below w.heap.size w u→Calls Tryz.prog 46 #[.slice A l.length c,.int .i64 i,.string (str [123])] u fun r w'=>r = .returned (.bool true)∧u=w'):=fun u hu=>by
  have hh:=ris_c l (by omega) i [123] _ u ((HRW.out.below hu).ctx.now (HRW.out.below hu).pq.lt)
  unfold IsPost at hh
  rw [hs] at hh
  exact hh
 have HS:=Lib.hid hs
 clear hs
 go_enter Tryz.func26,Tryz.ntmps26
 go_upto_region 2 with fail
 go_quiet (first | (go_at_call 46;refine (HIS.out _ ?_).mono ?_;(repeat (first | exact Below.refl _ _ | refine qdrN ?_ _ | refine qdr ?_));rintro e w' ⟨he,hw⟩;exact ⟨he,_,hw.symm⟩))
 have HR1:=Lib.hid (HRW.out.drewN nq)
 have HK1:=Lib.hid ((Keep.refl g w).drewN nq)
 clear pl0 p0 p1 p2 p3 p4 pf
 generalize World.drewN _ _=X at HR1 HK1 ⊢
 go_upto_region 4 with (go_at_call 47;refine (bad_err l hl 7 HE.out HR1.out).mono ?_;rintro r w2 ⟨rfl,hk2,hr2⟩)
 replace HR1:=Lib.hid hr2
 replace HK1:=Lib.hid (HK1.out.trans hk2)
 clear hr2 hk2
 go_upto_region 5 with (go_at_call 48;refine (must_err l hl [123] HE.out HR1.out).mono ?_;rintro r w2 ⟨rfl,hk2,hr2⟩)
 have HR2:=Lib.hid hr2
 have HK2:=Lib.hid (HK1.out.trans hk2)
 clear hr2 hk2
 go_loopw [] (fun wr=>RW l g T (.slice A l.length c) (.slice Ao pl.length co) wr i e p pl∧Keep g w wr) (fun _=>0)
 case atStart=>exact ⟨HR2.out,HK2.out⟩
 case round =>
  obtain ⟨hr,hk⟩:=hrel
  have HR3:=Lib.hid (hr)
  have HK3:=Lib.hid (hk)
  clear hr hk
  obtain ⟨pl0,p0,p1,p2,p3,p4,pf⟩:=HR3.out.pq
  go_upto_region 5 with fail
  go_quiet (fail)
  replace HR3:=Lib.hid (HR3.out.drewN nq)
  replace HK3:=Lib.hid (HK3.out.drewN nq)
  clear pl0 p0 p1 p2 p3 p4 pf
  generalize World.drewN _ _=Y at HR3 HK3 ⊢
  go_upto_region 8 with (go_at_call 48;refine (must_err l hl [125] HE.out HR3.out).mono ?_;rintro r w4 ⟨rfl,hk4,hr4⟩)
  have HR4:=Lib.hid hr4
  have HK4:=Lib.hid (HK3.out.trans hk4)
  clear hr4 hk4
  obtain ⟨pl0,p0,p1,p2,p3,p4,pf⟩:=HR4.out.pq
  go_wp2_with fail
  go_ret
  exact ⟨ret_int (by omega),HK4.out,HR4.out⟩
theorem qblk_zeroa (l:List Tok) (hl:l.length≤100000) (g:Nat) (T:Nat→Prop) (v o:Value) (i:Nat) (p:Int) (pl:List Sv) (n:Int) (w:World) (h:RW l g T v o w i 0 p pl) (B:Bool) (hs:isE l i [123] = false) :
 Calls Tryz.prog 26 #[.pointer (some ⟨g,0,none⟩),.int .i64 13,.int .i64 n] w (BlkPost l (blkR l 0 B i) g T v o p pl w):=by
 have HRW:=Lib.hid h
 obtain ⟨A,c,hve,hcc⟩:=(h.ctx.now h.pq.lt).shape
 subst hve
 obtain ⟨Ao,co,hoe⟩:=own_shape h.row.own
 subst hoe
 obtain ⟨pl0,p0,p1,p2,p3,p4,pf⟩:=h.pq
 clear h
 have HIS:Hid (∀ u,Below w.heap.size w u→Calls Tryz.prog 46 #[.slice A l.length c,.int .i64 i,.string (str [123])] u fun r w'=>r = .returned (.bool false)∧u=w'):=fun u hu=>by
  have hh:=ris_c l (by omega) i [123] _ u ((HRW.out.below hu).ctx.now (HRW.out.below hu).pq.lt)
  unfold IsPost at hh
  rw [hs] at hh
  exact hh
 have HS:=Lib.hid hs
 clear hs
 go_enter Tryz.func26,Tryz.ntmps26
 go_upto_region 2 with fail
 go_quiet (first | (go_at_call 46;refine (HIS.out _ ?_).mono ?_;(repeat (first | exact Below.refl _ _ | refine qdrN ?_ _ | refine qdr ?_));rintro e w' ⟨he,hw⟩;exact ⟨he,_,hw.symm⟩))
 have HR1:=Lib.hid (HRW.out.drewN nq)
 have HK1:=Lib.hid ((Keep.refl g w).drewN nq)
 clear pl0 p0 p1 p2 p3 p4 pf
 generalize World.drewN _ _=X at HR1 HK1 ⊢
 have HE:Hid (¬ mE l [123] i 0=0):=by show ¬ _;unfold mE wE;rw [if_neg (fun h=>by rw [HS.out] at h;exact absurd h.2 (by decide)),if_pos rfl];split <;> decide
 have HPV:Hid (BlkEnd (blkR l 0 B i) i (mE l [123] i 0) (mP l [123] i 0 p) p []):=by
  show BlkEnd _ _ _ _ _ _
  have hn:¬ ((0:Int)=0∧isE l i [123] = true):=fun h=>by rw [HS.out] at h;exact absurd h.2 (by decide)
  have hn2:¬ isE l i [123] = true:=by rw [HS.out];decide
  unfold blkR mE mP wE wP badR
  rw [if_neg hn2,if_neg hn,if_neg hn,if_pos rfl,if_pos rfl]
  exact ⟨rfl,rfl,by split <;> decide⟩
 have HMI:Hid (mI l [123] i 0=i):=by show _=_;unfold mI;rw [if_neg (fun h=>by rw [HS.out] at h;exact absurd h.2 (by decide))]
 go_upto_region 5 with (go_at_call 48;refine (qmust_c l hl [123] g _ _ i (Nat.le_trans HR1.out.im (by decide)) 0 p _ HR1.out.pq HR1.out.ctx).mono ?_;rintro r w2 ⟨rfl,hk2,hp2⟩)
 have hr2:=HR1.out.keep hk2 hp2 (mI_le _ _ _ _) (mI_lt hl _ HR1.out.im _) mE_zero
 rw [HMI.out] at hr2
 clear hp2
 have HP0:=Lib.hid (rfl:mP l [123] i 0 p=mP l [123] i 0 p)
 generalize mE l [123] i 0=e at hr2 HE HPV
 generalize mP l [123] i 0 p=p' at hr2 HPV
 have heb:(e == 0)=false:=by have:=HE.out;simpa using this
 have HR2:=Lib.hid hr2
 have HK2:=Lib.hid (HK1.out.trans hk2)
 clear hr2 hk2
 go_loopw [] (fun wr=>RW l g T (.slice A l.length c) (.slice Ao pl.length co) wr i e p' pl∧Keep g w wr) (fun _=>0)
 case atStart=>exact ⟨HR2.out,HK2.out⟩
 case round =>
  obtain ⟨hr,hk⟩:=hrel
  have HR3:=Lib.hid (hr)
  have HK3:=Lib.hid (hk)
  clear hr hk
  obtain ⟨pl0,p0,p1,p2,p3,p4,pf⟩:=HR3.out.pq
  go_upto_region 5 with fail
  go_quiet (fail)
  replace HR3:=Lib.hid (HR3.out.drewN nq)
  replace HK3:=Lib.hid (HK3.out.drewN nq)
  clear pl0 p0 p1 p2 p3 p4 pf
  generalize World.drewN _ _=Y at HR3 HK3 ⊢
  go_upto_region 8 with (go_at_call 48;refine (must_err l hl [125] HE.out HR3.out).mono ?_;rintro r w4 ⟨rfl,hk4,hr4⟩)
  have HR4:=Lib.hid hr4
  have HK4:=Lib.hid (HK3.out.trans hk4)
  clear hr4 hk4
  obtain ⟨pl0,p0,p1,p2,p3,p4,pf⟩:=HR4.out.pq
  go_wp2_with fail
  go_ret
  exact ⟨i,e,p',_,[],ret_int (by simp),by rw [List.append_nil];exact HR4.out,KR.of _ HK4.out,HPV.out⟩
theorem qblk_zerob (l:List Tok) (hl:l.length≤100000) (g:Nat) (T:Nat→Prop) (v o:Value) (i:Nat) (p:Int) (pl:List Sv) (n:Int) (w:World) (h:RW l g T v o w i 0 p pl) (B:Bool) (hs:isE l i [123] = true) :
 Calls Tryz.prog 26 #[.pointer (some ⟨g,0,none⟩),.int .i64 13,.int .i64 n] w (BlkPost l (blkR l 0 B i) g T v o p pl w):=by
 have HRW:=Lib.hid h
 obtain ⟨A,c,hve,hcc⟩:=(h.ctx.now h.pq.lt).shape
 subst hve
 obtain ⟨Ao,co,hoe⟩:=own_shape h.row.own
 subst hoe
 obtain ⟨pl0,p0,p1,p2,p3,p4,pf⟩:=h.pq
 clear h
 have HIS:Hid (∀ u,Below w.heap.size w u→Calls Tryz.prog 46 #[.slice A l.length c,.int .i64 i,.string (str [123])] u fun r w'=>r = .returned (.bool true)∧u=w'):=fun u hu=>by
  have hh:=ris_c l (by omega) i [123] _ u ((HRW.out.below hu).ctx.now (HRW.out.below hu).pq.lt)
  unfold IsPost at hh
  rw [hs] at hh
  exact hh
 have HS:=Lib.hid hs
 clear hs
 go_enter Tryz.func26,Tryz.ntmps26
 go_upto_region 2 with fail
 go_quiet (first | (go_at_call 46;refine (HIS.out _ ?_).mono ?_;(repeat (first | exact Below.refl _ _ | refine qdrN ?_ _ | refine qdr ?_));rintro e w' ⟨he,hw⟩;exact ⟨he,_,hw.symm⟩))
 have HR1:=Lib.hid (HRW.out.drewN nq)
 have HK1:=Lib.hid ((Keep.refl g w).drewN nq)
 clear pl0 p0 p1 p2 p3 p4 pf
 generalize World.drewN _ _=X at HR1 HK1 ⊢
 have HW7:Hid (wE l i 0 7=7):=by show _=_;have:=isE_lt HS.out;unfold wE;rw [if_pos rfl,if_neg (by omega)]
 have HPV:Hid (BlkEnd (blkR l 0 B i) i 7 (wP l i 0 p) p []):=by
  show BlkEnd _ _ _ _ _ _
  unfold blkR wP
  rw [if_pos HS.out,if_pos rfl]
  exact ⟨rfl,rfl,by decide⟩
 have HE:Hid (¬ (7:Int)=0):=by show ¬ _;decide
 go_upto_region 4 with (go_at_call 47;refine (qbad_c l hl g _ _ i 0 7 p _ HR1.out.pq HR1.out.ctx).mono ?_;rintro r w2 ⟨rfl,hk2,hp2⟩)
 rw [HW7.out] at hp2
 have hr2:=HR1.out.keep hk2 hp2 (Nat.le_refl _) HR1.out.im (fun h=>absurd h HE.out)
 clear hp2
 generalize wP l i 0 p=p' at hr2 HPV
 replace HR1:=Lib.hid hr2
 replace HK1:=Lib.hid (HK1.out.trans hk2)
 clear hr2 hk2
 go_upto_region 5 with (go_at_call 48;refine (must_err l hl [123] HE.out HR1.out).mono ?_;rintro r w2 ⟨rfl,hk2,hr2⟩)
 have HR2:=Lib.hid hr2
 have HK2:=Lib.hid (HK1.out.trans hk2)
 clear hr2 hk2
 go_loopw [] (fun wr=>RW l g T (.slice A l.length c) (.slice Ao pl.length co) wr i 7 p' pl∧Keep g w wr) (fun _=>0)
 case atStart=>exact ⟨HR2.out,HK2.out⟩
 case round =>
  obtain ⟨hr,hk⟩:=hrel
  have HR3:=Lib.hid (hr)
  have HK3:=Lib.hid (hk)
  clear hr hk
  obtain ⟨pl0,p0,p1,p2,p3,p4,pf⟩:=HR3.out.pq
  go_upto_region 5 with fail
  go_quiet (fail)
  replace HR3:=Lib.hid (HR3.out.drewN nq)
  replace HK3:=Lib.hid (HK3.out.drewN nq)
  clear pl0 p0 p1 p2 p3 p4 pf
  generalize World.drewN _ _=Y at HR3 HK3 ⊢
  go_upto_region 8 with (go_at_call 48;refine (must_err l hl [125] HE.out HR3.out).mono ?_;rintro r w4 ⟨rfl,hk4,hr4⟩)
  have HR4:=Lib.hid hr4
  have HK4:=Lib.hid (HK3.out.trans hk4)
  clear hr4 hk4
  obtain ⟨pl0,p0,p1,p2,p3,p4,pf⟩:=HR4.out.pq
  go_wp2_with fail
  go_ret
  exact ⟨i,7,p',_,[],ret_int (by simp),by rw [List.append_nil];exact HR4.out,KR.of _ HK4.out,HPV.out⟩
theorem qblk_succ (l:List Tok) (hl:l.length≤100000) (htx:∀ t∈l,t.text.length≤1000000) (d:Nat) (hd:d≤12) (HB:BlkC l d) (g:Nat) (T:Nat→Prop) (v o:Value) (i:Nat) (p:Int) (pl:List Sv) (n:Nat) (w:World) (hn:n+1+d≤100) (h:RW l g T v o w i 0 p pl) (hD:decide ((12:Int) < 12 - (d:Int))=false) :
 Calls Tryz.prog 26 #[.pointer (some ⟨g,0,none⟩),.int .i64 (12 - (d:Int)),.int .i64 n] w (BlkPost l (blkR l (d+1) (decide (0 < n)) i) g T v o p pl w):=by
 have HRW:=Lib.hid h
 have HONE:Hid (∀ (o:Value) (j:Nat) (p:Int) (pl:List Sv) u,RW l g T v o u j 0 p pl→Calls Tryz.prog 49 #[.pointer (some ⟨g,0,none⟩),.int .i64 (12 - (d:Int)),.int .i64 n] u (OnePost l (oneR (blkR l d) (decide (0 < n)) l j) g T v o p pl u)):=fun o j p pl u hu=>qone_c l hl htx d hd HB g T v o j p pl n u hn hu
 obtain ⟨A,c,hve,hcc⟩:=(h.ctx.now h.pq.lt).shape
 subst hve
 obtain ⟨Ao,co,hoe⟩:=own_shape h.row.own
 subst hoe
 obtain ⟨pl0,p0,p1,p2,p3,p4,pf⟩:=h.pq
 clear h HB
 generalize hb:decide (0 < n)=b at HONE ⊢
 clear hb
 obtain ⟨R,HR⟩:∃ R:RS (List St),Hid (blkR l (d+1) b i=shutR l R∧((isE l i [123] = true∧R=stsR (oneR (blkR l d) b l) l (l.length+1 - (i+1)) (i+1))∨(isE l i [123] = false∧R = .inr (badR l i 5)))):=by
  cases hs:isE l i [123]
  ·exact ⟨.inr (badR l i 5),by rw [blk_shut hs];rfl,.inr ⟨rfl,rfl⟩⟩
  ·exact ⟨_,by rw [blk_open hs];rfl,.inl ⟨rfl,rfl⟩⟩
 rw [HR.out.1]
 go_enter Tryz.func26,Tryz.ntmps26
 go_upto_region 2 with fail
 go_quiet (fail)
 have HR1:=Lib.hid (HRW.out.drewN nq)
 have HK1:=Lib.hid ((Keep.refl g w).drewN nq)
 clear pl0 p0 p1 p2 p3 p4 pf
 generalize World.drewN _ _=X at HR1 HK1 ⊢
 go_upto_region 5 with (go_at_call 48;refine (qmust_c l hl [123] g _ _ i (Nat.le_trans HR1.out.im (by decide)) 0 p _ HR1.out.pq HR1.out.ctx).mono ?_;rintro r w2 ⟨rfl,hk2,hp2⟩)
 have HR2:=Lib.hid (HR1.out.keep hk2 hp2 (mI_le _ _ _ _) (mI_lt hl _ HR1.out.im _) mE_zero)
 have HK2:=Lib.hid (KR.of (.slice Ao pl.length co) (HK1.out.trans hk2))
 have HST:Hid (Rest (oneR (blkR l d) b l) l R p (mI l [123] i 0) (mE l [123] i 0) (mP l [123] i 0 p) []∧(mE l [123] i 0=0→mI l [123] i 0≤l.length)):=by
  rcases HR.out.2 with ⟨hs,hR⟩ | ⟨hs,hR⟩
  ·have h1:(0:Int)=0∧isE l i [123] = true:=⟨rfl,hs⟩
   have hlt:=isE_lt hs
   show Rest _ _ _ _ _ _ _ _∧_
   unfold mI mE mP
   rw [if_pos h1,if_pos h1,if_pos h1,hR]
   exact ⟨rest_start _ _ _ _,fun _=>hlt⟩
  ·have h1:¬ ((0:Int)=0∧isE l i [123] = true):=fun h=>by rw [hs] at h;exact absurd h.2 (by decide)
   show Rest _ _ _ _ _ _ _ _∧_
   unfold mI mE mP wE wP
   have hne:¬ (if l.length≤i then (6:Int) else 5)=0:=by split <;> decide
   rw [if_neg h1,if_neg h1,if_neg h1,if_pos rfl,if_pos rfl]
   exact ⟨.inr ⟨hne,hR⟩,fun h=>absurd h hne⟩
 clear hk2 hp2
 go_loopw [] (fun wr=>∃ (j:Nat) (e q:Int) (o':Value) (pl':List Sv),RW l g T (.slice A l.length c) o' wr j e q (pl++pl')∧KR g (.slice Ao pl.length co) o' w wr∧Rest (oneR (blkR l d) b l) l R p j e q (pl'.map (·.s))∧(e=0→j≤l.length)) (fun wr=>leftW l g wr)
 case atStart=>exact ⟨_,_,_,_,[],by rw [List.append_nil];exact HR2.out,HK2.out,HST.out.1,HST.out.2⟩
 case round =>
  obtain ⟨j,e,q,o',pl',hr,hk,hst,hj⟩:=hrel
  have HR3:=Lib.hid (hr)
  have HK3:=Lib.hid (hk)
  have HS3:=Lib.hid hst
  have HJ3:=Lib.hid hj
  obtain ⟨A3,c3,ho3⟩:=own_len hr.row.own
  subst ho3
  clear hr hk hst hj HR2 HK2 HST
  obtain ⟨N,HN⟩:∃ N:Nat,Hid (N=pl.length+pl'.length):=⟨_,rfl⟩
  have hNl:(pl++pl').length=N:=by rw [List.length_append];exact HN.out.symm
  obtain ⟨pl0,p0,p1,p2,p3,p4,pf⟩:=HR3.out.pq
  rw [hNl] at p4
  clear hNl
  by_cases he:e=0
  ·subst he
   cases hs:isE l j [125]
   all_goals
    have HIS:Hid (∀ u,Below wr.heap.size wr u→Calls Tryz.prog 46 #[.slice A l.length c,.int .i64 j,.string (str [125])] u fun r w'=>r = .returned (.bool (isE l j [125]))∧u=w'):=fun u hu=>ris_c l (by omega) j [125] _ u ((HR3.out.below hu).ctx.now (HR3.out.below hu).pq.lt)
    have HS:=Lib.hid hs
    rw [hs] at HIS
    clear hs
    go_upto_region 5 with fail
    go_quiet (first | (go_at_call 46;refine (HIS.out _ ?_).mono ?_;(repeat (first | exact Below.refl _ _ | refine qdrN ?_ _ | refine qdr ?_));rintro e w' ⟨he,hw⟩;exact ⟨he,_,hw.symm⟩))
    have HML:=Lib.hid (left_of (l:=l) HR3.out.pq)
    replace HR3:=Lib.hid (HR3.out.drewN nq)
    replace HK3:=Lib.hid (HK3.out.drewN nq)
    clear pl0 p0 p1 p2 p3 p4 pf
    generalize World.drewN _ _=Y at HR3 HK3 ⊢
   ·go_wp2_with (go_at_call 49;refine (HONE.out _ _ _ _ _ HR3.out).mono ?_;rintro r w4 ⟨j2,e2,p2,o2,pl2,rfl,hr4,hk4,hb4⟩)
    have hst:=rest_step HS3.out (HJ3.out (by trivial)) HS.out hb4
    go_roundw
    case rel=>exact ⟨j2,e2,p2,o2,pl'++pl2,by rw [← List.append_assoc];exact hr4,HK3.out.trans hk4,by rw [List.map_append];exact hst.1,fun h=>(hst.2 h).2⟩
    case measure =>
     have hml:leftW l g wr=l.length+2 - j:=by rw [HML.out];simp
     rw [hml,left_of hr4.pq]
     have h3:=HJ3.out (by trivial)
     split
     ·rename_i h;have:=hst.2 h;omega
     ·omega
   ·obtain ⟨pl0,p0,p1,p2,p3,p4,pf⟩:=HR3.out.pq
    go_upto_region 8 with (go_at_call 48;refine (qmust_c l hl [125] g _ _ j (Nat.le_trans HR3.out.im (by decide)) 0 q _ HR3.out.pq HR3.out.ctx).mono ?_;rintro r w4 ⟨rfl,hk4,hp4⟩)
    have HR4:=Lib.hid (HR3.out.keep hk4 hp4 (mI_le _ _ _ _) (mI_lt hl _ HR3.out.im _) mE_zero)
    have HK4:=Lib.hid (HK3.out.trans (KR.of _ hk4))
    clear hk4 hp4 pl0 p0 p1 p2 p3 p4 pf
    obtain ⟨pl0,p0,p1,p2,p3,p4,pf⟩:=HR4.out.pq
    have hNl:(pl++pl').length=N:=by rw [List.length_append];exact HN.out.symm
    rw [hNl] at p4
    have hb1:(pl.length:Int)≤(N:Int):=by have:=HN.out;omega
    have hb2:(N:Int)≤2000000:=by have:=HR4.out.n1;have:=HR4.out.im;omega
    clear hNl
    go_wp2_with fail
    go_ret
    exact ⟨_,_,_,_,pl',ret_int (by have:=HN.out;omega),HR4.out,HK4.out,shut_ok HS3.out HS.out⟩
  ·have HE:=Lib.hid he
   have heb:(e == 0)=false:=by simpa using he
   clear he
   go_upto_region 5 with fail
   go_quiet (fail)
   replace HR3:=Lib.hid (HR3.out.drewN nq)
   replace HK3:=Lib.hid (HK3.out.drewN nq)
   clear pl0 p0 p1 p2 p3 p4 pf
   generalize World.drewN _ _=Y at HR3 HK3 ⊢
   go_upto_region 8 with (go_at_call 48;refine (must_err l hl [125] HE.out HR3.out).mono ?_;rintro r w4 ⟨rfl,hk4,hr4⟩)
   have HR4:=Lib.hid hr4
   have HK4:=Lib.hid (HK3.out.trans (KR.of _ hk4))
   clear hr4 hk4
   obtain ⟨pl0,p0,p1,p2,p3,p4,pf⟩:=HR4.out.pq
   have hNl:(pl++pl').length=N:=by rw [List.length_append];exact HN.out.symm
   rw [hNl] at p4
   have hb1:(pl.length:Int)≤(N:Int):=by have:=HN.out;omega
   have hb2:(N:Int)≤2000000:=by have:=HR4.out.n1;have:=HR4.out.im;omega
   clear hNl
   go_wp2_with fail
   go_ret
   exact ⟨_,_,_,_,pl',ret_int (by have:=HN.out;omega),HR4.out,HK4.out,shut_err HS3.out HE.out⟩
theorem qblk_c (l : List Tok) (hl : l.length ≤ 100000) (htx : ∀ t ∈ l, t.text.length ≤ 1000000) : ∀ d, d ≤ 13 → BlkC l d
  | 0, _ => fun g T v o i e p pl n w hn h => by
    have e13 : (13 - ((0 : Nat) : Int)) = 13 := by omega
    rw [e13]
    by_cases he : e = 0
    · subst he
      rw [if_pos rfl]
      cases hs : isE l i [123]
      · exact qblk_zeroa l hl g T v o i p pl n w h _ hs
      · exact qblk_zerob l hl g T v o i p pl n w h _ hs
    · rw [if_neg he]
      cases hs : isE l i [123]
      · exact qblk_err13a l hl g T v o i e p pl n w h he hs
      · exact qblk_err13b l hl g T v o i e p pl n w h he hs
  | d + 1, hd => fun g T v o i e p pl n w hn h => by
    have e13 : (13 - ((d + 1 : Nat) : Int)) = 12 - (d : Int) := by omega
    rw [e13]
    by_cases he : e = 0
    · subst he
      rw [if_pos rfl]
      exact qblk_succ l hl htx d (by omega) (qblk_c l hl htx d (by omega)) g T v o i p pl n w (by omega) h (by rw [decide_eq_false_iff_not]; omega)
    · rw [if_neg he]
      exact qblk_err l hl g T v o i e p pl _ n w h he (by rw [decide_eq_false_iff_not]; omega)
theorem qmust_far (l:List Tok) (hl:l.length≤100000) (s:List UInt8) (g:Nat) (v o:Value) (i:Nat) (hfar:l.length≤i) (e p:Int) (w:World) (hp:PQ w g v i e p o) (hc:Ctx g v l w) :
 Calls Tryz.prog 48 #[.pointer (some ⟨g,0,none⟩),.string (str s)] w fun r w'=>r = .returned (.tuple #[])∧Keep g w w'∧PQ w' g v i (wE l i e 5) (wP l i e p) o:=by
 have hct:=hc.now hp.lt
 obtain ⟨A,c,hve,hcc⟩:=hct.shape
 subst hve
 have HPA:=Lib.hid hp
 have HC:=Lib.hid hc
 have HBD:Hid (∀ u,Keep g w u→PQ u g (.slice A l.length c) i e p o→Calls Tryz.prog 47 #[.pointer (some ⟨g,0,none⟩),.int .i64 5] u fun r w'=>r = .returned (.tuple #[])∧Keep g u w'∧PQ w' g (.slice A l.length c) i (wE l i e 5) (wP l i e p) o):=fun u hk hq=>qbad_c l hl g _ o i e 5 p u hq (HC.out.keep hk HPA.out.lt)
 have HIS2:Hid (∀ u:World,Keep g w u→Calls Tryz.prog 46 #[.slice A l.length c,.int .i64 i,.string (str s)] u fun r w'=>r = .returned (.bool false)∧u=w'):=fun u hu=>by
  have hh:=ris_c l (by omega) i s _ u ((HC.out.keep hu HPA.out.lt).now (Nat.lt_of_lt_of_le HPA.out.lt hu.size))
  unfold IsPost at hh
  rw [isE_out hfar] at hh
  exact hh
 obtain ⟨pl,p0,p1,p2,p3,p4,pf⟩:=hp
 clear hc hct hfar
 by_cases he:e=0
 ·subst he
  go_enter Tryz.func48,Tryz.ntmps48
  go_upto_region 0 with fail
  go_quiet (first | (go_at_call 46;refine (HIS2.out _ ?_).mono ?_;(repeat (first | exact Keep.refl _ _ | refine Keep.drewN ?_ _ | refine Keep.drew ?_));rintro e w' ⟨he,hw⟩;exact ⟨he,_,hw.symm⟩))
  go_wp2_with (go_at_call 47;refine (HBD.out _ ((Keep.refl g w).drewN nq) (HPA.out.drewN nq)).mono ?_;rintro r w2 ⟨rfl,hk2,hp2⟩)
  refine bodyPost_end (results_none rfl _ _ _) rfl ?_
  exact ⟨rfl,((Keep.refl g w).drewN nq).trans hk2,hp2⟩
 ·have heq:(e == 0)=false:=by simpa using he
  go_enter Tryz.func48,Tryz.ntmps48
  go_upto_region 0 with fail
  go_quiet (fail)
  go_wp2_with (go_at_call 47;refine (HBD.out _ ((Keep.refl g w).drewN nq) (HPA.out.drewN nq)).mono ?_;rintro r w2 ⟨rfl,hk2,hp2⟩)
  refine bodyPost_end (results_none rfl _ _ _) rfl ?_
  exact ⟨rfl,((Keep.refl g w).drewN nq).trans hk2,hp2⟩
theorem qblk_far (l:List Tok) (hl:l.length≤100000) (g:Nat) (v:Value) (i:Nat) (hfar:l.length≤i) (p:Int) (w:World) (hp:PQ w g v i 0 p (.slice none 0 0)) (hc:Ctx g v l w) :
 Calls Tryz.prog 26 #[.pointer (some ⟨g,0,none⟩),.int .i64 0,.int .i64 0] w fun z w'=>z = .returned (.int .i64 0)∧Keep g w w'∧PQ w' g v i 6 (placeE l i) (.slice none 0 0):=by
 have HPA:=Lib.hid hp
 have HC:=Lib.hid hc
 have HF:=Lib.hid hfar
 have HE6:Hid (wE l i 0 5=6):=by show _=_;unfold wE;rw [if_pos rfl,if_pos hfar]
 have HP6:Hid (wP l i 0 p=placeE l i):=by show _=_;unfold wP;rw [if_pos rfl]
 have HE7:Hid (∀ q,wE l i 6 5=6∧wP l i 6 q=q):=fun q=>by unfold wE wP;rw [if_neg (by decide),if_neg (by decide)];exact ⟨rfl,rfl⟩
 obtain ⟨A,c,hve,hcc⟩:=(hc.now hp.lt).shape
 subst hve
 obtain ⟨pl0,p0,p1,p2,p3,p4,pf⟩:=hp
 clear hc hfar
 go_enter Tryz.func26,Tryz.ntmps26
 go_upto_region 2 with fail
 go_quiet (fail)
 have HR1:=Lib.hid (HPA.out.drewN nq)
 have HK1:=Lib.hid ((Keep.refl g w).drewN nq)
 clear pl0 p0 p1 p2 p3 p4 pf
 generalize World.drewN _ _=X at HR1 HK1 ⊢
 go_upto_region 5 with (go_at_call 48;refine (qmust_far l hl [123] g _ _ i HF.out 0 p _ HR1.out (HC.out.keep HK1.out HPA.out.lt)).mono ?_;rintro r w2 ⟨rfl,hk2,hr2⟩)
 rw [HE6.out,HP6.out] at hr2
 have HR2:=Lib.hid hr2
 have HK2:=Lib.hid (HK1.out.trans hk2)
 clear hr2 hk2
 go_loopw [] (fun wr=>PQ wr g (.slice A l.length c) i 6 (placeE l i) (.slice none 0 0)∧Keep g w wr) (fun _=>0)
 case atStart=>exact ⟨HR2.out,HK2.out⟩
 case round =>
  obtain ⟨hr,hk⟩:=hrel
  have HR3:=Lib.hid (hr)
  have HK3:=Lib.hid (hk)
  clear hr hk
  obtain ⟨pl0,p0,p1,p2,p3,p4,pf⟩:=HR3.out
  go_upto_region 5 with fail
  go_quiet (fail)
  replace HR3:=Lib.hid (HR3.out.drewN nq)
  replace HK3:=Lib.hid (HK3.out.drewN nq)
  clear pl0 p0 p1 p2 p3 p4 pf
  generalize World.drewN _ _=Y at HR3 HK3 ⊢
  go_upto_region 8 with (go_at_call 48;refine (qmust_far l hl [125] g _ _ i HF.out 6 _ _ HR3.out (HC.out.keep HK3.out HPA.out.lt)).mono ?_;rintro r w4 ⟨rfl,hk4,hr4⟩)
  rw [(HE7.out 0).1,(HE7.out _).2] at hr4
  have HR4:=Lib.hid hr4
  have HK4:=Lib.hid (HK3.out.trans hk4)
  clear hr4 hk4
  obtain ⟨pl0,p0,p1,p2,p3,p4,pf⟩:=HR4.out
  go_wp2_with fail
  go_ret
  exact ⟨ret_int (by omega),HK4.out,HR4.out⟩
theorem pq_new (w:World) (v:Value) (i:Int) (t:TypeId):PQ (w.alloc (.cells #[v,.int .i64 i,.int .i64 0,.int .i64 0,.slice none 0 0] t)) w.heap.size v i 0 0 (.slice none 0 0):=by
 refine ⟨by rw [World.size_alloc];omega,cells_new _ _ _ _ _ rfl,cells_new _ _ _ _ _ rfl,cells_new _ _ _ _ _ rfl,cells_new _ _ _ _ _ rfl,cells_new _ _ _ _ _ rfl,fun j=>by simp⟩
def SParse (l:List Tok) (i:Int) (w:World) (e:Ending) (w':World):Prop :=
 ∃ V,e = .returned (.tuple #[V,.int .i64 (parS l i).2.1,.int .i64 (parS l i).2.2.1,.int .i64 (parS l i).2.2.2])∧Sts w' V (parS l i).1∧Below w.heap.size w w'
theorem sparse_ret {l:List Tok} {i:Int} {R:List St × Int × Int × Int} (hR:parS l i=R) {w w':World} {V:Value} {a b c:Int} (ha:R.2.1=a) (hb:R.2.2.1=b) (hc:R.2.2.2=c) (hV:Sts w' V R.1) (hB:Below w.heap.size w w') :
 SParse l i w (.returned (.tuple #[V,.int .i64 a,.int .i64 b,.int .i64 c])) w':=by
 subst hR ha hb hc;exact ⟨V,rfl,hV,hB⟩
theorem sts_nil (w:World):Sts w (.slice none 0 0) []:=⟨[],rfl,Sl.nil _ _ _,fun x hx=>by cases hx⟩
theorem rSParse_c (l:List Tok) (hl:l.length≤100000) (htx:∀ t∈l,t.text.length≤1000000) (v:Value) (i:Int) (w:World) (hv:Toks w v l) (hE:Env w) :
 Calls Tryz.prog 11 #[v,.int .i64 i] w (SParse l i w):=by
 obtain ⟨Av,cv,hve,hcv⟩:=hv.shape
 subst hve
 by_cases hi:i < 0
 ·have hR:parS l i=([],0,1,0):=by unfold parS;rw [if_pos hi]
  have HR:=Lib.hid hR
  clear hR hv
  go_enter Tryz.func11,Tryz.ntmps11
  go_wp2_with fail
  refine bodyPost_ret (results_tmp4 rfl _ _ _) rfl ?_
  exact sparse_ret HR.out rfl rfl rfl (sts_nil _) (Below.refl _ _)
 ·obtain ⟨n,rfl⟩:=Int.eq_ofNat_of_zero_le (show 0≤i by omega)
  have hi0:decide ((n:Int) < 0)=false:=by simp
  have HCX:Hid (Ctx w.heap.size (.slice Av l.length cv) l (w.alloc (.cells #[.slice Av l.length cv,.int .i64 n,.int .i64 0,.int .i64 0,.slice none 0 0] 49))):=⟨Sl.below hv (al _ _),hE.below (al _ _),hE.hm,hE.ht⟩
  have HPQ:=Lib.hid (pq_new w (.slice Av l.length cv) n 49)
  have HBW:=Lib.hid (al w (.cells #[.slice Av l.length cv,.int .i64 n,.int .i64 0,.int .i64 0,.slice none 0 0] 49))
  by_cases hfar:l.length≤n
  ·have HPS:=Lib.hid (parS_bad (blk_far hfar))
   have HF:=Lib.hid hfar
   clear hv hi hfar
   go_enter Tryz.func11,Tryz.ntmps11
   go_upto_region 4 with fail
   generalize World.alloc w _=X at HCX HPQ HBW ⊢
   go_upto_region 6 with (go_at_call 26;refine (qblk_far l hl w.heap.size _ n HF.out 0 _ HPQ.out HCX.out).mono ?_;rintro r w2 ⟨rfl,hk2,hr2⟩;obtain ⟨pl0,p0,p1,p2,p3,p4,pf⟩:=hr2)
   go_quiet (fail)
   go_wp2_with fail
   refine bodyPost_ret (results_tmp4 rfl _ _ _) rfl ?_
   exact sparse_ret HPS.out rfl rfl rfl (sts_nil _) (qdrN ((KR.of (.slice none 0 0) hk2).belowB HBW.out (Nat.le_refl _) HBW.out.size (fun k e=>by cases e)) _)
  ·have HRW:Hid (RW l w.heap.size (fun k=>k=w.heap.size) (.slice Av l.length cv) (.slice none 0 0) (w.alloc (.cells #[.slice Av l.length cv,.int .i64 n,.int .i64 0,.int .i64 0,.slice none 0 0] 49)) n 0 0 []) :=
    ⟨HPQ.out,⟨World.ownsRow_nil _ _ _ _,fun x hx=>by cases hx⟩,HCX.out,fun _=>Nat.zero_le _,Nat.zero_le _,by omega,rfl,fun k hk=>by subst hk;exact HPQ.out.lt⟩
   have HBK:=Lib.hid (qblk_c l hl htx 13 (Nat.le_refl _))
   have hnl:n < l.length:=by omega
   have hn0:(0:Int)≤(n:Int):=Int.natCast_nonneg _
   have hn1:(n:Int) < (l.length:Int):=by omega
   obtain ⟨bt0,offt,ct,hEE,hct,hbt,hatt⟩:=hv.at_ (by omega)
   cases hEE
   have hpos:Hid (∀ u,Below w.heap.size w u→u.cell? ⟨bt0,offt+n*4+3,none⟩=some (.int .i64 (tk l n).pos)):=fun u hu=>by
    have hps:=(hatt n hnl).pos
    rw [← tk_at hnl] at hps
    exact (hu.cell (p:=⟨bt0,offt+n*4+3,none⟩) hbt).trans hps
   clear hatt hct hv hi hfar
   go_enter Tryz.func11,Tryz.ntmps11
   go_upto_region 4 with fail
   generalize World.alloc w _=X at HCX HPQ HBW HRW ⊢
   go_upto_region 5 with (go_at_call 26;refine (blk_ok HBK.out (n:=0) (by omega) (by omega) (by omega) HRW.out).mono ?_;rintro r w2 ⟨j,e,p,o,pl,rfl,hr2,hk2,hb2⟩)
   have hBB:=(hk2.belowB HBW.out (Nat.le_refl _) HBW.out.size (fun k e=>by cases e))
   have HB2:=Lib.hid hb2
   have HBB:=Lib.hid hBB
   have HRR:=Lib.hid hr2
   have hps:=hpos.out w2 hBB
   obtain ⟨A3,c3,ho3⟩:=own_len hr2.row.own
   subst ho3
   rw [List.nil_append] at HRR
   obtain ⟨pl0,p0,p1,p2,p3,p4,pf⟩:=hr2.pq
   have HBR:Hid (blkR l 13 false n = .inr (e,p)∧¬ e=0∨e=0∧∃ x,blkR l 13 false n = .inl (x,j)∧pl.map (·.s)=x):=by
    have hb:=HB2.out
    show _∨_
    cases h:blkR l 13 (decide (0 < 0)) n with
    | inr q =>
      obtain ⟨a,c⟩:=q
      rw [h] at hb
      obtain ⟨rfl,rfl,h3⟩:=hb
      exact .inl ⟨h,h3⟩
    | inl q =>
      obtain ⟨x,t⟩:=q
      rw [h] at hb
      obtain ⟨rfl,h2,h3,h4⟩:=hb
      exact .inr ⟨h2,x,h,h4⟩
   clear hr2 hk2 hb2 hBB hpos
   rw [List.nil_append] at p4
   obtain ⟨ps,HPP⟩:∃ ps,Hid ((tk l n).pos=ps):=⟨_,rfl⟩
   rw [HPP.out] at hps
   by_cases he:e=0
   ·subst he
    obtain ⟨x,hx,hpx⟩:∃ x,blkR l 13 false n = .inl (x,j)∧pl.map (·.s)=x:=HBR.out.elim (fun h=>absurd rfl h.2) (fun h=>h.2)
    have hlen:x.length=pl.length:=by rw [← hpx,List.length_map]
    by_cases h40:40 < pl.length
    ·have HPS:Hid (parS l n=([],0,2,ps)):=(parS_big hx (by omega)).trans (by rw [HPP.out])
     have hd40:decide ((40:Int) < (pl.length:Int))=true:=by simp;omega
     clear hx hlen h40 hpx
     go_upto_region 8 with fail
     go_quiet (fail)
     go_wp2_with fail
     refine bodyPost_ret (results_tmp4 rfl _ _ _) rfl ?_
     exact sparse_ret HPS.out rfl rfl rfl (sts_nil _) (qdrN HBB.out _)
    ·have HPS:=Lib.hid (parS_ok hx (by omega))
     have hd40:decide ((40:Int) < (pl.length:Int))=false:=by simp;omega
     have HPX:=Lib.hid hpx
     clear hx hlen h40 hpx
     go_upto_region 9 with fail
     go_quiet (fail)
     go_wp2_with fail
     refine bodyPost_ret (results_tmp4 rfl _ _ _) rfl ?_
     exact sparse_ret HPS.out rfl rfl rfl (by have:=(HRR.out.drewN nq).row.sts;rw [HPX.out] at this;exact this) (qdrN HBB.out _)
   ·have HPS:=Lib.hid (parS_bad (HBR.out.elim (fun h=>h.1) (fun h=>absurd h.1 he)))
    have heb:(e == 0)=false:=by simpa using he
    clear he
    go_upto_region 6 with fail
    go_quiet (fail)
    go_wp2_with fail
    refine bodyPost_ret (results_tmp4 rfl _ _ _) rfl ?_
    exact sparse_ret HPS.out rfl rfl rfl (sts_nil _) (qdrN HBB.out _)
end Go.Proofs.YtaoeaaebafcegaaGreatDoor

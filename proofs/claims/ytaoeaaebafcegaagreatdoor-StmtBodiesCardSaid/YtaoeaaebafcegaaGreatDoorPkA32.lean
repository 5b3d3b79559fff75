/- Chapter 04 (statements), joined: StQB, StQD, StmM, StmN, StmO, StQE, StQF. -/
import Derived.Test.YtaoeaaebafcegaaGreatDoorPkA22
import Derived.Test.YtaoeaaebafcegaaGreatDoorPkA23
import Derived.Test.YtaoeaaebafcegaaGreatDoorPkA30
set_option maxRecDepth 100000
set_option maxHeartbeats 2000000
namespace Go.Proofs.YtaoeaaebafcegaaGreatDoor
open Go Go.RowKit
set_option linter.unusedVariables false
variable {lo:Int}
def StPo {α:Type} (V:World→Value→α→Prop) (g:Nat) (v o:Value) (a:α × Nat × Int × Int) (w:World) (r:Ending) (w':World):Prop:=∃ x,r = .returned x∧V w' x a.1∧Keep g w w'∧PS lo w' g v (a.2.1:Nat) a.2.2.1 a.2.2.2 o
theorem stpo {α:Type} {V:World→Value→α→Prop} {g:Nat} {v o:Value} {a:α × Nat × Int × Int} {w w':World} {x:Value} {y:α} {i:Nat} {e p:Int} (ha:a=(y,i,e,p)) (hx:V w' x y) (hk:Keep g w w') (hp:PS lo w' g v i e p o):StPo (lo:=lo) V g v o a w (.returned x) w':=by
 subst ha;exact ⟨x,rfl,hx,hk,hp⟩
theorem pname_c (l:List Tok) (hl:l.length≤100000) (htx:∀ t∈l,t.text.length≤1000000) (g:Nat) (v o:Value) (i:Nat) (hi:i≤1000000000) (e p:Int) (w:World) (hp:PS lo w g v i e p o) (hc:Ctx g v l w) :
 Calls Tryz.prog 102 #[.pointer (some ⟨g,0,none⟩)] w (StPo (lo:=lo) isStr g v o (After e p i (nameR l i) []) w):=by
 have HPA:=Lib.hid hp
 have HC:=Lib.hid hc
 have HBD:Hid (∀ (e0:Int) u,Keep g w u→PS lo u g v i e p o→Calls Tryz.prog 51 #[.pointer (some ⟨g,0,none⟩),.int .i64 e0] u fun r w'=>r = .returned (.tuple #[])∧Keep g u w'∧PS lo w' g v i (wE l i e e0) (wP l i e p) o):=fun e0 u hk hq=>pwrong_c l hl g _ o i e e0 p u hq (HC.out.keep hk HPA.out.lt)
 have hi0:(0:Int)≤(i:Int):=Int.natCast_nonneg _
 by_cases he:e=0
 ·subst he
  by_cases hil:i < l.length
  ·have hil2:(i:Int) < (l.length:Int):=by omega
   have hge1:decide ((l.length:Int)≤(i:Int))=false:=by simp;omega
   have hge2:decide (l.length≤i)=false:=by simp;omega
   obtain ⟨bt0,offt,ct,hE,hct,hbt,hatt⟩:=hc.at_ (by omega)
   subst hE
   have hki:∀ u,Keep g w u→u.cell? ⟨bt0,offt+i*4,none⟩=some (.int .i64 (tk l i).kind)∧u.cell? ⟨bt0,offt+i*4+1,none⟩=some (.string (str (tk l i).text)):=fun u hu=>by
    have h:=hatt u (hu.below (Nat.le_of_lt HPA.out.lt)) i hil
    rw [← tk_at hil] at h
    exact ⟨h.kind,h.text⟩
   have HKI:=Lib.hid hki
   have hR:nameR l i=if (tk l i).kind=1∧nameE (tk l i).text=true then .inl ((tk l i).text,i+1) else .inr (badR l i 5):=by
    unfold nameR
    by_cases h2:(tk l i).kind=1∧nameE (tk l i).text=true
    ·rw [if_pos ⟨hil,h2⟩,if_pos h2]
    ·rw [if_neg (fun h=>h2 h.2),if_neg h2]
   have HR:=Lib.hid hR
   have htl:(tk l i).text.length≤1000000:=by rw [tk_at hil];exact htx _ (List.getElem_mem hil)
   have HNM:=Lib.hid (fun u (hu:Below w.heap.size w u)=>name_c (tk l i).text htl u ((HC.out.keep (Keep.of hu) HPA.out.lt).env))
   unfold NamePost at HNM
   clear hR hki hatt hc htl
   generalize (tk l i).kind=k0 at HKI HR
   generalize (tk l i).text=t0 at HKI HR HNM
   obtain ⟨x0,x2⟩:=HKI.out w (Keep.refl _ _)
   by_cases h2:k0=1
   ·subst h2
    cases hn:nameE t0
    ·have hA:After 0 p i (nameR l i) [] = ([],i,wE l i 0 5,wP l i 0 p):=after_bad (by rw [HR.out,if_neg (fun h=>by rw [hn] at h;cases h.2)])
     have HA:=Lib.hid hA
     rw [hn] at HNM
     clear hA HR hn
     generalize str t0=T0 at HKI HNM x2
     have HS:Hid (∀ u,Below w.heap.size w u→u.cell? ⟨g,0,none⟩=some (.slice (some ⟨bt0,offt,none⟩) l.length ct)∧u.cell? ⟨g,1,none⟩=some (.int .i64 i)∧u.cell? ⟨g,3,none⟩=some (.int .i64 0)∧u.cell? ⟨bt0,offt+i*4,none⟩=some (.int .i64 1)∧u.cell? ⟨bt0,offt+i*4+1,none⟩=some (.string T0)):=fun u hu=>⟨(HPA.out.below hu).c0,(HPA.out.below hu).c1,(HPA.out.below hu).c3,(HKI.out u (Keep.of hu)).1,(HKI.out u (Keep.of hu)).2⟩
     obtain ⟨pl,p0,p1,p2,p3,p4,p5,pf⟩:=hp
     go_enter Tryz.func102,Tryz.ntmps102
     go_upto_region 1 with fail
     go_region_held3 (fun u=>u.cell? ⟨g,0,none⟩=some (.slice (some ⟨bt0,offt,none⟩) l.length ct)∧u.cell? ⟨g,1,none⟩=some (.int .i64 i)∧u.cell? ⟨g,3,none⟩=some (.int .i64 0)∧u.cell? ⟨bt0,offt+i*4,none⟩=some (.int .i64 1)∧u.cell? ⟨bt0,offt+i*4+1,none⟩=some (.string T0))
      (exact HS.out _ (blq))
      (first
        | (go_at_call 58;(with_reducible refine (HNM.out _ (blq)).mono ?_);rintro r w5 ⟨rfl,hb5⟩;have h5:Below w.heap.size w w5:=bt (blq) hb5))
     all_goals
      go_wp2_with (go_at_call 51;refine (HBD.out 5 _ (Keep.of (blq)) (HPA.out.below (blq))).mono ?_;rintro r w2 ⟨rfl,hk2,hp2⟩)
      go_ret
      exact stpo HA.out rfl ((Keep.of h5).trans (by first | exact hk2 | exact ((Keep.refl _ _).drew).trans hk2)) hp2
    ·have hA:After 0 p i (nameR l i) [] = (t0,i+1,0,p):=after_ok (by rw [HR.out,if_pos ⟨rfl,hn⟩])
     have HA:=Lib.hid hA
     rw [hn] at HNM
     clear hA HR hn
     have HT0:Hid (str t0=str t0):=rfl
     generalize hTT:str t0=T0 at HKI HNM x2
     have HTT:=Lib.hid hTT
     clear hTT HT0
     have HS:Hid (∀ u,Below w.heap.size w u→u.cell? ⟨g,0,none⟩=some (.slice (some ⟨bt0,offt,none⟩) l.length ct)∧u.cell? ⟨g,1,none⟩=some (.int .i64 i)∧u.cell? ⟨g,3,none⟩=some (.int .i64 0)∧u.cell? ⟨bt0,offt+i*4,none⟩=some (.int .i64 1)∧u.cell? ⟨bt0,offt+i*4+1,none⟩=some (.string T0)):=fun u hu=>⟨(HPA.out.below hu).c0,(HPA.out.below hu).c1,(HPA.out.below hu).c3,(HKI.out u (Keep.of hu)).1,(HKI.out u (Keep.of hu)).2⟩
     obtain ⟨pl,p0,p1,p2,p3,p4,p5,pf⟩:=hp
     have hi1:(i:Int)≤1000000000:=by omega
     go_enter Tryz.func102,Tryz.ntmps102
     go_upto_region 1 with fail
     go_region_held3 (fun u=>u.cell? ⟨g,0,none⟩=some (.slice (some ⟨bt0,offt,none⟩) l.length ct)∧u.cell? ⟨g,1,none⟩=some (.int .i64 i)∧u.cell? ⟨g,3,none⟩=some (.int .i64 0)∧u.cell? ⟨bt0,offt+i*4,none⟩=some (.int .i64 1)∧u.cell? ⟨bt0,offt+i*4+1,none⟩=some (.string T0))
      (exact HS.out _ (blq))
      (first
        | (go_at_call 58;(with_reducible refine (HNM.out _ (blq)).mono ?_);rintro r w5 ⟨rfl,hb5⟩;have h5:Below w.heap.size w w5:=bt (blq) hb5))
     all_goals
      have HP5:=Lib.hid (HPA.out.below h5)
      clear pl p0 p1 p2 p3 p4 p5 pf x0 x2
      obtain ⟨pl,p0,p1,p2,p3,p4,p5,pf⟩:=HP5.out
      have pf1:=pf 1
      go_upto_region 5 with fail
      have HP6:=Lib.hid (HP5.out.set1 (i+1))
      have HK6:Hid (Keep g w (w5.setCell ⟨g,1,none⟩ (.int .i64 (i+1)))):=(Keep.of h5).set 1 _
      clear pl p0 p1 p2 p3 p4 p5 pf pf1
      generalize World.setCell _ _ _=Y at HP6 HK6 ⊢
      obtain ⟨pl,p0,p1,p2,p3,p4,p5,pf⟩:=HP6.out
      obtain ⟨x0,x2⟩:=HKI.out Y HK6.out
      have hi2:(i:Int)+1 - 1=(i:Int):=by omega
      go_quiet (fail)
      go_wp2_with fail
      go_ret
      exact stpo HA.out (congrArg Value.string HTT.out.symm) (HK6.out.drewN _) (HP6.out.drewN _)
   ·have hkb:(k0 == 1)=false:=by simpa using h2
    have hkb2:(k0 != 1)=true:=by rw [bne,hkb];rfl
    have hA:After 0 p i (nameR l i) [] = ([],i,wE l i 0 5,wP l i 0 p):=after_bad (by rw [HR.out,if_neg (fun h=>h2 h.1)])
    have HA:=Lib.hid hA
    clear hA HR h2
    obtain ⟨pl,p0,p1,p2,p3,p4,p5,pf⟩:=hp
    go_enter Tryz.func102,Tryz.ntmps102
    go_upto_region 1 with fail
    go_quiet (fail)
    have HPd:=Lib.hid (HPA.out.drewN nq)
    have HKd:=Lib.hid ((Keep.refl g w).drewN nq)
    clear pl p0 p1 p2 p3 p4 p5 pf
    generalize World.drewN _ _=X at HPd HKd ⊢
    obtain ⟨pl,p0,p1,p2,p3,p4,p5,pf⟩:=HPd.out
    go_wp2_with (go_at_call 51;refine (HBD.out 5 _ HKd.out HPd.out).mono ?_;rintro r w2 ⟨rfl,hk2,hp2⟩)
    go_ret
    exact stpo (HA.out) rfl (HKd.out.trans hk2) hp2
  ·have hil2:¬ (i:Int) < (l.length:Int):=by omega
   have hge1:decide ((l.length:Int)≤(i:Int))=true:=by simp;omega
   have hge2:decide (l.length≤i)=true:=by simp;omega
   have hA:After 0 p i (nameR l i) [] = ([],i,wE l i 0 5,wP l i 0 p):=after_bad (by unfold nameR;rw [if_neg (fun h=>hil h.1)])
   have HA:=Lib.hid hA
   obtain ⟨A,c,hve,hcc⟩:=(hc.now hp.lt).shape
   subst hve
   clear hA hc
   obtain ⟨pl,p0,p1,p2,p3,p4,p5,pf⟩:=hp
   go_enter Tryz.func102,Tryz.ntmps102
   go_upto_region 1 with fail
   go_quiet (fail)
   have HPd:=Lib.hid (HPA.out.drewN nq)
   have HKd:=Lib.hid ((Keep.refl g w).drewN nq)
   clear pl p0 p1 p2 p3 p4 p5 pf
   generalize World.drewN _ _=X at HPd HKd ⊢
   obtain ⟨pl,p0,p1,p2,p3,p4,p5,pf⟩:=HPd.out
   go_wp2_with (go_at_call 51;refine (HBD.out 5 _ HKd.out HPd.out).mono ?_;rintro r w2 ⟨rfl,hk2,hp2⟩)
   go_ret
   exact stpo (HA.out) rfl (HKd.out.trans hk2) hp2
 ·have heq:(e == 0)=false:=by simpa using he
  have heq2:(e != 0)=true:=by rw [bne,heq];rfl
  have hA:After e p i (nameR l i) [] = ([],i,wE l i e 5,wP l i e p):=by rw [after_err he];unfold wE wP;rw [if_neg he,if_neg he]
  have HA:=Lib.hid hA
  clear hA hc
  obtain ⟨pl,p0,p1,p2,p3,p4,p5,pf⟩:=hp
  go_enter Tryz.func102,Tryz.ntmps102
  go_upto_region 1 with fail
  go_quiet (fail)
  have HPd:=Lib.hid (HPA.out.drewN nq)
  have HKd:=Lib.hid ((Keep.refl g w).drewN nq)
  clear pl p0 p1 p2 p3 p4 p5 pf
  generalize World.drewN _ _=X at HPd HKd ⊢
  obtain ⟨pl,p0,p1,p2,p3,p4,p5,pf⟩:=HPd.out
  go_wp2_with (go_at_call 51;refine (HBD.out 5 _ HKd.out HPd.out).mono ?_;rintro r w2 ⟨rfl,hk2,hp2⟩)
  go_ret
  exact stpo (HA.out) rfl (HKd.out.trans hk2) hp2
theorem prounds_c (l:List Tok) (hl:l.length≤100000) (g:Nat) (v o:Value) (i:Nat) (hi:i≤1000000000) (e p:Int) (w:World) (hp:PS lo w g v i e p o) (hc:Ctx g v l w) :
 Calls Tryz.prog 104 #[.pointer (some ⟨g,0,none⟩)] w (StPo (lo:=lo) isInt g v o (After e p i (roundsR l i) 0) w):=by
 have HPA:=Lib.hid hp
 have HC:=Lib.hid hc
 have HBD:Hid (∀ (e0:Int) u,Keep g w u→PS lo u g v i e p o→Calls Tryz.prog 51 #[.pointer (some ⟨g,0,none⟩),.int .i64 e0] u fun r w'=>r = .returned (.tuple #[])∧Keep g u w'∧PS lo w' g v i (wE l i e e0) (wP l i e p) o):=fun e0 u hk hq=>pwrong_c l hl g _ o i e e0 p u hq (HC.out.keep hk HPA.out.lt)
 have hi0:(0:Int)≤(i:Int):=Int.natCast_nonneg _
 by_cases he:e=0
 ·subst he
  by_cases hil:i < l.length
  ·have hil2:(i:Int) < (l.length:Int):=by omega
   have hge1:decide ((l.length:Int)≤(i:Int))=false:=by simp;omega
   have hge2:decide (l.length≤i)=false:=by simp;omega
   obtain ⟨bt0,offt,ct,hE,hct,hbt,hatt⟩:=hc.at_ (by omega)
   subst hE
   have hki:∀ u,Keep g w u→u.cell? ⟨bt0,offt+i*4,none⟩=some (.int .i64 (tk l i).kind)∧u.cell? ⟨bt0,offt+i*4+2,none⟩=some (.int .i64 (tk l i).n):=fun u hu=>by
    have h:=hatt u (hu.below (Nat.le_of_lt HPA.out.lt)) i hil
    rw [← tk_at hil] at h
    exact ⟨h.kind,h.n⟩
   have HKI:=Lib.hid hki
   have hR:roundsR l i=if (tk l i).kind=2 then (if 1≤(tk l i).n∧(tk l i).n≤8 then .inl ((tk l i).n,i+1) else .inr (badR l i 11)) else .inr (badR l i 5):=by
    unfold roundsR
    by_cases h2:(tk l i).kind=2
    ·rw [if_pos ⟨hil,h2⟩,if_pos h2]
    ·rw [if_neg (fun h=>h2 h.2),if_neg h2]
   have HR:=Lib.hid hR
   clear hR hki hatt hc
   generalize (tk l i).kind=k0 at HKI HR
   generalize (tk l i).n=n0 at HKI HR
   obtain ⟨x0,x2⟩:=HKI.out w (Keep.refl _ _)
   obtain ⟨pl,p0,p1,p2,p3,p4,p5,pf⟩:=hp
   by_cases h2:k0=2
   ·subst h2
    have hR2:=HR.out
    rw [if_pos rfl] at hR2
    have HR2:=Lib.hid hR2
    clear hR2 HR
    go_enter Tryz.func104,Tryz.ntmps104
    go_upto_region 1 with fail
    go_quiet (fail)
    go_upto_region 4 with fail
    have HPd:=Lib.hid (HPA.out.drewN nq)
    have HKd:=Lib.hid ((Keep.refl g w).drewN nq)
    clear pl p0 p1 p2 p3 p4 p5 pf
    generalize World.drewN _ _=X at HPd HKd ⊢
    obtain ⟨pl,p0,p1,p2,p3,p4,p5,pf⟩:=HPd.out
    clear x0 x2
    obtain ⟨x0,x2⟩:=HKI.out X HKd.out
    by_cases ha:1≤n0
    ·have hda:decide (n0 < (1:Int))=false:=by simp;omega
     by_cases hb:n0≤8
     ·have hdb:decide ((8:Int) < n0)=false:=by simp;omega
      have hA:After 0 p i (roundsR l i) 0=(n0,i+1,0,p):=after_ok (by rw [HR2.out,if_pos ⟨ha,hb⟩])
      have HA:=Lib.hid hA
      clear hA HR2 ha hb
      go_quiet (fail)
      have hi1:(i:Int)≤1000000000:=by omega
      replace HPd:=Lib.hid (HPd.out.drewN nq)
      replace HKd:=Lib.hid (HKd.out.drewN nq)
      clear pl p0 p1 p2 p3 p4 p5 pf x0 x2
      generalize World.drewN _ _=X2 at HPd HKd ⊢
      obtain ⟨pl,p0,p1,p2,p3,p4,p5,pf⟩:=HPd.out
      have pf1:=pf 1
      go_upto_region 8 with fail
      have HP6:=Lib.hid (HPd.out.set1 (i+1))
      have HK6:=Lib.hid (HKd.out.set 1 (.int .i64 (i+1)))
      clear pl p0 p1 p2 p3 p4 p5 pf pf1
      generalize World.setCell _ _ _=Y at HP6 HK6 ⊢
      obtain ⟨pl,p0,p1,p2,p3,p4,p5,pf⟩:=HP6.out
      obtain ⟨x0,x2⟩:=HKI.out Y HK6.out
      have hi2:(i:Int)+1 - 1=(i:Int):=by omega
      go_quiet (fail)
      go_wp2_with fail
      go_ret
      exact stpo HA.out rfl (HK6.out.drewN _) (HP6.out.drewN _)
     ·have hdb:decide ((8:Int) < n0)=true:=by simp;omega
      have hA:After 0 p i (roundsR l i) 0=(0,i,wE l i 0 11,wP l i 0 p):=after_bad (by rw [HR2.out,if_neg (fun h=>hb h.2)])
      have HA:=Lib.hid hA
      clear hA HR2 ha hb
      go_quiet (fail)
      replace HPd:=Lib.hid (HPd.out.drewN nq)
      replace HKd:=Lib.hid (HKd.out.drewN nq)
      clear pl p0 p1 p2 p3 p4 p5 pf x0 x2
      generalize World.drewN _ _=X2 at HPd HKd ⊢
      go_wp2_with (go_at_call 51;refine (HBD.out 11 _ HKd.out HPd.out).mono ?_;rintro r w2 ⟨rfl,hk2,hp2⟩)
      go_ret
      exact stpo (HA.out) rfl (HKd.out.trans hk2) hp2
    ·have hda:decide (n0 < (1:Int))=true:=by simp;omega
     have hA:After 0 p i (roundsR l i) 0=(0,i,wE l i 0 11,wP l i 0 p):=after_bad (by rw [HR2.out,if_neg (fun h=>ha h.1)])
     have HA:=Lib.hid hA
     clear hA HR2 ha
     go_quiet (fail)
     replace HPd:=Lib.hid (HPd.out.drewN nq)
     replace HKd:=Lib.hid (HKd.out.drewN nq)
     clear pl p0 p1 p2 p3 p4 p5 pf x0 x2
     generalize World.drewN _ _=X2 at HPd HKd ⊢
     go_wp2_with (go_at_call 51;refine (HBD.out 11 _ HKd.out HPd.out).mono ?_;rintro r w2 ⟨rfl,hk2,hp2⟩)
     go_ret
     exact stpo (HA.out) rfl (HKd.out.trans hk2) hp2
   ·have hkb:(k0 == 2)=false:=by simpa using h2
    have hkb2:(k0 != 2)=true:=by rw [bne,hkb];rfl
    have hA:After 0 p i (roundsR l i) 0=(0,i,wE l i 0 5,wP l i 0 p):=after_bad (by rw [HR.out,if_neg h2])
    have HA:=Lib.hid hA
    clear hA HR h2
    go_enter Tryz.func104,Tryz.ntmps104
    go_upto_region 1 with fail
    go_quiet (fail)
    have HPd:=Lib.hid (HPA.out.drewN nq)
    have HKd:=Lib.hid ((Keep.refl g w).drewN nq)
    clear pl p0 p1 p2 p3 p4 p5 pf
    generalize World.drewN _ _=X at HPd HKd ⊢
    obtain ⟨pl,p0,p1,p2,p3,p4,p5,pf⟩:=HPd.out
    go_wp2_with (go_at_call 51;refine (HBD.out 5 _ HKd.out HPd.out).mono ?_;rintro r w2 ⟨rfl,hk2,hp2⟩)
    go_ret
    exact stpo (HA.out) rfl (HKd.out.trans hk2) hp2
  ·have hil2:¬ (i:Int) < (l.length:Int):=by omega
   have hge1:decide ((l.length:Int)≤(i:Int))=true:=by simp;omega
   have hge2:decide (l.length≤i)=true:=by simp;omega
   have hA:After 0 p i (roundsR l i) 0=(0,i,wE l i 0 5,wP l i 0 p):=after_bad (by unfold roundsR;rw [if_neg (fun h=>hil h.1)])
   have HA:=Lib.hid hA
   obtain ⟨A,c,hve,hcc⟩:=(hc.now hp.lt).shape
   subst hve
   clear hA hc
   obtain ⟨pl,p0,p1,p2,p3,p4,p5,pf⟩:=hp
   go_enter Tryz.func104,Tryz.ntmps104
   go_upto_region 1 with fail
   go_quiet (fail)
   have HPd:=Lib.hid (HPA.out.drewN nq)
   have HKd:=Lib.hid ((Keep.refl g w).drewN nq)
   clear pl p0 p1 p2 p3 p4 p5 pf
   generalize World.drewN _ _=X at HPd HKd ⊢
   obtain ⟨pl,p0,p1,p2,p3,p4,p5,pf⟩:=HPd.out
   go_wp2_with (go_at_call 51;refine (HBD.out 5 _ HKd.out HPd.out).mono ?_;rintro r w2 ⟨rfl,hk2,hp2⟩)
   go_ret
   exact stpo (HA.out) rfl (HKd.out.trans hk2) hp2
 ·have heq:(e == 0)=false:=by simpa using he
  have heq2:(e != 0)=true:=by rw [bne,heq];rfl
  have hA:After e p i (roundsR l i) 0=(0,i,wE l i e 5,wP l i e p):=by rw [after_err he];unfold wE wP;rw [if_neg he,if_neg he]
  have HA:=Lib.hid hA
  clear hA hc
  obtain ⟨pl,p0,p1,p2,p3,p4,p5,pf⟩:=hp
  go_enter Tryz.func104,Tryz.ntmps104
  go_upto_region 1 with fail
  go_quiet (fail)
  have HPd:=Lib.hid (HPA.out.drewN nq)
  have HKd:=Lib.hid ((Keep.refl g w).drewN nq)
  clear pl p0 p1 p2 p3 p4 p5 pf
  generalize World.drewN _ _=X at HPd HKd ⊢
  obtain ⟨pl,p0,p1,p2,p3,p4,p5,pf⟩:=HPd.out
  go_wp2_with (go_at_call 51;refine (HBD.out 5 _ HKd.out HPd.out).mono ?_;rintro r w2 ⟨rfl,hk2,hp2⟩)
  go_ret
  exact stpo (HA.out) rfl (HKd.out.trans hk2) hp2
def isNodO (B:Nat) (w:World) (x:Value) (l:List Nod):Prop:=NodO w x l∧Fresh B x
theorem pexpr_c (l:List Tok) (hl:l.length≤100000) (htx:∀ t∈l,t.text.length≤1000000) (g:Nat) (v o:Value) (i:Nat) (hi:i≤1000000000) (e p:Int) (w:World) (hp:PS lo w g v i e p o) (hc:Ctx g v l w) :
 Calls Tryz.prog 103 #[.pointer (some ⟨g,0,none⟩)] w (StPo (lo:=lo) (isNodO w.heap.size) g v o (After e p i (exprR l i) []) w):=by
 have HPA:=Lib.hid hp
 have HC:=Lib.hid hc
 have hi0:(0:Int)≤(i:Int):=Int.natCast_nonneg _
 have hct:=hc.now hp.lt
 obtain ⟨A,c,hve,hcc⟩:=hct.shape
 subst hve
 by_cases he:e=0
 ·subst he
  have HPR:Hid (∀ u,Keep g w u→Calls Tryz.prog 117 #[.slice A l.length c,.int .i64 i] u (ParsePostO l i u)):=fun u hu=>ParseO_c l hl htx _ i u ((HC.out.keep hu HPA.out.lt).now (Nat.lt_of_lt_of_le HPA.out.lt hu.size)) (HC.out.keep hu HPA.out.lt).env
  obtain ⟨pl,p0,p1,p2,p3,p4,p5,pf⟩:=hp
  clear hc hct
  have HS:Hid (∀ u,Below w.heap.size w u→u.cell? ⟨g,0,none⟩=some (.slice A l.length c)∧u.cell? ⟨g,1,none⟩=some (.int .i64 i)):=fun u hu=>⟨(HPA.out.below hu).c0,(HPA.out.below hu).c1⟩
  cases hr:exprR l i with
  | inr ep =>
    obtain ⟨e',p'⟩:=ep
    obtain ⟨he0,pa,pb,hpe⟩:=exprR_err hr
    have HA:Hid (After 0 p i (.inr (e',p'):RS (List Nod)) [] = ([],i,e',p')):=rfl
    have heb:(e' == 0)=false:=by simpa using he0
    unfold ParsePostO at HPR
    rw [hpe] at HPR
    simp only at HPR
    clear hr hpe
    go_enter Tryz.func103,Tryz.ntmps103
    go_upto_region 3 with fail
    go_region_held3 (fun u=>u.cell? ⟨g,0,none⟩=some (.slice A l.length c)∧u.cell? ⟨g,1,none⟩=some (.int .i64 i))
     (exact HS.out _ (blq))
     (first
       | (go_at_call 117;(with_reducible refine (HPR.out _ (Keep.of (blq))).mono ?_);rintro r w5 ⟨V,rfl,hv5,hb5,hf5,hu5⟩;have h5:Below w.heap.size w w5:=bt (blq) hb5;have F5:Fresh w.heap.size V:=hf5.mono (by first | exact Nat.le_refl _ | (have:=(show Below w.heap.size w _ from (blq)).size;exact this));obtain ⟨A5,c5,rfl,_⟩:=Nods.shape hv5))
    all_goals
     have HP5:=HPA.out.below h5
     clear pl p0 p1 p2 p3 p4 p5
     obtain ⟨pl,p0,p1,p2,p3,p4,p5,pf'⟩:=HP5
     have pf3:=pf' 3
     have pf4:=pf' 4
     go_wp2_with fail
     go_ret
     exact stpo HA.out ⟨⟨Sl.nil _ _ _,Unf.nil _ _ _⟩,fresh_nil _ _ _⟩ (((Keep.of h5).set 3 _).set 4 _) (((HPA.out.below h5).set3 _).set4 _)
  | inl xj =>
    obtain ⟨x,j⟩:=xj
    have hpe:=exprR_ok hr
    have HA:Hid (After 0 p i (.inl (x,j):RS (List Nod)) [] = (x,j,0,p)):=rfl
    unfold ParsePostO at HPR
    rw [hpe] at HPR
    simp only at HPR
    clear hr hpe
    go_enter Tryz.func103,Tryz.ntmps103
    go_upto_region 3 with fail
    go_region_held3 (fun u=>u.cell? ⟨g,0,none⟩=some (.slice A l.length c)∧u.cell? ⟨g,1,none⟩=some (.int .i64 i))
     (exact HS.out _ (blq))
     (first
       | (go_at_call 117;(with_reducible refine (HPR.out _ (Keep.of (blq))).mono ?_);rintro r w5 ⟨V,rfl,hv5,hb5,hf5,hu5⟩;have h5:Below w.heap.size w w5:=bt (blq) hb5;have F5:Fresh w.heap.size V:=hf5.mono (by first | exact Nat.le_refl _ | (have:=(show Below w.heap.size w _ from (blq)).size;exact this));obtain ⟨A5,c5,rfl,_⟩:=Nods.shape hv5))
    all_goals
     have HP5:=HPA.out.below h5
     have HV5:=Lib.hid (⟨hv5,hu5⟩:NodO w5 _ _)
     clear pl p0 p1 p2 p3 p4 p5
     obtain ⟨pl,p0,p1,p2,p3,p4,p5,pf'⟩:=HP5
     have pf1:=pf' 1
     go_wp2_with fail
     go_ret
     exact stpo HA.out ⟨HV5.out.keep F5 HPA.out.lt ((Keep.refl _ _).set 1 _),F5⟩ ((Keep.of h5).set 1 _) ((HPA.out.below h5).set1 _)
 ·have heq:(e == 0)=false:=by simpa using he
  have HA:=Lib.hid (after_err (p:=p) (i:=i) (r:=exprR l i) (d:=[]) he)
  obtain ⟨pl,p0,p1,p2,p3,p4,p5,pf⟩:=hp
  clear hc hct
  go_enter Tryz.func103,Tryz.ntmps103
  go_wp2_with fail
  go_ret
  exact stpo HA.out ⟨⟨Sl.nil _ _ _,Unf.nil _ _ _⟩,fresh_nil _ _ _⟩ (Keep.refl _ _) HPA.out
structure Keep2 (g q:Nat) (w w':World):Prop where
 os:w'.os=w.os
 tape:w'.tape=w.tape
 output:w'.output=w.output
 size:w.heap.size≤w'.heap.size
 block:∀ i,i < w.heap.size→i≠g→i≠q→w'.heap[i]? = w.heap[i]?
theorem Keep2.refl (g q:Nat) (w:World):Keep2 g q w w:=⟨rfl,rfl,rfl,Nat.le_refl _,fun _ _ _ _=>rfl⟩
theorem Keep2.keep {g q:Nat} {a b c:World} (h:Keep2 g q a b) (k:Keep g b c):Keep2 g q a c :=
 ⟨k.os.trans h.os,k.tape.trans h.tape,k.output.trans h.output,Nat.le_trans h.size k.size,fun i hi hg hq=>(k.block i (Nat.lt_of_lt_of_le hi h.size) hg).trans (h.block i hi hg hq)⟩
theorem Keep2.set {g q:Nat} {a b:World} (h:Keep2 g q a b) (o:Nat) (u:Value):Keep2 g q a (b.setCell ⟨q,o,none⟩ u) :=
 ⟨h.os,h.tape,h.output,by rw [World.size_setCell];exact h.size,fun k hk hg hq=>(Below.heap_setCell _ _ _ _ (fun e=>hq (by simpa using e))).trans (h.block k hk hg hq)⟩
structure WX (lo:Int) (l:List Tok) (g:Nat) (v o:Value) (w0:World) (q:Nat) (w:World) (σ:Sg) (ev fv:Value):Prop where
 pq:PS lo w g v (σ.i:Nat) σ.e σ.p o
 sb:SB w q σ.x ev fv
 ne:NodO w ev σ.x.e
 nf:NodO w fv σ.x.f
 fe:Fresh (q+1) ev
 ff:Fresh (q+1) fv
 ctx:Ctx g v l w
 kp:Keep2 g q w0 w
 hq:q < w0.heap.size
 gq:g < q
 im:σ.i≤1000000
theorem WX.keep {l:List Tok} {g q:Nat} {v o:Value} {w0 w w1:World} {σ:Sg} {ev fv:Value} (h:WX lo l g v o w0 q w σ ev fv) (hk:Keep g w w1) {i:Nat} {e p:Int} (hp:PS lo w1 g v i e p o) (him:i≤1000000):WX lo l g v o w0 q w1 ⟨σ.x,i,e,p⟩ ev fv :=
 ⟨hp,h.sb.keep hk (by have:=h.gq;omega),h.ne.keep h.fe (by have:=h.gq;omega) hk,h.nf.keep h.ff (by have:=h.gq;omega) hk,h.fe,h.ff,h.ctx.keep hk h.pq.lt,h.kp.keep hk,h.hq,h.gq,him⟩
theorem WX.reg {l:List Tok} {g q:Nat} {v o:Value} {w0 w:World} {x:St} {i:Nat} {e p:Int} {ev fv:Value} (h:WX lo l g v o w0 q w ⟨x,i,e,p⟩ ev fv) (s:List UInt8):WX lo l g v o w0 q (w.setCell ⟨q,1,none⟩ (.string (str s))) ⟨{ x with reg:=s },i,e,p⟩ ev fv :=
 ⟨h.pq.other (by have:=h.gq;omega),h.sb.setReg _,h.ne.keep h.fe (by omega) ((Keep.refl q w).set _ _),h.nf.keep h.ff (by omega) ((Keep.refl q w).set _ _),h.fe,h.ff,h.ctx.belowB (below_set (Below.refl g w) (Nat.le_of_lt h.gq) _),h.kp.set _ _,h.hq,h.gq,h.im⟩
theorem WX.name {l:List Tok} {g q:Nat} {v o:Value} {w0 w:World} {x:St} {i:Nat} {e p:Int} {ev fv:Value} (h:WX lo l g v o w0 q w ⟨x,i,e,p⟩ ev fv) (s:List UInt8):WX lo l g v o w0 q (w.setCell ⟨q,2,none⟩ (.string (str s))) ⟨{ x with name:=s },i,e,p⟩ ev fv :=
 ⟨h.pq.other (by have:=h.gq;omega),h.sb.setName _,h.ne.keep h.fe (by omega) ((Keep.refl q w).set _ _),h.nf.keep h.ff (by omega) ((Keep.refl q w).set _ _),h.fe,h.ff,h.ctx.belowB (below_set (Below.refl g w) (Nat.le_of_lt h.gq) _),h.kp.set _ _,h.hq,h.gq,h.im⟩
theorem WX.num {l:List Tok} {g q:Nat} {v o:Value} {w0 w:World} {x:St} {i:Nat} {e p:Int} {ev fv:Value} (h:WX lo l g v o w0 q w ⟨x,i,e,p⟩ ev fv) (n:Int):WX lo l g v o w0 q (w.setCell ⟨q,5,none⟩ (.int .i64 n)) ⟨{ x with n:=n },i,e,p⟩ ev fv :=
 ⟨h.pq.other (by have:=h.gq;omega),h.sb.setN _,h.ne.keep h.fe (by omega) ((Keep.refl q w).set _ _),h.nf.keep h.ff (by omega) ((Keep.refl q w).set _ _),h.fe,h.ff,h.ctx.belowB (below_set (Below.refl g w) (Nat.le_of_lt h.gq) _),h.kp.set _ _,h.hq,h.gq,h.im⟩
theorem WX.nodes {l:List Tok} {g q:Nat} {v o:Value} {w0 w:World} {x:St} {i:Nat} {e p:Int} {ev fv:Value} (h:WX lo l g v o w0 q w ⟨x,i,e,p⟩ ev fv) (y:List Nod) (u:Value) (hn:NodO w u y) (hf:Fresh (q+1) u):WX lo l g v o w0 q (w.setCell ⟨q,3,none⟩ u) ⟨{ x with e:=y },i,e,p⟩ u fv :=
 ⟨h.pq.other (by have:=h.gq;omega),h.sb.setE y u,hn.keep hf (by omega) ((Keep.refl q w).set _ _),h.nf.keep h.ff (by omega) ((Keep.refl q w).set _ _),hf,h.ff,h.ctx.belowB (below_set (Below.refl g w) (Nat.le_of_lt h.gq) _),h.kp.set _ _,h.hq,h.gq,h.im⟩
theorem WX.more {l:List Tok} {g q:Nat} {v o:Value} {w0 w:World} {x:St} {i:Nat} {e p:Int} {ev fv:Value} (h:WX lo l g v o w0 q w ⟨x,i,e,p⟩ ev fv) (y:List Nod) (u:Value) (hn:NodO w u y) (hf:Fresh (q+1) u):WX lo l g v o w0 q (w.setCell ⟨q,4,none⟩ u) ⟨{ x with f:=y },i,e,p⟩ ev u :=
 ⟨h.pq.other (by have:=h.gq;omega),h.sb.setF y u,h.ne.keep h.fe (by omega) ((Keep.refl q w).set _ _),hn.keep hf (by omega) ((Keep.refl q w).set _ _),h.fe,hf,h.ctx.belowB (below_set (Below.refl g w) (Nat.le_of_lt h.gq) _),h.kp.set _ _,h.hq,h.gq,h.im⟩
theorem sign_step (l:List Tok) (x:St) (i:Nat) (e p:Int) (s:List UInt8):stepS l ⟨x,i,e,p⟩ (.sign s)=⟨x,mI l s i e,mE l s i e,mP l s i e p⟩:=by
 have h:=must_after (l:=l) (s:=s) (i:=i) (e:=e) (p:=p)
 show (⟨x,_,_,_⟩:Sg)=_
 rw [← h]
def PartPost (lo:Int) (l:List Tok) (g:Nat) (v o:Value) (w0:World) (q:Nat) (σ:Sg) (r:Ending) (w':World):Prop:=r = .returned (.tuple #[])∧∃ ev fv,WX lo l g v o w0 q w' σ ev fv
theorem part_reg0 (l:List Tok) (hl:l.length≤100000) (htx:∀ t∈l,t.text.length≤1000000) (g q:Nat) (v o:Value) (w0 w:World) (x:St) (i:Nat) (e p:Int) (ev fv:Value) (h:WX lo l g v o w0 q w ⟨x,i,e,p⟩ ev fv) :
 Calls Tryz.prog 77 #[.pointer (some ⟨g,0,none⟩),.pointer (some ⟨q,0,none⟩),.int .u8 114,.int .i64 0] w (PartPost lo l g v o w0 q (stepS l (runS l ⟨x,i,e,p⟩ (aheadS 0)) .reg)):=by
 rw [show runS l ⟨x,i,e,p⟩ (aheadS 0)=⟨x,i,e,p⟩ from rfl]
 have HWX:=Lib.hid h
 obtain ⟨A,c,hve,hcc⟩:=(h.ctx.now h.pq.lt).shape
 subst hve
 clear h
 go_enter Tryz.func77,Tryz.ntmps77
 go_upto_region 5 with fail
 have HW1:=Lib.hid HWX.out
 clear HWX
 go_upto_region 7 with fail
 go_wp2_with (go_at_call 102;refine (pname_c l hl htx g _ _ i (Nat.le_trans HW1.out.im (by decide)) e p _ HW1.out.pq HW1.out.ctx).mono ?_;rintro r w2 ⟨x1,rfl,hx1,hk2,hp2⟩;subst hx1;have HW2:=Lib.hid (HW1.out.keep hk2 hp2 (after_i HW1.out.im (fun y j hr=>by have:=nameR_good hr;omega)));obtain ⟨sl,s0,s1,s2,s3,s4,s5,s6,s7,s8,sfr⟩:=HW2.out.sb;have sfc:=sfr 1)
 refine bodyPost_end (results_none rfl _ _ _) rfl ?_
 exact ⟨rfl,_,_,HW2.out.reg (After e p i (nameR l i) []).1⟩
theorem part_reg1 (l:List Tok) (hl:l.length≤100000) (htx:∀ t∈l,t.text.length≤1000000) (g q:Nat) (v o:Value) (w0 w:World) (x:St) (i:Nat) (e p:Int) (ev fv:Value) (h:WX lo l g v o w0 q w ⟨x,i,e,p⟩ ev fv) :
 Calls Tryz.prog 77 #[.pointer (some ⟨g,0,none⟩),.pointer (some ⟨q,0,none⟩),.int .u8 114,.int .i64 1] w (PartPost lo l g v o w0 q (stepS l (runS l ⟨x,i,e,p⟩ (aheadS 1)) .reg)):=by
 have hstp:runS l ⟨x,i,e,p⟩ (aheadS 1)=⟨x,mI l [61] i e,mE l [61] i e,mP l [61] i e p⟩:=by
  unfold aheadS
  rw [if_neg (by decide),if_pos rfl]
  exact sign_step l x i e p [61]
 rw [hstp]
 clear hstp
 obtain ⟨i1,HI1⟩:∃ i1,Hid (mI l [61] i e=i1):=⟨_,rfl⟩
 obtain ⟨e1,HE1⟩:∃ e1,Hid (mE l [61] i e=e1):=⟨_,rfl⟩
 obtain ⟨p1,HP1⟩:∃ p1,Hid (mP l [61] i e p=p1):=⟨_,rfl⟩
 rw [HI1.out,HE1.out,HP1.out]
 have HWX:=Lib.hid h
 obtain ⟨A,c,hve,hcc⟩:=(h.ctx.now h.pq.lt).shape
 subst hve
 clear h
 go_enter Tryz.func77,Tryz.ntmps77
 go_upto_region 5 with (go_at_call 52;refine (psign_c l hl [61] g _ _ i (Nat.le_trans HWX.out.im (by decide)) e p _ HWX.out.pq HWX.out.ctx).mono ?_;rintro r w1 ⟨rfl,hk1,hp1⟩)
 have hw1:=HWX.out.keep hk1 hp1 (mI_lt hl _ HWX.out.im _)
 rw [HI1.out,HE1.out,HP1.out] at hw1
 have HW1:=Lib.hid hw1
 clear hk1 hp1 hw1
 clear HWX HI1 HE1 HP1
 go_upto_region 7 with fail
 go_wp2_with (go_at_call 102;refine (pname_c l hl htx g _ _ i1 (Nat.le_trans HW1.out.im (by decide)) e1 p1 _ HW1.out.pq HW1.out.ctx).mono ?_;rintro r w2 ⟨x1,rfl,hx1,hk2,hp2⟩;subst hx1;have HW2:=Lib.hid (HW1.out.keep hk2 hp2 (after_i HW1.out.im (fun y j hr=>by have:=nameR_good hr;omega)));obtain ⟨sl,s0,s1,s2,s3,s4,s5,s6,s7,s8,sfr⟩:=HW2.out.sb;have sfc:=sfr 1)
 refine bodyPost_end (results_none rfl _ _ _) rfl ?_
 exact ⟨rfl,_,_,HW2.out.reg (After e1 p1 i1 (nameR l i1) []).1⟩
theorem part_regn (l:List Tok) (hl:l.length≤100000) (htx:∀ t∈l,t.text.length≤1000000) (g q:Nat) (v o:Value) (w0 w:World) (x:St) (i:Nat) (e p:Int) (ev fv:Value) (n:Nat) (hn:2≤n) (h:WX lo l g v o w0 q w ⟨x,i,e,p⟩ ev fv) :
 Calls Tryz.prog 77 #[.pointer (some ⟨g,0,none⟩),.pointer (some ⟨q,0,none⟩),.int .u8 114,.int .i64 (n:Int)] w (PartPost lo l g v o w0 q (stepS l (runS l ⟨x,i,e,p⟩ (aheadS n)) .reg)):=by
 have hstp:runS l ⟨x,i,e,p⟩ (aheadS n)=⟨x,mI l [44] i e,mE l [44] i e,mP l [44] i e p⟩:=by
  unfold aheadS
  rw [if_neg (by omega),if_neg (by omega)]
  exact sign_step l x i e p [44]
 rw [hstp]
 clear hstp
 obtain ⟨i1,HI1⟩:∃ i1,Hid (mI l [44] i e=i1):=⟨_,rfl⟩
 obtain ⟨e1,HE1⟩:∃ e1,Hid (mE l [44] i e=e1):=⟨_,rfl⟩
 obtain ⟨p1,HP1⟩:∃ p1,Hid (mP l [44] i e p=p1):=⟨_,rfl⟩
 rw [HI1.out,HE1.out,HP1.out]
 have hn1:(2:Int)≤(n:Int):=by omega
 have hnb:((n:Int) == 1)=false:=by rw [beq_eq_false_iff_ne];omega
 clear hn
 have HWX:=Lib.hid h
 obtain ⟨A,c,hve,hcc⟩:=(h.ctx.now h.pq.lt).shape
 subst hve
 clear h
 go_enter Tryz.func77,Tryz.ntmps77
 go_upto_region 5 with (go_at_call 52;refine (psign_c l hl [44] g _ _ i (Nat.le_trans HWX.out.im (by decide)) e p _ HWX.out.pq HWX.out.ctx).mono ?_;rintro r w1 ⟨rfl,hk1,hp1⟩)
 have hw1:=HWX.out.keep hk1 hp1 (mI_lt hl _ HWX.out.im _)
 rw [HI1.out,HE1.out,HP1.out] at hw1
 have HW1:=Lib.hid hw1
 clear hk1 hp1 hw1
 clear HWX HI1 HE1 HP1
 go_upto_region 7 with fail
 go_wp2_with (go_at_call 102;refine (pname_c l hl htx g _ _ i1 (Nat.le_trans HW1.out.im (by decide)) e1 p1 _ HW1.out.pq HW1.out.ctx).mono ?_;rintro r w2 ⟨x1,rfl,hx1,hk2,hp2⟩;subst hx1;have HW2:=Lib.hid (HW1.out.keep hk2 hp2 (after_i HW1.out.im (fun y j hr=>by have:=nameR_good hr;omega)));obtain ⟨sl,s0,s1,s2,s3,s4,s5,s6,s7,s8,sfr⟩:=HW2.out.sb;have sfc:=sfr 1)
 refine bodyPost_end (results_none rfl _ _ _) rfl ?_
 exact ⟨rfl,_,_,HW2.out.reg (After e1 p1 i1 (nameR l i1) []).1⟩
theorem part_name0 (l:List Tok) (hl:l.length≤100000) (htx:∀ t∈l,t.text.length≤1000000) (g q:Nat) (v o:Value) (w0 w:World) (x:St) (i:Nat) (e p:Int) (ev fv:Value) (h:WX lo l g v o w0 q w ⟨x,i,e,p⟩ ev fv) :
 Calls Tryz.prog 77 #[.pointer (some ⟨g,0,none⟩),.pointer (some ⟨q,0,none⟩),.int .u8 110,.int .i64 0] w (PartPost lo l g v o w0 q (stepS l (runS l ⟨x,i,e,p⟩ (aheadS 0)) .name)):=by
 rw [show runS l ⟨x,i,e,p⟩ (aheadS 0)=⟨x,i,e,p⟩ from rfl]
 have HWX:=Lib.hid h
 obtain ⟨A,c,hve,hcc⟩:=(h.ctx.now h.pq.lt).shape
 subst hve
 clear h
 go_enter Tryz.func77,Tryz.ntmps77
 go_upto_region 5 with fail
 have HW1:=Lib.hid HWX.out
 clear HWX
 go_upto_region 9 with fail
 go_wp2_with (go_at_call 102;refine (pname_c l hl htx g _ _ i (Nat.le_trans HW1.out.im (by decide)) e p _ HW1.out.pq HW1.out.ctx).mono ?_;rintro r w2 ⟨x1,rfl,hx1,hk2,hp2⟩;subst hx1;have HW2:=Lib.hid (HW1.out.keep hk2 hp2 (after_i HW1.out.im (fun y j hr=>by have:=nameR_good hr;omega)));obtain ⟨sl,s0,s1,s2,s3,s4,s5,s6,s7,s8,sfr⟩:=HW2.out.sb;have sfc:=sfr 2)
 refine bodyPost_end (results_none rfl _ _ _) rfl ?_
 exact ⟨rfl,_,_,HW2.out.name (After e p i (nameR l i) []).1⟩
theorem part_name1 (l:List Tok) (hl:l.length≤100000) (htx:∀ t∈l,t.text.length≤1000000) (g q:Nat) (v o:Value) (w0 w:World) (x:St) (i:Nat) (e p:Int) (ev fv:Value) (h:WX lo l g v o w0 q w ⟨x,i,e,p⟩ ev fv) :
 Calls Tryz.prog 77 #[.pointer (some ⟨g,0,none⟩),.pointer (some ⟨q,0,none⟩),.int .u8 110,.int .i64 1] w (PartPost lo l g v o w0 q (stepS l (runS l ⟨x,i,e,p⟩ (aheadS 1)) .name)):=by
 have hstp:runS l ⟨x,i,e,p⟩ (aheadS 1)=⟨x,mI l [61] i e,mE l [61] i e,mP l [61] i e p⟩:=by
  unfold aheadS
  rw [if_neg (by decide),if_pos rfl]
  exact sign_step l x i e p [61]
 rw [hstp]
 clear hstp
 obtain ⟨i1,HI1⟩:∃ i1,Hid (mI l [61] i e=i1):=⟨_,rfl⟩
 obtain ⟨e1,HE1⟩:∃ e1,Hid (mE l [61] i e=e1):=⟨_,rfl⟩
 obtain ⟨p1,HP1⟩:∃ p1,Hid (mP l [61] i e p=p1):=⟨_,rfl⟩
 rw [HI1.out,HE1.out,HP1.out]
 have HWX:=Lib.hid h
 obtain ⟨A,c,hve,hcc⟩:=(h.ctx.now h.pq.lt).shape
 subst hve
 clear h
 go_enter Tryz.func77,Tryz.ntmps77
 go_upto_region 5 with (go_at_call 52;refine (psign_c l hl [61] g _ _ i (Nat.le_trans HWX.out.im (by decide)) e p _ HWX.out.pq HWX.out.ctx).mono ?_;rintro r w1 ⟨rfl,hk1,hp1⟩)
 have hw1:=HWX.out.keep hk1 hp1 (mI_lt hl _ HWX.out.im _)
 rw [HI1.out,HE1.out,HP1.out] at hw1
 have HW1:=Lib.hid hw1
 clear hk1 hp1 hw1
 clear HWX HI1 HE1 HP1
 go_upto_region 9 with fail
 go_wp2_with (go_at_call 102;refine (pname_c l hl htx g _ _ i1 (Nat.le_trans HW1.out.im (by decide)) e1 p1 _ HW1.out.pq HW1.out.ctx).mono ?_;rintro r w2 ⟨x1,rfl,hx1,hk2,hp2⟩;subst hx1;have HW2:=Lib.hid (HW1.out.keep hk2 hp2 (after_i HW1.out.im (fun y j hr=>by have:=nameR_good hr;omega)));obtain ⟨sl,s0,s1,s2,s3,s4,s5,s6,s7,s8,sfr⟩:=HW2.out.sb;have sfc:=sfr 2)
 refine bodyPost_end (results_none rfl _ _ _) rfl ?_
 exact ⟨rfl,_,_,HW2.out.name (After e1 p1 i1 (nameR l i1) []).1⟩
theorem part_namen (l:List Tok) (hl:l.length≤100000) (htx:∀ t∈l,t.text.length≤1000000) (g q:Nat) (v o:Value) (w0 w:World) (x:St) (i:Nat) (e p:Int) (ev fv:Value) (n:Nat) (hn:2≤n) (h:WX lo l g v o w0 q w ⟨x,i,e,p⟩ ev fv) :
 Calls Tryz.prog 77 #[.pointer (some ⟨g,0,none⟩),.pointer (some ⟨q,0,none⟩),.int .u8 110,.int .i64 (n:Int)] w (PartPost lo l g v o w0 q (stepS l (runS l ⟨x,i,e,p⟩ (aheadS n)) .name)):=by
 have hstp:runS l ⟨x,i,e,p⟩ (aheadS n)=⟨x,mI l [44] i e,mE l [44] i e,mP l [44] i e p⟩:=by
  unfold aheadS
  rw [if_neg (by omega),if_neg (by omega)]
  exact sign_step l x i e p [44]
 rw [hstp]
 clear hstp
 obtain ⟨i1,HI1⟩:∃ i1,Hid (mI l [44] i e=i1):=⟨_,rfl⟩
 obtain ⟨e1,HE1⟩:∃ e1,Hid (mE l [44] i e=e1):=⟨_,rfl⟩
 obtain ⟨p1,HP1⟩:∃ p1,Hid (mP l [44] i e p=p1):=⟨_,rfl⟩
 rw [HI1.out,HE1.out,HP1.out]
 have hn1:(2:Int)≤(n:Int):=by omega
 have hnb:((n:Int) == 1)=false:=by rw [beq_eq_false_iff_ne];omega
 clear hn
 have HWX:=Lib.hid h
 obtain ⟨A,c,hve,hcc⟩:=(h.ctx.now h.pq.lt).shape
 subst hve
 clear h
 go_enter Tryz.func77,Tryz.ntmps77
 go_upto_region 5 with (go_at_call 52;refine (psign_c l hl [44] g _ _ i (Nat.le_trans HWX.out.im (by decide)) e p _ HWX.out.pq HWX.out.ctx).mono ?_;rintro r w1 ⟨rfl,hk1,hp1⟩)
 have hw1:=HWX.out.keep hk1 hp1 (mI_lt hl _ HWX.out.im _)
 rw [HI1.out,HE1.out,HP1.out] at hw1
 have HW1:=Lib.hid hw1
 clear hk1 hp1 hw1
 clear HWX HI1 HE1 HP1
 go_upto_region 9 with fail
 go_wp2_with (go_at_call 102;refine (pname_c l hl htx g _ _ i1 (Nat.le_trans HW1.out.im (by decide)) e1 p1 _ HW1.out.pq HW1.out.ctx).mono ?_;rintro r w2 ⟨x1,rfl,hx1,hk2,hp2⟩;subst hx1;have HW2:=Lib.hid (HW1.out.keep hk2 hp2 (after_i HW1.out.im (fun y j hr=>by have:=nameR_good hr;omega)));obtain ⟨sl,s0,s1,s2,s3,s4,s5,s6,s7,s8,sfr⟩:=HW2.out.sb;have sfc:=sfr 2)
 refine bodyPost_end (results_none rfl _ _ _) rfl ?_
 exact ⟨rfl,_,_,HW2.out.name (After e1 p1 i1 (nameR l i1) []).1⟩
theorem part_nodes0 (l:List Tok) (hl:l.length≤100000) (htx:∀ t∈l,t.text.length≤1000000) (g q:Nat) (v o:Value) (w0 w:World) (x:St) (i:Nat) (e p:Int) (ev fv:Value) (h:WX lo l g v o w0 q w ⟨x,i,e,p⟩ ev fv) :
 Calls Tryz.prog 77 #[.pointer (some ⟨g,0,none⟩),.pointer (some ⟨q,0,none⟩),.int .u8 101,.int .i64 0] w (PartPost lo l g v o w0 q (stepS l (runS l ⟨x,i,e,p⟩ (aheadS 0)) .nodes)):=by
 rw [show runS l ⟨x,i,e,p⟩ (aheadS 0)=⟨x,i,e,p⟩ from rfl]
 have HWX:=Lib.hid h
 obtain ⟨A,c,hve,hcc⟩:=(h.ctx.now h.pq.lt).shape
 subst hve
 clear h
 go_enter Tryz.func77,Tryz.ntmps77
 go_upto_region 5 with fail
 have HW1:=Lib.hid HWX.out
 clear HWX
 go_upto_region 11 with fail
 go_wp2_with (go_at_call 103;refine (pexpr_c l hl htx g _ _ i (Nat.le_trans HW1.out.im (by decide)) e p _ HW1.out.pq HW1.out.ctx).mono ?_;rintro r w2 ⟨x1,rfl,hx1,hk2,hp2⟩;obtain ⟨A1,c1,rfl,_⟩:=NodO.shape hx1.1;have HX1:=Lib.hid hx1;have HW2:=Lib.hid (HW1.out.keep hk2 hp2 (after_i HW1.out.im (fun y j hr=>by have:=exprR_good hr;omega)));obtain ⟨sl,s0,s1,s2,s3,s4,s5,s6,s7,s8,sfr⟩:=HW2.out.sb;have sfc:=sfr 3)
 refine bodyPost_end (results_none rfl _ _ _) rfl ?_
 exact ⟨rfl,_,_,HW2.out.nodes (After e p i (exprR l i) []).1 _ HX1.out.1 (HX1.out.2.mono (Nat.le_trans (Nat.succ_le_of_lt HW1.out.sb.lt) (Nat.le_refl _)))⟩
theorem part_nodes1 (l:List Tok) (hl:l.length≤100000) (htx:∀ t∈l,t.text.length≤1000000) (g q:Nat) (v o:Value) (w0 w:World) (x:St) (i:Nat) (e p:Int) (ev fv:Value) (h:WX lo l g v o w0 q w ⟨x,i,e,p⟩ ev fv) :
 Calls Tryz.prog 77 #[.pointer (some ⟨g,0,none⟩),.pointer (some ⟨q,0,none⟩),.int .u8 101,.int .i64 1] w (PartPost lo l g v o w0 q (stepS l (runS l ⟨x,i,e,p⟩ (aheadS 1)) .nodes)):=by
 have hstp:runS l ⟨x,i,e,p⟩ (aheadS 1)=⟨x,mI l [61] i e,mE l [61] i e,mP l [61] i e p⟩:=by
  unfold aheadS
  rw [if_neg (by decide),if_pos rfl]
  exact sign_step l x i e p [61]
 rw [hstp]
 clear hstp
 obtain ⟨i1,HI1⟩:∃ i1,Hid (mI l [61] i e=i1):=⟨_,rfl⟩
 obtain ⟨e1,HE1⟩:∃ e1,Hid (mE l [61] i e=e1):=⟨_,rfl⟩
 obtain ⟨p1,HP1⟩:∃ p1,Hid (mP l [61] i e p=p1):=⟨_,rfl⟩
 rw [HI1.out,HE1.out,HP1.out]
 have HWX:=Lib.hid h
 obtain ⟨A,c,hve,hcc⟩:=(h.ctx.now h.pq.lt).shape
 subst hve
 clear h
 go_enter Tryz.func77,Tryz.ntmps77
 go_upto_region 5 with (go_at_call 52;refine (psign_c l hl [61] g _ _ i (Nat.le_trans HWX.out.im (by decide)) e p _ HWX.out.pq HWX.out.ctx).mono ?_;rintro r w1 ⟨rfl,hk1,hp1⟩)
 have hw1:=HWX.out.keep hk1 hp1 (mI_lt hl _ HWX.out.im _)
 rw [HI1.out,HE1.out,HP1.out] at hw1
 have HW1:=Lib.hid hw1
 clear hk1 hp1 hw1
 clear HWX HI1 HE1 HP1
 go_upto_region 11 with fail
 go_wp2_with (go_at_call 103;refine (pexpr_c l hl htx g _ _ i1 (Nat.le_trans HW1.out.im (by decide)) e1 p1 _ HW1.out.pq HW1.out.ctx).mono ?_;rintro r w2 ⟨x1,rfl,hx1,hk2,hp2⟩;obtain ⟨A1,c1,rfl,_⟩:=NodO.shape hx1.1;have HX1:=Lib.hid hx1;have HW2:=Lib.hid (HW1.out.keep hk2 hp2 (after_i HW1.out.im (fun y j hr=>by have:=exprR_good hr;omega)));obtain ⟨sl,s0,s1,s2,s3,s4,s5,s6,s7,s8,sfr⟩:=HW2.out.sb;have sfc:=sfr 3)
 refine bodyPost_end (results_none rfl _ _ _) rfl ?_
 exact ⟨rfl,_,_,HW2.out.nodes (After e1 p1 i1 (exprR l i1) []).1 _ HX1.out.1 (HX1.out.2.mono (Nat.le_trans (Nat.succ_le_of_lt HW1.out.sb.lt) (Nat.le_refl _)))⟩
theorem part_nodesn (l:List Tok) (hl:l.length≤100000) (htx:∀ t∈l,t.text.length≤1000000) (g q:Nat) (v o:Value) (w0 w:World) (x:St) (i:Nat) (e p:Int) (ev fv:Value) (n:Nat) (hn:2≤n) (h:WX lo l g v o w0 q w ⟨x,i,e,p⟩ ev fv) :
 Calls Tryz.prog 77 #[.pointer (some ⟨g,0,none⟩),.pointer (some ⟨q,0,none⟩),.int .u8 101,.int .i64 (n:Int)] w (PartPost lo l g v o w0 q (stepS l (runS l ⟨x,i,e,p⟩ (aheadS n)) .nodes)):=by
 have hstp:runS l ⟨x,i,e,p⟩ (aheadS n)=⟨x,mI l [44] i e,mE l [44] i e,mP l [44] i e p⟩:=by
  unfold aheadS
  rw [if_neg (by omega),if_neg (by omega)]
  exact sign_step l x i e p [44]
 rw [hstp]
 clear hstp
 obtain ⟨i1,HI1⟩:∃ i1,Hid (mI l [44] i e=i1):=⟨_,rfl⟩
 obtain ⟨e1,HE1⟩:∃ e1,Hid (mE l [44] i e=e1):=⟨_,rfl⟩
 obtain ⟨p1,HP1⟩:∃ p1,Hid (mP l [44] i e p=p1):=⟨_,rfl⟩
 rw [HI1.out,HE1.out,HP1.out]
 have hn1:(2:Int)≤(n:Int):=by omega
 have hnb:((n:Int) == 1)=false:=by rw [beq_eq_false_iff_ne];omega
 clear hn
 have HWX:=Lib.hid h
 obtain ⟨A,c,hve,hcc⟩:=(h.ctx.now h.pq.lt).shape
 subst hve
 clear h
 go_enter Tryz.func77,Tryz.ntmps77
 go_upto_region 5 with (go_at_call 52;refine (psign_c l hl [44] g _ _ i (Nat.le_trans HWX.out.im (by decide)) e p _ HWX.out.pq HWX.out.ctx).mono ?_;rintro r w1 ⟨rfl,hk1,hp1⟩)
 have hw1:=HWX.out.keep hk1 hp1 (mI_lt hl _ HWX.out.im _)
 rw [HI1.out,HE1.out,HP1.out] at hw1
 have HW1:=Lib.hid hw1
 clear hk1 hp1 hw1
 clear HWX HI1 HE1 HP1
 go_upto_region 11 with fail
 go_wp2_with (go_at_call 103;refine (pexpr_c l hl htx g _ _ i1 (Nat.le_trans HW1.out.im (by decide)) e1 p1 _ HW1.out.pq HW1.out.ctx).mono ?_;rintro r w2 ⟨x1,rfl,hx1,hk2,hp2⟩;obtain ⟨A1,c1,rfl,_⟩:=NodO.shape hx1.1;have HX1:=Lib.hid hx1;have HW2:=Lib.hid (HW1.out.keep hk2 hp2 (after_i HW1.out.im (fun y j hr=>by have:=exprR_good hr;omega)));obtain ⟨sl,s0,s1,s2,s3,s4,s5,s6,s7,s8,sfr⟩:=HW2.out.sb;have sfc:=sfr 3)
 refine bodyPost_end (results_none rfl _ _ _) rfl ?_
 exact ⟨rfl,_,_,HW2.out.nodes (After e1 p1 i1 (exprR l i1) []).1 _ HX1.out.1 (HX1.out.2.mono (Nat.le_trans (Nat.succ_le_of_lt HW1.out.sb.lt) (Nat.le_refl _)))⟩
theorem part_more0 (l:List Tok) (hl:l.length≤100000) (htx:∀ t∈l,t.text.length≤1000000) (g q:Nat) (v o:Value) (w0 w:World) (x:St) (i:Nat) (e p:Int) (ev fv:Value) (h:WX lo l g v o w0 q w ⟨x,i,e,p⟩ ev fv) :
 Calls Tryz.prog 77 #[.pointer (some ⟨g,0,none⟩),.pointer (some ⟨q,0,none⟩),.int .u8 102,.int .i64 0] w (PartPost lo l g v o w0 q (stepS l (runS l ⟨x,i,e,p⟩ (aheadS 0)) .more)):=by
 rw [show runS l ⟨x,i,e,p⟩ (aheadS 0)=⟨x,i,e,p⟩ from rfl]
 have HWX:=Lib.hid h
 obtain ⟨A,c,hve,hcc⟩:=(h.ctx.now h.pq.lt).shape
 subst hve
 clear h
 go_enter Tryz.func77,Tryz.ntmps77
 go_upto_region 5 with fail
 have HW1:=Lib.hid HWX.out
 clear HWX
 go_upto_region 13 with fail
 go_wp2_with (go_at_call 103;refine (pexpr_c l hl htx g _ _ i (Nat.le_trans HW1.out.im (by decide)) e p _ HW1.out.pq HW1.out.ctx).mono ?_;rintro r w2 ⟨x1,rfl,hx1,hk2,hp2⟩;obtain ⟨A1,c1,rfl,_⟩:=NodO.shape hx1.1;have HX1:=Lib.hid hx1;have HW2:=Lib.hid (HW1.out.keep hk2 hp2 (after_i HW1.out.im (fun y j hr=>by have:=exprR_good hr;omega)));obtain ⟨sl,s0,s1,s2,s3,s4,s5,s6,s7,s8,sfr⟩:=HW2.out.sb;have sfc:=sfr 4)
 refine bodyPost_end (results_none rfl _ _ _) rfl ?_
 exact ⟨rfl,_,_,HW2.out.more (After e p i (exprR l i) []).1 _ HX1.out.1 (HX1.out.2.mono (Nat.le_trans (Nat.succ_le_of_lt HW1.out.sb.lt) (Nat.le_refl _)))⟩
theorem part_more1 (l:List Tok) (hl:l.length≤100000) (htx:∀ t∈l,t.text.length≤1000000) (g q:Nat) (v o:Value) (w0 w:World) (x:St) (i:Nat) (e p:Int) (ev fv:Value) (h:WX lo l g v o w0 q w ⟨x,i,e,p⟩ ev fv) :
 Calls Tryz.prog 77 #[.pointer (some ⟨g,0,none⟩),.pointer (some ⟨q,0,none⟩),.int .u8 102,.int .i64 1] w (PartPost lo l g v o w0 q (stepS l (runS l ⟨x,i,e,p⟩ (aheadS 1)) .more)):=by
 have hstp:runS l ⟨x,i,e,p⟩ (aheadS 1)=⟨x,mI l [61] i e,mE l [61] i e,mP l [61] i e p⟩:=by
  unfold aheadS
  rw [if_neg (by decide),if_pos rfl]
  exact sign_step l x i e p [61]
 rw [hstp]
 clear hstp
 obtain ⟨i1,HI1⟩:∃ i1,Hid (mI l [61] i e=i1):=⟨_,rfl⟩
 obtain ⟨e1,HE1⟩:∃ e1,Hid (mE l [61] i e=e1):=⟨_,rfl⟩
 obtain ⟨p1,HP1⟩:∃ p1,Hid (mP l [61] i e p=p1):=⟨_,rfl⟩
 rw [HI1.out,HE1.out,HP1.out]
 have HWX:=Lib.hid h
 obtain ⟨A,c,hve,hcc⟩:=(h.ctx.now h.pq.lt).shape
 subst hve
 clear h
 go_enter Tryz.func77,Tryz.ntmps77
 go_upto_region 5 with (go_at_call 52;refine (psign_c l hl [61] g _ _ i (Nat.le_trans HWX.out.im (by decide)) e p _ HWX.out.pq HWX.out.ctx).mono ?_;rintro r w1 ⟨rfl,hk1,hp1⟩)
 have hw1:=HWX.out.keep hk1 hp1 (mI_lt hl _ HWX.out.im _)
 rw [HI1.out,HE1.out,HP1.out] at hw1
 have HW1:=Lib.hid hw1
 clear hk1 hp1 hw1
 clear HWX HI1 HE1 HP1
 go_upto_region 13 with fail
 go_wp2_with (go_at_call 103;refine (pexpr_c l hl htx g _ _ i1 (Nat.le_trans HW1.out.im (by decide)) e1 p1 _ HW1.out.pq HW1.out.ctx).mono ?_;rintro r w2 ⟨x1,rfl,hx1,hk2,hp2⟩;obtain ⟨A1,c1,rfl,_⟩:=NodO.shape hx1.1;have HX1:=Lib.hid hx1;have HW2:=Lib.hid (HW1.out.keep hk2 hp2 (after_i HW1.out.im (fun y j hr=>by have:=exprR_good hr;omega)));obtain ⟨sl,s0,s1,s2,s3,s4,s5,s6,s7,s8,sfr⟩:=HW2.out.sb;have sfc:=sfr 4)
 refine bodyPost_end (results_none rfl _ _ _) rfl ?_
 exact ⟨rfl,_,_,HW2.out.more (After e1 p1 i1 (exprR l i1) []).1 _ HX1.out.1 (HX1.out.2.mono (Nat.le_trans (Nat.succ_le_of_lt HW1.out.sb.lt) (Nat.le_refl _)))⟩
theorem part_moren (l:List Tok) (hl:l.length≤100000) (htx:∀ t∈l,t.text.length≤1000000) (g q:Nat) (v o:Value) (w0 w:World) (x:St) (i:Nat) (e p:Int) (ev fv:Value) (n:Nat) (hn:2≤n) (h:WX lo l g v o w0 q w ⟨x,i,e,p⟩ ev fv) :
 Calls Tryz.prog 77 #[.pointer (some ⟨g,0,none⟩),.pointer (some ⟨q,0,none⟩),.int .u8 102,.int .i64 (n:Int)] w (PartPost lo l g v o w0 q (stepS l (runS l ⟨x,i,e,p⟩ (aheadS n)) .more)):=by
 have hstp:runS l ⟨x,i,e,p⟩ (aheadS n)=⟨x,mI l [44] i e,mE l [44] i e,mP l [44] i e p⟩:=by
  unfold aheadS
  rw [if_neg (by omega),if_neg (by omega)]
  exact sign_step l x i e p [44]
 rw [hstp]
 clear hstp
 obtain ⟨i1,HI1⟩:∃ i1,Hid (mI l [44] i e=i1):=⟨_,rfl⟩
 obtain ⟨e1,HE1⟩:∃ e1,Hid (mE l [44] i e=e1):=⟨_,rfl⟩
 obtain ⟨p1,HP1⟩:∃ p1,Hid (mP l [44] i e p=p1):=⟨_,rfl⟩
 rw [HI1.out,HE1.out,HP1.out]
 have hn1:(2:Int)≤(n:Int):=by omega
 have hnb:((n:Int) == 1)=false:=by rw [beq_eq_false_iff_ne];omega
 clear hn
 have HWX:=Lib.hid h
 obtain ⟨A,c,hve,hcc⟩:=(h.ctx.now h.pq.lt).shape
 subst hve
 clear h
 go_enter Tryz.func77,Tryz.ntmps77
 go_upto_region 5 with (go_at_call 52;refine (psign_c l hl [44] g _ _ i (Nat.le_trans HWX.out.im (by decide)) e p _ HWX.out.pq HWX.out.ctx).mono ?_;rintro r w1 ⟨rfl,hk1,hp1⟩)
 have hw1:=HWX.out.keep hk1 hp1 (mI_lt hl _ HWX.out.im _)
 rw [HI1.out,HE1.out,HP1.out] at hw1
 have HW1:=Lib.hid hw1
 clear hk1 hp1 hw1
 clear HWX HI1 HE1 HP1
 go_upto_region 13 with fail
 go_wp2_with (go_at_call 103;refine (pexpr_c l hl htx g _ _ i1 (Nat.le_trans HW1.out.im (by decide)) e1 p1 _ HW1.out.pq HW1.out.ctx).mono ?_;rintro r w2 ⟨x1,rfl,hx1,hk2,hp2⟩;obtain ⟨A1,c1,rfl,_⟩:=NodO.shape hx1.1;have HX1:=Lib.hid hx1;have HW2:=Lib.hid (HW1.out.keep hk2 hp2 (after_i HW1.out.im (fun y j hr=>by have:=exprR_good hr;omega)));obtain ⟨sl,s0,s1,s2,s3,s4,s5,s6,s7,s8,sfr⟩:=HW2.out.sb;have sfc:=sfr 4)
 refine bodyPost_end (results_none rfl _ _ _) rfl ?_
 exact ⟨rfl,_,_,HW2.out.more (After e1 p1 i1 (exprR l i1) []).1 _ HX1.out.1 (HX1.out.2.mono (Nat.le_trans (Nat.succ_le_of_lt HW1.out.sb.lt) (Nat.le_refl _)))⟩
theorem part_num0 (l:List Tok) (hl:l.length≤100000) (htx:∀ t∈l,t.text.length≤1000000) (g q:Nat) (v o:Value) (w0 w:World) (x:St) (i:Nat) (e p:Int) (ev fv:Value) (h:WX lo l g v o w0 q w ⟨x,i,e,p⟩ ev fv) :
 Calls Tryz.prog 77 #[.pointer (some ⟨g,0,none⟩),.pointer (some ⟨q,0,none⟩),.int .u8 107,.int .i64 0] w (PartPost lo l g v o w0 q (stepS l (runS l ⟨x,i,e,p⟩ (aheadS 0)) .times)):=by
 rw [show runS l ⟨x,i,e,p⟩ (aheadS 0)=⟨x,i,e,p⟩ from rfl]
 have HWX:=Lib.hid h
 obtain ⟨A,c,hve,hcc⟩:=(h.ctx.now h.pq.lt).shape
 subst hve
 clear h
 go_enter Tryz.func77,Tryz.ntmps77
 go_upto_region 5 with fail
 have HW1:=Lib.hid HWX.out
 clear HWX
 go_upto_region 15 with fail
 go_wp2_with (go_at_call 104;refine (prounds_c l hl g _ _ i (Nat.le_trans HW1.out.im (by decide)) e p _ HW1.out.pq HW1.out.ctx).mono ?_;rintro r w2 ⟨x1,rfl,hx1,hk2,hp2⟩;subst hx1;have HW2:=Lib.hid (HW1.out.keep hk2 hp2 (after_i HW1.out.im (fun y j hr=>by have:=roundsR_good hr;omega)));obtain ⟨sl,s0,s1,s2,s3,s4,s5,s6,s7,s8,sfr⟩:=HW2.out.sb;have sfc:=sfr 5)
 refine bodyPost_end (results_none rfl _ _ _) rfl ?_
 exact ⟨rfl,_,_,HW2.out.num (After e p i (roundsR l i) 0).1⟩
theorem part_num1 (l:List Tok) (hl:l.length≤100000) (htx:∀ t∈l,t.text.length≤1000000) (g q:Nat) (v o:Value) (w0 w:World) (x:St) (i:Nat) (e p:Int) (ev fv:Value) (h:WX lo l g v o w0 q w ⟨x,i,e,p⟩ ev fv) :
 Calls Tryz.prog 77 #[.pointer (some ⟨g,0,none⟩),.pointer (some ⟨q,0,none⟩),.int .u8 107,.int .i64 1] w (PartPost lo l g v o w0 q (stepS l (runS l ⟨x,i,e,p⟩ (aheadS 1)) .times)):=by
 have hstp:runS l ⟨x,i,e,p⟩ (aheadS 1)=⟨x,mI l [61] i e,mE l [61] i e,mP l [61] i e p⟩:=by
  unfold aheadS
  rw [if_neg (by decide),if_pos rfl]
  exact sign_step l x i e p [61]
 rw [hstp]
 clear hstp
 obtain ⟨i1,HI1⟩:∃ i1,Hid (mI l [61] i e=i1):=⟨_,rfl⟩
 obtain ⟨e1,HE1⟩:∃ e1,Hid (mE l [61] i e=e1):=⟨_,rfl⟩
 obtain ⟨p1,HP1⟩:∃ p1,Hid (mP l [61] i e p=p1):=⟨_,rfl⟩
 rw [HI1.out,HE1.out,HP1.out]
 have HWX:=Lib.hid h
 obtain ⟨A,c,hve,hcc⟩:=(h.ctx.now h.pq.lt).shape
 subst hve
 clear h
 go_enter Tryz.func77,Tryz.ntmps77
 go_upto_region 5 with (go_at_call 52;refine (psign_c l hl [61] g _ _ i (Nat.le_trans HWX.out.im (by decide)) e p _ HWX.out.pq HWX.out.ctx).mono ?_;rintro r w1 ⟨rfl,hk1,hp1⟩)
 have hw1:=HWX.out.keep hk1 hp1 (mI_lt hl _ HWX.out.im _)
 rw [HI1.out,HE1.out,HP1.out] at hw1
 have HW1:=Lib.hid hw1
 clear hk1 hp1 hw1
 clear HWX HI1 HE1 HP1
 go_upto_region 15 with fail
 go_wp2_with (go_at_call 104;refine (prounds_c l hl g _ _ i1 (Nat.le_trans HW1.out.im (by decide)) e1 p1 _ HW1.out.pq HW1.out.ctx).mono ?_;rintro r w2 ⟨x1,rfl,hx1,hk2,hp2⟩;subst hx1;have HW2:=Lib.hid (HW1.out.keep hk2 hp2 (after_i HW1.out.im (fun y j hr=>by have:=roundsR_good hr;omega)));obtain ⟨sl,s0,s1,s2,s3,s4,s5,s6,s7,s8,sfr⟩:=HW2.out.sb;have sfc:=sfr 5)
 refine bodyPost_end (results_none rfl _ _ _) rfl ?_
 exact ⟨rfl,_,_,HW2.out.num (After e1 p1 i1 (roundsR l i1) 0).1⟩
theorem part_numn (l:List Tok) (hl:l.length≤100000) (htx:∀ t∈l,t.text.length≤1000000) (g q:Nat) (v o:Value) (w0 w:World) (x:St) (i:Nat) (e p:Int) (ev fv:Value) (n:Nat) (hn:2≤n) (h:WX lo l g v o w0 q w ⟨x,i,e,p⟩ ev fv) :
 Calls Tryz.prog 77 #[.pointer (some ⟨g,0,none⟩),.pointer (some ⟨q,0,none⟩),.int .u8 107,.int .i64 (n:Int)] w (PartPost lo l g v o w0 q (stepS l (runS l ⟨x,i,e,p⟩ (aheadS n)) .times)):=by
 have hstp:runS l ⟨x,i,e,p⟩ (aheadS n)=⟨x,mI l [44] i e,mE l [44] i e,mP l [44] i e p⟩:=by
  unfold aheadS
  rw [if_neg (by omega),if_neg (by omega)]
  exact sign_step l x i e p [44]
 rw [hstp]
 clear hstp
 obtain ⟨i1,HI1⟩:∃ i1,Hid (mI l [44] i e=i1):=⟨_,rfl⟩
 obtain ⟨e1,HE1⟩:∃ e1,Hid (mE l [44] i e=e1):=⟨_,rfl⟩
 obtain ⟨p1,HP1⟩:∃ p1,Hid (mP l [44] i e p=p1):=⟨_,rfl⟩
 rw [HI1.out,HE1.out,HP1.out]
 have hn1:(2:Int)≤(n:Int):=by omega
 have hnb:((n:Int) == 1)=false:=by rw [beq_eq_false_iff_ne];omega
 clear hn
 have HWX:=Lib.hid h
 obtain ⟨A,c,hve,hcc⟩:=(h.ctx.now h.pq.lt).shape
 subst hve
 clear h
 go_enter Tryz.func77,Tryz.ntmps77
 go_upto_region 5 with (go_at_call 52;refine (psign_c l hl [44] g _ _ i (Nat.le_trans HWX.out.im (by decide)) e p _ HWX.out.pq HWX.out.ctx).mono ?_;rintro r w1 ⟨rfl,hk1,hp1⟩)
 have hw1:=HWX.out.keep hk1 hp1 (mI_lt hl _ HWX.out.im _)
 rw [HI1.out,HE1.out,HP1.out] at hw1
 have HW1:=Lib.hid hw1
 clear hk1 hp1 hw1
 clear HWX HI1 HE1 HP1
 go_upto_region 15 with fail
 go_wp2_with (go_at_call 104;refine (prounds_c l hl g _ _ i1 (Nat.le_trans HW1.out.im (by decide)) e1 p1 _ HW1.out.pq HW1.out.ctx).mono ?_;rintro r w2 ⟨x1,rfl,hx1,hk2,hp2⟩;subst hx1;have HW2:=Lib.hid (HW1.out.keep hk2 hp2 (after_i HW1.out.im (fun y j hr=>by have:=roundsR_good hr;omega)));obtain ⟨sl,s0,s1,s2,s3,s4,s5,s6,s7,s8,sfr⟩:=HW2.out.sb;have sfc:=sfr 5)
 refine bodyPost_end (results_none rfl _ _ _) rfl ?_
 exact ⟨rfl,_,_,HW2.out.num (After e1 p1 i1 (roundsR l i1) 0).1⟩
theorem part_c (l:List Tok) (hl:l.length≤100000) (htx:∀ t∈l,t.text.length≤1000000) (g q:Nat) (v o:Value) (w0 w:World) (σ:Sg) (ev fv:Value) (c:UInt8) (hc:c=114∨c=110∨c=101∨c=102∨c=107) (n:Nat) (h:WX lo l g v o w0 q w σ ev fv) :
 Calls Tryz.prog 77 #[.pointer (some ⟨g,0,none⟩),.pointer (some ⟨q,0,none⟩),.int .u8 (c.toNat:Nat),.int .i64 n] w (PartPost lo l g v o w0 q (stepS l (runS l σ (aheadS n)) (opOf c))):=by
 obtain ⟨x,i,e,p⟩:=σ
 have h012:n=0∨n=1∨2≤n:=by omega
 rcases hc with rfl | rfl | rfl | rfl | rfl
 ·rcases h012 with rfl | rfl | hn
  ·exact part_reg0 l hl htx g q v o w0 w x i e p ev fv h
  ·exact part_reg1 l hl htx g q v o w0 w x i e p ev fv h
  ·exact part_regn l hl htx g q v o w0 w x i e p ev fv n hn h
 ·rcases h012 with rfl | rfl | hn
  ·exact part_name0 l hl htx g q v o w0 w x i e p ev fv h
  ·exact part_name1 l hl htx g q v o w0 w x i e p ev fv h
  ·exact part_namen l hl htx g q v o w0 w x i e p ev fv n hn h
 ·rcases h012 with rfl | rfl | hn
  ·exact part_nodes0 l hl htx g q v o w0 w x i e p ev fv h
  ·exact part_nodes1 l hl htx g q v o w0 w x i e p ev fv h
  ·exact part_nodesn l hl htx g q v o w0 w x i e p ev fv n hn h
 ·rcases h012 with rfl | rfl | hn
  ·exact part_more0 l hl htx g q v o w0 w x i e p ev fv h
  ·exact part_more1 l hl htx g q v o w0 w x i e p ev fv h
  ·exact part_moren l hl htx g q v o w0 w x i e p ev fv n hn h
 ·rcases h012 with rfl | rfl | hn
  ·exact part_num0 l hl htx g q v o w0 w x i e p ev fv h
  ·exact part_num1 l hl htx g q v o w0 w x i e p ev fv h
  ·exact part_numn l hl htx g q v o w0 w x i e p ev fv n hn h
end Go.Proofs.YtaoeaaebafcegaaGreatDoor
namespace Go.Proofs.YtaoeaaebafcegaaGreatDoor
open Go Go.RowKit
set_option linter.unusedVariables false
def Rest (one:Nat→RS (List St)) (l:List Tok) (R:RS (List St)) (p0:Int) (j:Nat) (e p:Int) (xs:List St):Prop :=
 (e=0∧p=p0∧R=match stsR one l (l.length+1 - j) j with | .inr q=>.inr q | .inl (y,k)=>.inl (xs++y,k))∨(¬ e=0∧R = .inr (e,p))
theorem rest_start (one:Nat→RS (List St)) (l:List Tok) (p0:Int) (j:Nat):Rest one l (stsR one l (l.length+1 - j) j) p0 j 0 p0 []:=by
 refine .inl ⟨rfl,rfl,?_⟩
 cases stsR one l (l.length+1 - j) j with
 | inr q=>rfl
 | inl q=>rfl
theorem rest_step {l:List Tok} {d:Nat} {b:Bool} {R:RS (List St)} {p0:Int} {j:Nat} {p:Int} {xs:List St} (h:Rest (oneR (blkR l d) b l) l R p0 j 0 p xs) (hj:j≤l.length) (hi:isE l j [125] = false) {j2:Nat} {e2 p2:Int} {ys:List Sv} (hb:BlkEnd (oneR (blkR l d) b l j) j2 e2 p2 p ys) :
 Rest (oneR (blkR l d) b l) l R p0 j2 e2 p2 (xs++ys.map (·.s))∧(e2=0→j < j2∧j2≤l.length):=by
 have ho:=oneR_good (fun b=>blkR_good l d b) b
 rcases h with ⟨_,hp,hR⟩ | ⟨h0,_⟩
 ·obtain ⟨f,hf⟩:∃ f,l.length+1 - j=f+1:=⟨l.length - j,by omega⟩
  rw [hf] at hR
  unfold stsR at hR
  rw [if_neg (by rw [hi];decide)] at hR
  cases h1:oneR (blkR l d) b l j with
  | inr q =>
    obtain ⟨a,c⟩:=q
    rw [h1] at hb hR
    obtain ⟨rfl,rfl,hne⟩:=hb
    exact ⟨.inr ⟨hne,hR⟩,fun h=>absurd h hne⟩
  | inl q =>
    obtain ⟨y,t⟩:=q
    rw [h1] at hb hR
    obtain ⟨rfl,rfl,rfl,hy⟩:=hb
    have g:=ho _ _ _ h1
    refine ⟨.inl ⟨rfl,hp,?_⟩,fun _=>g⟩
    rw [hR]
    simp only
    rw [stsR_fuel ho f (l.length+1 - j2) j2 g.2 (by omega) (by omega),hy]
    cases stsR (oneR (blkR l d) b l) l (l.length+1 - j2) j2 with
    | inr q=>rfl
    | inl q=>simp
 ·exact absurd rfl h0
theorem rest_end {one:Nat→RS (List St)} {l:List Tok} {R:RS (List St)} {p0:Int} {j:Nat} {p:Int} {xs:List St} (h:Rest one l R p0 j 0 p xs) (hi:isE l j [125] = true):R = .inl (xs,j)∧p=p0:=by
 rcases h with ⟨_,hp,hR⟩ | ⟨h0,_⟩
 ·rw [sts_end hi] at hR
  exact ⟨by rw [hR];simp,hp⟩
 ·exact absurd rfl h0
theorem blk_open {l : List Tok} {d : Nat} {b : Bool} {i : Nat} (h : isE l i [123] = true) : blkR l (d + 1) b i = match stsR (oneR (blkR l d) b l) l (l.length + 1 - (i + 1)) (i + 1) with
    | .inr e => .inr e
    | .inl (x, j2) => match signR l [125] j2 with
      | .inr e => .inr e
      | .inl (_, j3) => .inl (x, j3) := by
  rw [blkR]
  unfold signR
  rw [if_pos h]
  rfl
theorem blk_shut {l:List Tok} {d:Nat} {b:Bool} {i:Nat} (h:isE l i [123] = false):blkR l (d+1) b i = .inr (badR l i 5):=by
 rw [blkR]
 unfold signR
 rw [if_neg (by rw [h];decide)]
theorem mI_err {l:List Tok} {s:List UInt8} {i:Nat} {e p:Int} (h:¬ e=0):mI l s i e=i∧mE l s i e=e∧mP l s i e p=p:=by
 unfold mI mE mP wE wP
 have h1:¬ (e=0∧isE l i s=true):=fun hh=>h hh.1
 rw [if_neg h1,if_neg h1,if_neg h1,if_neg h,if_neg h]
 exact ⟨rfl,rfl,rfl⟩
theorem own_len {w:World} {base:Nat} {e:TypeId} {size:Nat} {v:Value} {n:Nat} {xs:List Value} (h:w.ownsRow base e size v n xs):∃ A c,v = .slice A n c:=own_shape h
def shutR (l : List Tok) (R : RS (List St)) : RS (List St) := match R with
  | .inr e => .inr e
  | .inl (x, j2) => match signR l [125] j2 with
    | .inr e => .inr e
    | .inl (_, j3) => .inl (x, j3)
theorem shut_err {l:List Tok} {one:Nat→RS (List St)} {R:RS (List St)} {p0:Int} {j:Nat} {e p:Int} {ys:List Sv} {xs:List St} (h:Rest one l R p0 j e p xs) (he:¬ e=0):BlkEnd (shutR l R) j e p p0 ys:=by
 rcases h with ⟨h0,_⟩ | ⟨_,hR⟩
 ·exact absurd h0 he
 ·rw [hR];exact ⟨rfl,rfl,he⟩
theorem shut_ok {l:List Tok} {one:Nat→RS (List St)} {R:RS (List St)} {p0:Int} {j:Nat} {p:Int} {ys:List Sv} (h:Rest one l R p0 j 0 p (ys.map (·.s))) (hi:isE l j [125] = true):BlkEnd (shutR l R) (mI l [125] j 0) (mE l [125] j 0) (mP l [125] j 0 p) p0 ys:=by
 obtain ⟨hR,hp⟩:=rest_end h hi
 have h1:(0:Int)=0∧isE l j [125] = true:=⟨rfl,hi⟩
 unfold shutR mI mE mP signR
 rw [hR,if_pos h1,if_pos h1,if_pos h1]
 simp only
 rw [if_pos hi]
 exact ⟨rfl,rfl,hp,rfl⟩
structure SOwP (T:Nat→Prop) (B:Nat) (w:World) (v:Value) (pl:List Sv):Prop where
 own:w.ownsRow B 31 9 v pl.length (pl.flatMap Sv.cells)
 nods:∀ x∈pl,Off (fun k=>v.ownBlock=some k∨T k) w (fun u=>NodO u x.ev x.s.e∧NodO u x.fv x.s.f)
theorem SOwP.below {T:Nat→Prop} {B:Nat} {w w':World} {v:Value} {pl:List Sv} (h:SOwP T B w v pl) (hb:Below w.heap.size w w'):SOwP T B w' v pl :=
 ⟨own_below h.own hb,fun x hx=>(h.nods x hx).below hb⟩
theorem SOwP.keep {T:Nat→Prop} {B g:Nat} {w w':World} {v:Value} {pl:List Sv} (h:SOwP T B w v pl) (hg:g < B) (hT:T g) (hk:Keep g w w'):SOwP T B w' v pl :=
 ⟨row_keep h.own (fun e=>by have:=(h.own.lt g e).1;omega) hk.block,fun x hx=>(h.nods x hx).step hk.size (fun k hlt hn=>hk.block k hlt (fun e=>hn (.inr (e ▸ hT)))) (fun _ _ e=>e)⟩
theorem SOwP.mono {T T':Nat→Prop} {B:Nat} {w:World} {v:Value} {pl:List Sv} (h:SOwP T B w v pl) (hT:∀ k,T' k→T k):SOwP T' B w v pl :=
 ⟨h.own,fun x hx=>(h.nods x hx).mono (fun k _ e=>e.elim .inl (fun e=>.inr (hT k e)))⟩
theorem SOwP.cell {T:Nat→Prop} {B b o:Nat} {w:World} {v u:Value} {pl:List Sv} (h:SOwP T B w v pl) (hT:T b) (hne:v.ownBlock≠some b):SOwP T B (w.setCell ⟨b,o,none⟩ u) v pl :=
 ⟨row_keep h.own hne (fun k hk hn=>Below.heap_setCell _ _ _ _ (fun e=>hn (by simpa using e))),fun x hx=>(h.nods x hx).setCell ⟨b,o,none⟩ (.inr hT) u⟩
theorem SOwP.app {T:Nat→Prop} {B:Nat} {w w':World} {v v':Value} {pl:List Sv} (h:SOwP T B w v pl) (x:Sv) (hx:Off (fun k=>v.ownBlock=some k∨T k) w (fun u=>NodO u x.ev x.s.e∧NodO u x.fv x.s.f)) (hown:w'.ownsRow B 31 9 v' (pl.length+1) (pl.flatMap Sv.cells++[x].flatMap Sv.cells)) (hg:w.grownBy w' v.ownBlock) (hat:v'.ownBlock=v.ownBlock∨v'.ownBlock=some w.heap.size):SOwP T B w' v' (pl++[x]):=by
 refine ⟨by rw [List.length_append,List.flatMap_append];exact hown,fun y hy=>?_⟩
 rcases List.mem_append.1 hy with hy | hy
 ·exact (h.nods y hy).app2 hg hat
 ·simp only [List.mem_cons,List.not_mem_nil,or_false] at hy
  subst hy
  exact hx.app2 hg hat
theorem SOwP.keep2 {T:Nat→Prop} {B g q:Nat} {w w':World} {v:Value} {pl:List Sv} (h:SOwP T B w v pl) (hg:g < B) (hq:v.ownBlock≠some q) (hT:T g∧T q) (hk:Keep2 g q w w'):SOwP T B w' v pl:=by
 refine ⟨⟨h.own.1,?_⟩,fun x hx=>(h.nods x hx).step hk.size (fun k hlt hn=>hk.block k hlt (fun e=>hn (.inr (e ▸ hT.1))) (fun e=>hn (.inr (e ▸ hT.2)))) (fun _ _ e=>e)⟩
 rcases h.own.2 with h2 | ⟨b,cap,cur,hv,hb,hh,r⟩
 ·exact .inl h2
 ·refine .inr ⟨b,cap,cur,hv,hb,?_,r⟩
  have hlt:b < w.heap.size:=by
   rcases Nat.lt_or_ge b w.heap.size with hlt | hge
   ·exact hlt
   ·rw [Array.getElem?_eq_none hge] at hh;cases hh
  exact (hk.block b hlt (by omega) (fun e=>hq (by rw [hv,← e];rfl))).trans hh
theorem flat_two : ∀ (pl : List Sv) (k : Nat) (hk : k < pl.length) (a b : Int), ((pl.set k ⟨{ pl[k].s with body := a, els := b }, pl[k].ev, pl[k].fv⟩).flatMap Sv.cells) = (((pl.flatMap Sv.cells).set (k * 9 + 6) (.int .i64 a)).set (k * 9 + 7) (.int .i64 b))
  | [], k, hk, _, _ => absurd hk (by simp)
  | x :: r, 0, hk, a, b => by simp [Sv.cells, List.flatMap_cons]
  | x :: r, k + 1, hk, a, b => by
    have h := flat_two r k (by simpa using hk) a b
    have e : ∀ (xs : List Value) (j : Nat) (u : Value), (x.cells ++ xs).set ((k + 1) * 9 + j) u = x.cells ++ xs.set (k * 9 + j) u := fun xs j u => by
      rw [List.set_append]
      rw [if_neg (by rw [Sv.cells_len]; omega), Sv.cells_len, show (k + 1) * 9 + j - 9 = k * 9 + j by omega]
    rw [List.set_cons_succ, List.flatMap_cons, List.flatMap_cons, List.getElem_cons_succ, h, e, e]
theorem SOwP.put2 {T:Nat→Prop} {B:Nat} {w:World} {v:Value} {pl:List Sv} (h:SOwP T B w v pl) {g:Nat} (hg:v.ownBlock=some g) (k:Nat) (hk:k < pl.length) (a b:Int) :
 SOwP T B ((w.setCell ⟨g,k*9+6,none⟩ (.int .i64 a)).setCell ⟨g,k*9+7,none⟩ (.int .i64 b)) v (pl.set k ⟨{ pl[k].s with body:=a,els:=b },pl[k].ev,pl[k].fv⟩):=by
 refine ⟨?_,fun x hx2=>?_⟩
 ·rw [List.length_set,flat_two pl k hk a b]
  exact own_put (own_put h.own hg (k*9+6) (by omega) (.int .i64 a)) hg (k*9+7) (by omega) (.int .i64 b)
 ·have hx:Off (fun k=>v.ownBlock=some k∨T k) w (fun u=>NodO u x.ev x.s.e∧NodO u x.fv x.s.f):=by
   rcases List.mem_or_eq_of_mem_set hx2 with hm | rfl
   ·exact h.nods x hm
   ·exact h.nods pl[k] (List.getElem_mem hk)
  exact (hx.setCell ⟨g,k*9+6,none⟩ (.inl hg) (.int .i64 a)).setCell ⟨g,k*9+7,none⟩ (.inl hg) (.int .i64 b)
variable {lo : Int}
structure RX (lo:Int) (l:List Tok) (g:Nat) (T:Nat→Prop) (v o:Value) (w:World) (i:Nat) (e p:Int) (pl:List Sv):Prop where
 pq:PS lo w g v i e p o
 row:SOwP T (g+1) w o pl
 ctx:Ctx g v l w
 n0:e=0→pl.length≤i
 n1:pl.length≤i+1
 im:i≤1000000
 tg:T g
 tl:∀ k,T k→k < w.heap.size
theorem RX.below {l:List Tok} {g:Nat} {T:Nat→Prop} {v o:Value} {w w':World} {i:Nat} {e p:Int} {pl:List Sv} (h:RX lo l g T v o w i e p pl) (hb:Below w.heap.size w w'):RX lo l g T v o w' i e p pl :=
 ⟨h.pq.below hb,h.row.below hb,h.ctx.keep (Keep.of hb) h.pq.lt,h.n0,h.n1,h.im,h.tg,fun k hk=>Nat.lt_of_lt_of_le (h.tl k hk) hb.size⟩
theorem RX.keep {l:List Tok} {g:Nat} {T:Nat→Prop} {v o:Value} {w w':World} {i j:Nat} {e p e' p':Int} {pl:List Sv} (h:RX lo l g T v o w i e p pl) (hk:Keep g w w') (hp:PS lo w' g v j e' p' o) (hij:i≤j) (hj:j≤1000000) (he:e' = 0→e=0):RX lo l g T v o w' j e' p' pl :=
 ⟨hp,h.row.keep (Nat.lt_succ_self _) h.tg hk,h.ctx.keep hk h.pq.lt,fun h0=>Nat.le_trans (h.n0 (he h0)) hij,by have:=h.n1;omega,hj,h.tg,fun k hT=>Nat.lt_of_lt_of_le (h.tl k hT) hk.size⟩
theorem RX.drewN {l:List Tok} {g:Nat} {T:Nat→Prop} {v o:Value} {w:World} {i:Nat} {e p:Int} {pl:List Sv} (h:RX lo l g T v o w i e p pl) (n:Nat):RX lo l g T v o (w.drewN n) i e p pl:=h.below (qdrN (Below.refl _ _) n)
theorem RX.mono {l:List Tok} {g:Nat} {T T':Nat→Prop} {v o:Value} {w:World} {i:Nat} {e p:Int} {pl:List Sv} (h:RX lo l g T' v o w i e p pl) (hT:∀ k,T k→T' k) (hg:T g):RX lo l g T v o w i e p pl :=
 ⟨h.pq,h.row.mono hT,h.ctx,h.n0,h.n1,h.im,hg,fun k hk=>h.tl k (hT k hk)⟩
def BlkPoP (lo:Int) (l:List Tok) (r:RS (List St)) (g:Nat) (T:Nat→Prop) (v o:Value) (p0:Int) (pl:List Sv) (w:World) (z:Ending) (w':World):Prop :=
 ∃ (j:Nat) (e p:Int) (o':Value) (pl':List Sv),z = .returned (.int .i64 (pl'.length:Nat))∧RX lo l g T v o' w' j e p (pl++pl')∧KR g o o' w w'∧BlkEnd r j e p p0 pl'
def OnePoP (lo:Int) (l:List Tok) (r:RS (List St)) (g:Nat) (T:Nat→Prop) (v o:Value) (p0:Int) (pl:List Sv) (w:World) (z:Ending) (w':World):Prop :=
 ∃ (j:Nat) (e p:Int) (o':Value) (pl':List Sv),z = .returned (.tuple #[])∧RX lo l g T v o' w' j e p (pl++pl')∧KR g o o' w w'∧BlkEnd r j e p p0 pl'
def BlkP (l:List Tok) (d:Nat):Prop:=∀ (g:Nat) (T:Nat→Prop) (v o:Value) (i:Nat) (e p:Int) (pl:List Sv) (n:Nat) (w:World),n+d≤100→RX (n:Int) l g T v o w i e p pl →
 Calls Tryz.prog 27 #[.pointer (some ⟨g,0,none⟩),.int .i64 (13 - (d:Int))] w (if e=0 then BlkPoP (n:Int) l (blkR l d (decide (0 < n)) i) g T v o p pl w else fun z w'=>z = .returned (.int .i64 0)∧Keep g w w'∧RX (n:Int) l g T v o w' i e p pl)
theorem bpk_ok {l:List Tok} {d:Nat} (HB:BlkP l d) {D N:Int} {n:Nat} (hD:D=13 - (d:Int)) (hN:N=n) (h100:n+d≤100) {g:Nat} {T:Nat→Prop} {v o:Value} {w:World} {i:Nat} {p:Int} {pl:List Sv} (h:RX N l g T v o w i 0 p pl) :
 Calls Tryz.prog 27 #[.pointer (some ⟨g,0,none⟩),.int .i64 D] w (BlkPoP N l (blkR l d (decide (0 < n)) i) g T v o p pl w):=by
 subst hD hN
 have:=HB g T v o i 0 p pl n w h100 h
 rw [if_pos rfl] at this
 exact this
theorem bpk_no {l:List Tok} {d:Nat} (HB:BlkP l d) {D N:Int} {n:Nat} (hD:D=13 - (d:Int)) (hN:N=n) (h100:n+d≤100) {g:Nat} {T:Nat→Prop} {v o:Value} {w:World} {i:Nat} {e p:Int} {pl:List Sv} (he:¬ e=0) (h:RX N l g T v o w i e p pl) :
 Calls Tryz.prog 27 #[.pointer (some ⟨g,0,none⟩),.int .i64 D] w fun z w'=>z = .returned (.int .i64 0)∧Keep g w w'∧RX N l g T v o w' i e p pl:=by
 subst hD hN
 have:=HB g T v o i e p pl n w h100 h
 rw [if_neg he] at this
 exact this
theorem one_apP {l:List Tok} {g:Nat} {T:Nat→Prop} {v o o':Value} {X Y w1:World} {j:Nat} {e p:Int} {pl:List Sv} {x:Sv} (hp:PS lo X g v j e p o) (hr:SOwP T (g+1) X o pl) (hc:Ctx g v l X) (ht:T g∧∀ k,T k→k < X.heap.size)
 (hx:Off (fun k=>o.ownBlock=some k∨T k) X (fun u=>NodO u x.ev x.s.e∧NodO u x.fv x.s.f)) (hY:Below X.heap.size X Y) (hown:w1.ownsRow (g+1) 31 9 o' (pl.length+1) (pl.flatMap Sv.cells++[x].flatMap Sv.cells)) (hg:Y.grownBy w1 o.ownBlock) (hat:o'.ownBlock=o.ownBlock∨o'.ownBlock=some Y.heap.size) (n1:pl.length≤j) (n0:e=0→pl.length+1≤j) (im:j≤1000000) :
 RX lo l g T v o' (w1.setCell ⟨g,5,none⟩ o') j e p (pl++[x])∧KR g o o' X (w1.setCell ⟨g,5,none⟩ o'):=by
 have hne:o.ownBlock≠some g:=fun e=>by have:=(hr.own.lt g e).1;omega
 have hne':o'.ownBlock≠some g:=fun e=>by have:=(hown.lt g e).1;omega
 have hpY:=hp.below hY
 have hp1:=hpY.grown hg hne
 have hr1:=(hr.below hY).app x (hx.below hY) hown hg hat
 have hgs:g < X.heap.size:=hp.lt
 have hc1:Ctx g v l w1:=hc.belowB (((hY.mono (Nat.le_of_lt hgs))).grown hg (by have:=hY.size;omega) (fun k hk=>by have:=(hr.own.lt k hk).1;omega))
 refine ⟨⟨hp1.set5 _,?_,hc1.keep ((Keep.refl g w1).set 5 _) hp1.lt,fun h=>by rw [List.length_append];exact n0 h,by rw [List.length_append];simp only [List.length_cons,List.length_nil];omega,im,ht.1,fun k hk=>?_⟩,?_⟩
 ·exact hr1.cell ht.1 hne'
 ·have:=ht.2 k hk
  have:=hY.size
  have:=hg.size
  rw [World.size_setCell];omega
 ·have hsz:X.heap.size≤w1.heap.size:=Nat.le_trans hY.size hg.size
  refine ⟨hg.os.trans hY.os,hg.tape.trans hY.tape,hg.output.trans hY.output,by rw [World.size_setCell];exact hsz,fun k hk h1 h2=>?_,?_⟩
  ·exact (Below.heap_setCell _ _ _ _ (fun e=>h1 (by simpa using e))).trans ((hg.block k (Nat.lt_of_lt_of_le hk hY.size) (fun e=>h2 e.symm)).trans (hY.block k hk))
  ·rcases hat with h | h
   ·exact .inl h
   ·exact .inr ⟨_,h,hY.size⟩
theorem one_puP {l:List Tok} {g gg:Nat} {T:Nat→Prop} {v o:Value} {W:World} {j:Nat} {e p:Int} {pl:List Sv} (h:RX lo l g T v o W j e p pl) (ho:o.ownBlock=some gg) (k:Nat) (hk:k < pl.length) (a b:Int) :
 RX lo l g T v o ((W.setCell ⟨gg,k*9+6,none⟩ (.int .i64 a)).setCell ⟨gg,k*9+7,none⟩ (.int .i64 b)) j e p (pl.set k ⟨{ pl[k].s with body:=a,els:=b },pl[k].ev,pl[k].fv⟩) ∧
 KR g o o W ((W.setCell ⟨gg,k*9+6,none⟩ (.int .i64 a)).setCell ⟨gg,k*9+7,none⟩ (.int .i64 b)):=by
 have hgg:=h.row.own.lt gg ho
 have hne:g≠gg:=by omega
 have hl:g≤gg:=by omega
 have hrow:=h.row.put2 ho k hk a b
 refine ⟨⟨(h.pq.other hne).other hne,hrow,?_,fun h0=>by rw [List.length_set];exact h.n0 h0,by rw [List.length_set];exact h.n1,h.im,h.tg,fun k hk=>by simp only [World.size_setCell];exact h.tl k hk⟩,?_⟩
 ·exact h.ctx.belowB (below_set (below_set (Below.refl g W) hl _) hl _)
 ·have hk:=((Keep.refl gg W).set (k*9+6) (.int .i64 a)).set (k*9+7) (.int .i64 b)
  exact ⟨hk.os,hk.tape,hk.output,hk.size,fun q hq _ h2=>hk.block q hq (fun e=>h2 (e ▸ ho)),.inl rfl⟩
theorem RX.set2 {l:List Tok} {g:Nat} {T:Nat→Prop} {v o:Value} {w:World} {i:Nat} {e p:Int} {pl:List Sv} (h:RX lo l g T v o w i e p pl) (j:Int):RX j l g T v o (w.setCell ⟨g,2,none⟩ (.int .i64 j)) i e p pl :=
 ⟨h.pq.set2 j,h.row.keep (Nat.lt_succ_self _) h.tg ((Keep.refl g w).set 2 _),h.ctx.keep ((Keep.refl g w).set 2 _) h.pq.lt,h.n0,h.n1,h.im,h.tg,fun k hk=>by rw [World.size_setCell];exact h.tl k hk⟩
def trP (b:Bool):Int:=if b then 1 else 0
theorem boolP_c (b:Bool) (w:World):Calls Tryz.prog 61 #[.bool b] w fun e w'=>e = .returned (.int .i64 (trP b))∧w=w':=by
 cases b
 all_goals
  go_enter Tryz.func61,Tryz.ntmps61
  go_wp2_with fail
  go_ret
  exact ⟨rfl,rfl⟩
end Go.Proofs.YtaoeaaebafcegaaGreatDoor
namespace Go.Proofs.YtaoeaaebafcegaaGreatDoor
open Go Go.RowKit
set_option linter.unusedVariables false
variable {lo:Int}
theorem step_kind (l:List Tok) (σ:Sg) (o:OpS):(stepS l σ o).x.kind=σ.x.kind∧(stepS l σ o).x.body=σ.x.body∧(stepS l σ o).x.els=σ.x.els:=by cases o <;> exact ⟨rfl,rfl,rfl⟩
theorem run_head (l : List Tok) : ∀ (ops : List OpS) (σ : Sg), (runS l σ ops).x.kind = σ.x.kind ∧ (runS l σ ops).x.body = σ.x.body ∧ (runS l σ ops).x.els = σ.x.els
  | [], σ => ⟨rfl, rfl, rfl⟩
  | o :: r, σ => by
    have h1 := step_kind l σ o
    have h2 := run_head l r (stepS l σ o)
    exact ⟨h2.1.trans h1.1, h2.2.1.trans h1.2.1, h2.2.2.trans h1.2.2⟩
theorem run_kind {l:List Tok} {ops:List OpS} {k:Int} {P:Int} {i:Nat} {e p:Int} {x:St} {j:Nat} {e1 p1:Int} (h:runS l ⟨{ zeroS with kind:=k,pos:=P },i,e,p⟩ ops=⟨x,j,e1,p1⟩):x.kind=k:=by
 have:=(run_head l ops ⟨{ zeroS with kind:=k,pos:=P },i,e,p⟩).1
 rw [h] at this
 exact this
theorem run_body {l:List Tok} {ops:List OpS} {k:Int} {P:Int} {i:Nat} {e p:Int} {x:St} {j:Nat} {e1 p1:Int} (h:runS l ⟨{ zeroS with kind:=k,pos:=P },i,e,p⟩ ops=⟨x,j,e1,p1⟩):x.body=0∧x.els=0:=by
 have:=(run_head l ops ⟨{ zeroS with kind:=k,pos:=P },i,e,p⟩).2
 rw [h] at this
 exact this
theorem oneR_kind {blk:Bool→Nat→RS (List St)} {b:Bool} {l:List Tok} {i k:Nat} (hk:kindAt l i=k):oneR blk b l i=oneP blk b l i k (posAt l i):=by
 subst hk;rfl
theorem SB.setPos {w:World} {b:Nat} {x:St} {ev fv:Value} (h:SB w b x ev fv) (n:Int):SB (w.setCell ⟨b,8,none⟩ (.int .i64 n)) b { x with pos:=n } ev fv :=
 ⟨by simpa [World.setCell] using h.lt,by simp [World.cell?_setCell_other];exact h.c0,by simp [World.cell?_setCell_other];exact h.c1,by simp [World.cell?_setCell_other];exact h.c2,by simp [World.cell?_setCell_other];exact h.c3,by simp [World.cell?_setCell_other];exact h.c4,by simp [World.cell?_setCell_other];exact h.c5,by simp [World.cell?_setCell_other];exact h.c6,by simp [World.cell?_setCell_other];exact h.c7,by simp [World.cell?_setCell_same',h.c8],fun j=>by simpa using h.fr j⟩
theorem off_nodO {S:Nat→Prop} {B:Nat} {w:World} {v:Value} {l:List Nod} (h:NodO w v l) (hf:Fresh B v) (hS:∀ k,S k→k < B):Off S w (fun u=>NodO u v l):=fun w' h1 h2=>by
 refine ⟨off_nods h.nods hf hS w' h1 h2,fun ad n c e=>?_⟩
 have hu:=h.unf ad n c e
 have hb:=h2 ad.block hu.1 (fun hs=>by have:=hS _ hs;have:=hf ad n c e;omega)
 exact ⟨Nat.lt_of_lt_of_le hu.1 h1,fun j=>(World.frozen?_of_block (a:=⟨ad.block,j,none⟩) hb).trans (hu.2 j)⟩
structure OXP (lo:Int) (l:List Tok) (g:Nat) (T:Nat→Prop) (v o:Value) (w X:World) (q:Nat) (x:St) (ev fv:Value) (j:Nat) (e1 p1:Int) (pl:List Sv):Prop where
 pq:PS lo X g v j e1 p1 o
 row:SOwP (fun k=>T k∨k=q) (g+1) X o pl
 ctx:Ctx g v l X
 tg:T g
 tl:∀ k,T k→k < w.heap.size
 sb:SB X q x ev fv
 off:Off (fun k=>o.ownBlock=some k∨(T k∨k=q)) X (fun u=>NodO u ev x.e∧NodO u fv x.f)
 kp:Keep g w X
 hq:w.heap.size≤q
 own:o.ownBlock≠some q
 n1:pl.length≤j
 n0:e1=0→pl.length+1≤j
 im:j≤1000000
theorem oxp_new {l:List Tok} {g q:Nat} {T:Nat→Prop} {v o:Value} {w w0 Y:World} {i:Nat} {p:Int} {pl:List Sv} (h:RX lo l g T v o w i 0 p pl) (hk0:Keep g w w0) (hq:w.heap.size≤q) {σ:Sg} {ev fv:Value} (hwx:WX lo l g v o w0 q Y σ ev fv) {x:St} {j:Nat} {e1 p1:Int} (hσ:σ=⟨x,j,e1,p1⟩) (hij:i≤j) (n0:e1=0→i < j) :
 OXP lo l g T v o w Y q x ev fv j e1 p1 pl:=by
 subst hσ
 have h0:=h.n0 rfl
 have howl:∀ k,o.ownBlock=some k→k < w.heap.size:=fun k hk=>(h.row.own.lt k hk).2
 have hoq:o.ownBlock≠some q:=fun e=>by have:=howl _ e;omega
 have hrow0:SOwP (fun k=>T k∨k=q) (g+1) w0 o pl :=
  ⟨row_keep h.row.own (fun e=>by have:=(h.row.own.lt g e).1;omega) hk0.block,fun x hx=>(h.row.nods x hx).step hk0.size (fun k hlt hn=>hk0.block k hlt (fun e=>hn (.inr (e ▸ h.tg)))) (fun k hk e=>e.elim .inl (fun e=>e.elim .inr (fun e=>absurd hk (by omega))))⟩
 refine ⟨hwx.pq,hrow0.keep2 (Nat.lt_succ_self _) hoq ⟨.inl h.tg,.inr rfl⟩ hwx.kp,hwx.ctx,h.tg,h.tl,hwx.sb,fun w' q1 q2=>?_,⟨hwx.kp.os.trans hk0.os,hwx.kp.tape.trans hk0.tape,hwx.kp.output.trans hk0.output,Nat.le_trans hk0.size hwx.kp.size,fun k hk hg=>(hwx.kp.block k (Nat.lt_of_lt_of_le hk hk0.size) hg (by omega)).trans (hk0.block k hk hg)⟩,hq,hoq,by omega,fun he=>by have:=n0 he;omega,hwx.im⟩
 have hS:∀ k,(o.ownBlock=some k∨(T k∨k=q))→k < q+1:=fun k hk=>by
  rcases hk with hk | hk | hk
  ·have:=howl k hk;omega
  ·have:=h.tl k hk;omega
  ·omega
 exact ⟨off_nodO hwx.ne hwx.fe hS w' q1 q2,off_nodO hwx.nf hwx.ff hS w' q1 q2⟩
theorem lett_len:∀ k,k≤14→(lettS k).length≤4:=by decide
theorem run_letter (l:List Tok) (σ:Sg) (cs:List UInt8) (j:Nat) (hj:j < cs.length):runS l (stepS l (runS l σ (aheadS j)) (opOf cs[j])) (opsOf2 (cs.drop (j+1)) (j+1))=runS l σ (opsOf2 (cs.drop j) j):=by
 rw [List.drop_eq_getElem_cons hj,opsOf2]
 unfold runS
 rw [List.foldl_append]
 rfl
theorem str_get (cs:List UInt8):(str cs).size=cs.length∧∀ j (h:j < (str cs).size) (h2:j < cs.length),(str cs)[j] = cs[j]:=by
 refine ⟨str_size cs,fun j h h2=>?_⟩
 show (str cs).data[j] = _
 simp [str]
end Go.Proofs.YtaoeaaebafcegaaGreatDoor

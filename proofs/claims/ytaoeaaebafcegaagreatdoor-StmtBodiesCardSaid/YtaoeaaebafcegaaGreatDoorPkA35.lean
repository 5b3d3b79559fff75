/- Chapter 04 (statements), joined: StrI. -/
import Derived.Test.YtaoeaaebafcegaaGreatDoorPkA22
import Derived.Test.YtaoeaaebafcegaaGreatDoorPkA31
set_option maxRecDepth 100000
set_option maxHeartbeats 16000000
namespace Go.Proofs.YtaoeaaebafcegaaGreatDoor
open Go Go.RowKit
set_option linter.unusedVariables false
theorem lt_of_cell {w:World} {b o:Nat} {u:Value} (h:w.cell? ⟨b,o,none⟩=some u):b < w.heap.size:=by
 rcases Nat.lt_or_ge b w.heap.size with hlt | hge
 ·exact hlt
 ·unfold World.cell? at h
  rw [Array.getElem?_eq_none hge] at h
  cases h
theorem oddS_c (x:St) (ev fv:Value) (w:World) (hrl:x.reg.length≤1000000) (hnl:x.name.length≤1000000) (hel:x.e.length≤100000) (hfl:x.f.length≤100000) (hen:∀ y∈x.e,y.name.length≤1000000) (hfn:∀ y∈x.f,y.name.length≤1000000) (he:Nods w ev x.e) (hf:Nods w fv x.f) (hE:Env w) :
 Calls Tryz.prog 31 #[stV x ev fv] w fun e w'=>e = .returned (.bool (!fitsS x))∧Below w.heap.size w w':=by
 have HFO:=Lib.hid (fits_ok x)
 obtain ⟨S1,HS1⟩:∃ S1,Hid (str (hasS x.kind.toNat)=S1):=⟨_,rfl⟩
 have HHAS:Hid (∀ u,Calls Tryz.prog 22 #[.int .i64 x.kind] u fun e w'=>e = .returned (.string S1)∧Below u.heap.size u w'):=fun u=>by rw [← HS1.out];exact has_any x.kind u
 obtain ⟨A1,c1,rfl,_⟩:=Nods.shape he
 obtain ⟨A2,c2,rfl,_⟩:=Nods.shape hf
 have HSB:Hid (SB (w.alloc (.cells #[.int .i64 x.kind,.string (str x.reg),.string (str x.name),.slice A1 x.e.length c1,.slice A2 x.f.length c2,.int .i64 x.n,.int .i64 x.body,.int .i64 x.els,.int .i64 x.pos] 31)) w.heap.size x (.slice A1 x.e.length c1) (.slice A2 x.f.length c2)):=sb_new w x _ _
 have HE:=Lib.hid he
 have HF:=Lib.hid hf
 have HEN:=Lib.hid hE
 have HB:=Lib.hid (And.intro hen hfn)
 obtain ⟨F,HFV⟩:∃ F,Hid ((!fitsS x)=F):=⟨_,rfl⟩
 rw [HFV.out]
 clear he hf hE hen hfn
 unfold stV
 go_enter Tryz.func31,Tryz.ntmps31
 go_upto_region 2 with (go_at_call 22;(with_reducible refine (HHAS.out _).mono ?_);rintro r w3 ⟨rfl,hb3⟩)
 have HB3:Hid (Below w.heap.size w (w3.alloc (.cells #[.string S1] 9))):=bt (bt (al w _) hb3) (al _ _)
 have HS3:=Lib.hid ((HSB.out.below hb3).below (al w3 (.cells #[.string S1] 9)))
 have HH3:Hid ((w3.alloc (.cells #[.string S1] 9)).cell? ⟨w3.heap.size,0,none⟩=some (.string S1)):=cells_new _ _ _ _ _ rfl
 clear hb3 HSB
 obtain ⟨pb,HPB⟩:∃ pb,Hid (w.heap.size=pb):=⟨_,rfl⟩
 rw [HPB.out] at HS3 ⊢
 generalize w3.heap.size=hb at HH3 ⊢
 generalize World.alloc w3 _=Y at HB3 HS3 HH3 ⊢
 have HK:Hid (∀ c∈([114,110,101,102,107]:List UInt8),∀ u,Below Y.heap.size Y u→Calls Tryz.prog 55 #[.string ⟨#[c]⟩,.pointer (some ⟨hb,0,none⟩)] u fun e w'=>e = .returned (.bool (hasC x c))∧u=w'):=fun c hc u hu=>by
  have hlt:hb < Y.heap.size:=lt_of_cell HH3.out
  exact odd1_any x.kind.toNat c hc hb u ((hu.cell (p:=⟨hb,0,none⟩) hlt).trans (by rw [HH3.out,HS1.out]))
 have HK7:=Lib.hid (HK.out 107 (by decide) Y (Below.refl _ _))
 obtain ⟨sl,s0,s1,s2,s3,s4,s5,s6,s7,s8,sfr⟩:=HS3.out
 obtain ⟨RN,hRN⟩:∃ r,(if hasC x 107=true then decide (1≤x.n) && decide (x.n≤8) else x.n == 0)=r:=⟨_,rfl⟩
 have HRN:=Lib.hid hRN
 have HOK:Hid (okS x=(decide (1≤x.kind) && decide (x.kind < 15) && decide (0≤x.pos) && decide (x.pos≤4000) && RN)):=by show _=_;rw [← hRN];rfl
 obtain ⟨bk,hbk⟩:∃ r,hasC x 107=r:=⟨_,rfl⟩
 rw [hbk] at HK7 HRN
 have HKA:Hid (∀ c∈([114,110,101,102]:List UInt8),∀ u,Below Y.heap.size Y u→Calls Tryz.prog 55 #[.string ⟨#[c]⟩,.pointer (some ⟨hb,0,none⟩)] u fun e w'=>e = .returned (.bool (hasC x c))∧u=w'):=fun c hc u hu=>HK.out c (by simp only [List.mem_cons,List.not_mem_nil,or_false] at hc ⊢;rcases hc with h | h | h | h <;> simp [h]) u hu
 clear hRN hbk HK
 go_upto_if 17 with (go_at_call 55;(with_reducible refine HK7.out.mono ?_);rintro e w9 ⟨rfl,rfl⟩)
 go_cut [7] from 18 to 25 (fun s wx=>s = .bool RN∧Y=wx)
 case first =>
  cases bk
  ·have HR2:Hid ((x.n == 0)=RN):=HRN.out
   go_wp2_with fail
   go_meet
   exact ⟨by rw [← HR2.out],rfl⟩
  ·have HR2:Hid ((decide (1≤x.n) && decide (x.n≤8))=RN):=HRN.out
   cases q1:decide (1≤x.n)
   ·have HR3:Hid (RN=false):=by show _=_;rw [← HR2.out,q1];rfl
    go_wp2_with fail
    go_meet
    exact ⟨by rw [HR3.out],rfl⟩
   ·have HR3:Hid (RN=decide (x.n≤8)):=by show _=_;rw [← HR2.out,q1];rfl
    cases q2:decide (x.n≤8)
    all_goals
     go_wp2_with fail
     go_meet
     exact ⟨by rw [HR3.out,q2],rfl⟩
 case rest =>
  obtain ⟨rfl,rfl⟩:=hcut
  obtain ⟨OK,hOK⟩:∃ r,okS x=r:=⟨_,rfl⟩
  have HOK2:Hid ((decide (1≤x.kind) && decide (x.kind < 15) && decide (0≤x.pos) && decide (x.pos≤4000) && RN)=OK):=by show _=_;rw [← HOK.out,hOK]
  have HFO2:Hid (F = !(OK && textB (hasC x 114) x.reg && textB (hasC x 110) x.name && nodesB (hasC x 101) x.e && nodesB (hasC x 102) x.f)):=by show _=_;rw [← HFV.out,HFO.out,hOK]
  clear hOK HOK HRN HK7
  go_upto_region 8 with fail
  go_cut [8] from 26 to 46 (fun s wx=>s = .bool OK∧Y=wx)
  case first =>
   cases a1:decide (1≤x.kind) <;> cases a2:decide (x.kind < 15) <;> cases a3:decide (0≤x.pos) <;> cases a4:decide (x.pos≤4000) <;> cases RN
   all_goals
    have HV:=HOK2.out
    simp only [a1, a2, a3, a4, Bool.and_true, Bool.and_false] at HV
    subst HV
    go_wp2_with fail
    go_meet
    exact ⟨rfl,rfl⟩
  case rest =>
   obtain ⟨rfl,rfl⟩:=hcut
   clear s0 s5 s6 s7 s8
   cases OK
   ·have HFF:Hid (F=true):=by show _=_;rw [HFO2.out];rfl
    go_upto_region 9 with fail
    go_quiet (fail)
    go_wp2_with fail
    go_ret
    exact ⟨ret_bool HFF.out.symm,bdrN HB3.out _⟩
   ·have HEQ:Hid (F = !(textB (hasC x 114) x.reg && textB (hasC x 110) x.name && nodesB (hasC x 101) x.e && nodesB (hasC x 102) x.f)):=by show _=_;rw [HFO2.out,Bool.true_and]
    have HS:Hid (∀ u,Below Y.heap.size Y u→(fun u=>u.cell? ⟨pb,1,none⟩=some (.string (str x.reg))∧u.cell? ⟨pb,2,none⟩=some (.string (str x.name))∧u.cell? ⟨pb,3,none⟩=some (.slice A1 x.e.length c1)∧u.cell? ⟨pb,4,none⟩=some (.slice A2 x.f.length c2)) u):=fun u hu=>by
     have h:=HS3.out.below hu
     exact ⟨h.c1,h.c2,h.c3,h.c4⟩
    obtain ⟨bR,hbR⟩:∃ b,hasC x 114=b:=⟨_,rfl⟩
    obtain ⟨TR,hTR⟩:∃ t,textB bR x.reg=t:=⟨_,rfl⟩
    have HKR:=Lib.hid (HKA.out 114 (by decide))
    rw [hbR] at HKR HEQ
    rw [hTR] at HEQ
    have HTR:Hid (∀ u,Below Y.heap.size Y u→Calls Tryz.prog 57 #[.bool bR,.string (str x.reg)] u fun e w'=>e = .returned (.bool TR)∧Below u.heap.size u w'):=fun u hu=>by rw [← hTR];exact odd2_c bR x.reg hrl u (HEN.out.below (bt HB3.out hu))
    obtain ⟨bN,hbN⟩:∃ b,hasC x 110=b:=⟨_,rfl⟩
    obtain ⟨TN,hTN⟩:∃ t,textB bN x.name=t:=⟨_,rfl⟩
    have HKN:=Lib.hid (HKA.out 110 (by decide))
    rw [hbN] at HKN HEQ
    rw [hTN] at HEQ
    have HTN:Hid (∀ u,Below Y.heap.size Y u→Calls Tryz.prog 57 #[.bool bN,.string (str x.name)] u fun e w'=>e = .returned (.bool TN)∧Below u.heap.size u w'):=fun u hu=>by rw [← hTN];exact odd2_c bN x.name hnl u (HEN.out.below (bt HB3.out hu))
    obtain ⟨bE,hbE⟩:∃ b,hasC x 101=b:=⟨_,rfl⟩
    obtain ⟨TE,hTE⟩:∃ t,nodesB bE x.e=t:=⟨_,rfl⟩
    have HKE:=Lib.hid (HKA.out 101 (by decide))
    rw [hbE] at HKE HEQ
    rw [hTE] at HEQ
    have HTE:Hid (∀ u,Below Y.heap.size Y u→Calls Tryz.prog 59 #[.bool bE,.slice A1 x.e.length c1] u fun e w'=>e = .returned (.bool TE)∧Below u.heap.size u w'):=fun u hu=>by rw [← hTE];exact odd3_c bE x.e hel HB.out.1 _ u (SlN.below HE.out (bt HB3.out hu)) (HEN.out.below (bt HB3.out hu))
    obtain ⟨bF,hbF⟩:∃ b,hasC x 102=b:=⟨_,rfl⟩
    obtain ⟨TF,hTF⟩:∃ t,nodesB bF x.f=t:=⟨_,rfl⟩
    have HKF:=Lib.hid (HKA.out 102 (by decide))
    rw [hbF] at HKF HEQ
    rw [hTF] at HEQ
    have HTF:Hid (∀ u,Below Y.heap.size Y u→Calls Tryz.prog 59 #[.bool bF,.slice A2 x.f.length c2] u fun e w'=>e = .returned (.bool TF)∧Below u.heap.size u w'):=fun u hu=>by rw [← hTF];exact odd3_c bF x.f hfl HB.out.2 _ u (SlN.below HF.out (bt HB3.out hu)) (HEN.out.below (bt HB3.out hu))
    clear hbR hTR hbN hTN hbE hTE hbF hTF
    go_upto_region 9 with fail
    have HC:TR=false∨(TR=true∧TN=false)∨(TR=true∧TN=true∧TE=false)∨(TR=true∧TN=true∧TE=true∧TF=false)∨(TR=true∧TN=true∧TE=true∧TF=true):=by
     cases TR <;> cases TN <;> cases TE <;> cases TF <;> simp
    rcases HC with h | ⟨h,g⟩ | ⟨h,g,f⟩ | ⟨h,g,f,d⟩ | ⟨h,g,f,d⟩
    all_goals
     (try subst h)
     (try subst g)
     (try subst f)
     (try subst d)
     refine wp_region_held_drew (S:=(fun u=>u.cell? ⟨pb,1,none⟩=some (.string (str x.reg))∧u.cell? ⟨pb,2,none⟩=some (.string (str x.name))∧u.cell? ⟨pb,3,none⟩=some (.slice A1 x.e.length c1)∧u.cell? ⟨pb,4,none⟩=some (.slice A2 x.f.length c2))) (by kernel_rfl) (HS.out _ (qdr (Below.refl _ _))) (fun hHeld=>?_)
     first
      | (refine wpAnyH_take (i:=0) (v:=?_) rfl (by kernel_rfl) (by kernel_rfl) (by kernel_rfl) (fun _ _ _ h=>h) (Or.inl ⟨by rfl,?_⟩) (by assumption) ?_;rotate_left;(intro w0 hSw;(try dsimp only at hSw);go_simp;(try with_reducible rfl)))
      | (refine wpAnyH_take (i:=0) (v:=undef) rfl (by kernel_rfl) (by kernel_rfl) (by kernel_rfl) (fun _ _ _ h=>h) (Or.inr ⟨by rfl,rfl⟩) (by assumption) ?_)
     (try simp only [Act.put, List.getElem_toArray, List.getElem_cons_zero, List.setIfInBounds_toArray, List.set_cons_zero, List.set_cons_succ])
     first
      | (refine wpAnyH_take (i:=1) (v:=?_) rfl (by kernel_rfl) (by kernel_rfl) (by kernel_rfl) (fun _ _ _ h=>h) (Or.inl ⟨by rfl,?_⟩) (by assumption) ?_;rotate_left;(intro w0 hSw;(try dsimp only at hSw);go_simp;(try with_reducible rfl)))
      | (refine wpAnyH_take (i:=1) (v:=undef) rfl (by kernel_rfl) (by kernel_rfl) (by kernel_rfl) (fun _ _ _ h=>h) (Or.inr ⟨by rfl,rfl⟩) (by assumption) ?_)
     (try simp only [Act.put,List.getElem_toArray,List.getElem_cons_succ,List.getElem_cons_zero,List.setIfInBounds_toArray,List.set_cons_zero,List.set_cons_succ])
     first
      | (refine wpAnyH_take (i:=2) (v:=?_) rfl (by kernel_rfl) (by kernel_rfl) (by kernel_rfl) (fun _ _ _ h=>h) (Or.inl ⟨by rfl,?_⟩) (by assumption) ?_;rotate_left;(intro w0 hSw;(try dsimp only at hSw);go_simp;(try with_reducible rfl)))
      | (refine wpAnyH_take (i:=2) (v:=undef) rfl (by kernel_rfl) (by kernel_rfl) (by kernel_rfl) (fun _ _ _ h=>h) (Or.inr ⟨by rfl,rfl⟩) (by assumption) ?_)
     (try simp only [Act.put,List.getElem_toArray,List.getElem_cons_succ,List.getElem_cons_zero,List.setIfInBounds_toArray,List.set_cons_zero,List.set_cons_succ])
     first
      | (refine wpAnyH_take (i:=3) (v:=?_) rfl (by kernel_rfl) (by kernel_rfl) (by kernel_rfl) (fun _ _ _ h=>h) (Or.inl ⟨by rfl,?_⟩) (by assumption) ?_;rotate_left;(intro w0 hSw;(try dsimp only at hSw);go_simp;(try with_reducible rfl)))
      | (refine wpAnyH_take (i:=3) (v:=undef) rfl (by kernel_rfl) (by kernel_rfl) (by kernel_rfl) (fun _ _ _ h=>h) (Or.inr ⟨by rfl,rfl⟩) (by assumption) ?_)
     (try simp only [Act.put,List.getElem_toArray,List.getElem_cons_succ,List.getElem_cons_zero,List.setIfInBounds_toArray,List.set_cons_zero,List.set_cons_succ])
     first
      | (refine wpAnyH_take (i:=4) (v:=?_) rfl (by kernel_rfl) (by kernel_rfl) (by kernel_rfl) (fun _ _ _ h=>h) (Or.inl ⟨by rfl,?_⟩) (by assumption) ?_;rotate_left;(intro w0 hSw;(try dsimp only at hSw);go_simp;(try with_reducible rfl)))
      | (refine wpAnyH_take (i:=4) (v:=undef) rfl (by kernel_rfl) (by kernel_rfl) (by kernel_rfl) (fun _ _ _ h=>h) (Or.inr ⟨by rfl,rfl⟩) (by assumption) ?_)
     (try simp only [Act.put,List.getElem_toArray,List.getElem_cons_succ,List.getElem_cons_zero,List.setIfInBounds_toArray,List.set_cons_zero,List.set_cons_succ])
     first
      | (refine wpAnyH_take (i:=6) (v:=?_) rfl (by kernel_rfl) (by kernel_rfl) (by kernel_rfl) (fun _ _ _ h=>h) (Or.inl ⟨by rfl,?_⟩) (by assumption) ?_;rotate_left;(intro w0 hSw;(try dsimp only at hSw);go_simp;(try with_reducible rfl)))
      | (refine wpAnyH_take (i:=6) (v:=undef) rfl (by kernel_rfl) (by kernel_rfl) (by kernel_rfl) (fun _ _ _ h=>h) (Or.inr ⟨by rfl,rfl⟩) (by assumption) ?_)
     (try simp only [Act.put,List.getElem_toArray,List.getElem_cons_succ,List.getElem_cons_zero,List.setIfInBounds_toArray,List.set_cons_zero,List.set_cons_succ])
     first
      | (refine wpAnyH_take (i:=7) (v:=?_) rfl (by kernel_rfl) (by kernel_rfl) (by kernel_rfl) (fun _ _ _ h=>h) (Or.inl ⟨by rfl,?_⟩) (by assumption) ?_;rotate_left;(intro w0 hSw;(try dsimp only at hSw);go_simp;(try with_reducible rfl)))
      | (refine wpAnyH_take (i:=7) (v:=undef) rfl (by kernel_rfl) (by kernel_rfl) (by kernel_rfl) (fun _ _ _ h=>h) (Or.inr ⟨by rfl,rfl⟩) (by assumption) ?_)
     (try simp only [Act.put,List.getElem_toArray,List.getElem_cons_succ,List.getElem_cons_zero,List.setIfInBounds_toArray,List.set_cons_zero,List.set_cons_succ])
     first
      | (refine wpAnyH_take (i:=5) (v:=undef) rfl (by kernel_rfl) (by kernel_rfl) (by kernel_rfl) (fun _ _ _ h=>h) (Or.inr ⟨by rfl,rfl⟩) (by assumption) ?_)
      | (clear hHeld;refine wpAnyH_ready (rs:=[5]) (by kernel_rfl) (by simp) ?_;refine AllReadyH.cons rfl (fun K hK=>?_) AllReadyH.nil;go_simp;go_at_call 55;(with_reducible refine (HKR.out _ (blq)).mono ?_);rintro e wR ⟨rfl,rfl⟩;dsimp only;refine hK.out _ _ (HS.out _ (blq)) (fun hHeld=>?_);clear hK K)
     (try simp only [Act.put,List.getElem_toArray,List.getElem_cons_succ,List.getElem_cons_zero,List.setIfInBounds_toArray,List.set_cons_zero,List.set_cons_succ])
     first
      | (refine wpAnyH_take (i:=8) (v:=undef) rfl (by kernel_rfl) (by kernel_rfl) (by kernel_rfl) (fun _ _ _ h=>h) (Or.inr ⟨by rfl,rfl⟩) (by assumption) ?_)
      | (clear hHeld;refine wpAnyH_ready (rs:=[8]) (by kernel_rfl) (by simp) ?_;refine AllReadyH.cons rfl (fun K hK=>?_) AllReadyH.nil;go_simp;go_at_call 57;(with_reducible refine (HTR.out _ (blq)).mono ?_);rintro e v1 ⟨rfl,hbv⟩;have h1:Below Y.heap.size Y v1:=bt (blq) hbv;clear hbv;dsimp only;refine hK.out _ _ (HS.out _ (blq)) (fun hHeld=>?_);clear hK K)
     (try simp only [Act.put,List.getElem_toArray,List.getElem_cons_succ,List.getElem_cons_zero,List.setIfInBounds_toArray,List.set_cons_zero,List.set_cons_succ])
     first
      | (refine wpAnyH_take (i:=9) (v:=?_) rfl (by kernel_rfl) (by kernel_rfl) (by kernel_rfl) (fun _ _ _ h=>h) (Or.inl ⟨by rfl,?_⟩) (by assumption) ?_;rotate_left;(intro w0 hSw;(try dsimp only at hSw);go_simp;(try with_reducible rfl)))
      | (refine wpAnyH_take (i:=9) (v:=undef) rfl (by kernel_rfl) (by kernel_rfl) (by kernel_rfl) (fun _ _ _ h=>h) (Or.inr ⟨by rfl,rfl⟩) (by assumption) ?_)
     (try simp only [Act.put,List.getElem_toArray,List.getElem_cons_succ,List.getElem_cons_zero,List.setIfInBounds_toArray,List.set_cons_zero,List.set_cons_succ])
     first
      | (refine wpAnyH_take (i:=10) (v:=?_) rfl (by kernel_rfl) (by kernel_rfl) (by kernel_rfl) (fun _ _ _ h=>h) (Or.inl ⟨by rfl,?_⟩) (by assumption) ?_;rotate_left;(intro w0 hSw;(try dsimp only at hSw);go_simp;(try with_reducible rfl)))
      | (refine wpAnyH_take (i:=10) (v:=undef) rfl (by kernel_rfl) (by kernel_rfl) (by kernel_rfl) (fun _ _ _ h=>h) (Or.inr ⟨by rfl,rfl⟩) (by assumption) ?_)
     (try simp only [Act.put,List.getElem_toArray,List.getElem_cons_succ,List.getElem_cons_zero,List.setIfInBounds_toArray,List.set_cons_zero,List.set_cons_succ])
     first
      | (refine wpAnyH_take (i:=11) (v:=?_) rfl (by kernel_rfl) (by kernel_rfl) (by kernel_rfl) (fun _ _ _ h=>h) (Or.inl ⟨by rfl,?_⟩) (by assumption) ?_;rotate_left;(intro w0 hSw;(try dsimp only at hSw);go_simp;(try with_reducible rfl)))
      | (refine wpAnyH_take (i:=11) (v:=undef) rfl (by kernel_rfl) (by kernel_rfl) (by kernel_rfl) (fun _ _ _ h=>h) (Or.inr ⟨by rfl,rfl⟩) (by assumption) ?_)
     (try simp only [Act.put,List.getElem_toArray,List.getElem_cons_succ,List.getElem_cons_zero,List.setIfInBounds_toArray,List.set_cons_zero,List.set_cons_succ])
     first
      | (refine wpAnyH_take (i:=12) (v:=?_) rfl (by kernel_rfl) (by kernel_rfl) (by kernel_rfl) (fun _ _ _ h=>h) (Or.inl ⟨by rfl,?_⟩) (by assumption) ?_;rotate_left;(intro w0 hSw;(try dsimp only at hSw);go_simp;(try with_reducible rfl)))
      | (refine wpAnyH_take (i:=12) (v:=undef) rfl (by kernel_rfl) (by kernel_rfl) (by kernel_rfl) (fun _ _ _ h=>h) (Or.inr ⟨by rfl,rfl⟩) (by assumption) ?_)
     (try simp only [Act.put,List.getElem_toArray,List.getElem_cons_succ,List.getElem_cons_zero,List.setIfInBounds_toArray,List.set_cons_zero,List.set_cons_succ])
     first
      | (refine wpAnyH_take (i:=13) (v:=?_) rfl (by kernel_rfl) (by kernel_rfl) (by kernel_rfl) (fun _ _ _ h=>h) (Or.inl ⟨by rfl,?_⟩) (by assumption) ?_;rotate_left;(intro w0 hSw;(try dsimp only at hSw);go_simp;(try with_reducible rfl)))
      | (refine wpAnyH_take (i:=13) (v:=undef) rfl (by kernel_rfl) (by kernel_rfl) (by kernel_rfl) (fun _ _ _ h=>h) (Or.inr ⟨by rfl,rfl⟩) (by assumption) ?_)
     (try simp only [Act.put,List.getElem_toArray,List.getElem_cons_succ,List.getElem_cons_zero,List.setIfInBounds_toArray,List.set_cons_zero,List.set_cons_succ])
     first
      | (refine wpAnyH_take (i:=15) (v:=?_) rfl (by kernel_rfl) (by kernel_rfl) (by kernel_rfl) (fun _ _ _ h=>h) (Or.inl ⟨by rfl,?_⟩) (by assumption) ?_;rotate_left;(intro w0 hSw;(try dsimp only at hSw);go_simp;(try with_reducible rfl)))
      | (refine wpAnyH_take (i:=15) (v:=undef) rfl (by kernel_rfl) (by kernel_rfl) (by kernel_rfl) (fun _ _ _ h=>h) (Or.inr ⟨by rfl,rfl⟩) (by assumption) ?_)
     (try simp only [Act.put,List.getElem_toArray,List.getElem_cons_succ,List.getElem_cons_zero,List.setIfInBounds_toArray,List.set_cons_zero,List.set_cons_succ])
     first
      | (refine wpAnyH_take (i:=16) (v:=?_) rfl (by kernel_rfl) (by kernel_rfl) (by kernel_rfl) (fun _ _ _ h=>h) (Or.inl ⟨by rfl,?_⟩) (by assumption) ?_;rotate_left;(intro w0 hSw;(try dsimp only at hSw);go_simp;(try with_reducible rfl)))
      | (refine wpAnyH_take (i:=16) (v:=undef) rfl (by kernel_rfl) (by kernel_rfl) (by kernel_rfl) (fun _ _ _ h=>h) (Or.inr ⟨by rfl,rfl⟩) (by assumption) ?_)
     (try simp only [Act.put,List.getElem_toArray,List.getElem_cons_succ,List.getElem_cons_zero,List.setIfInBounds_toArray,List.set_cons_zero,List.set_cons_succ])
     first
      | (refine wpAnyH_take (i:=14) (v:=undef) rfl (by kernel_rfl) (by kernel_rfl) (by kernel_rfl) (fun _ _ _ h=>h) (Or.inr ⟨by rfl,rfl⟩) (by assumption) ?_)
      | (clear hHeld;refine wpAnyH_ready (rs:=[14]) (by kernel_rfl) (by simp) ?_;refine AllReadyH.cons rfl (fun K hK=>?_) AllReadyH.nil;go_simp;go_at_call 55;(with_reducible refine (HKN.out _ (blq)).mono ?_);rintro e wN ⟨rfl,rfl⟩;dsimp only;refine hK.out _ _ (HS.out _ (blq)) (fun hHeld=>?_);clear hK K)
     (try simp only [Act.put,List.getElem_toArray,List.getElem_cons_succ,List.getElem_cons_zero,List.setIfInBounds_toArray,List.set_cons_zero,List.set_cons_succ])
     first
      | (refine wpAnyH_take (i:=17) (v:=undef) rfl (by kernel_rfl) (by kernel_rfl) (by kernel_rfl) (fun _ _ _ h=>h) (Or.inr ⟨by rfl,rfl⟩) (by assumption) ?_)
      | (clear hHeld;refine wpAnyH_ready (rs:=[17]) (by kernel_rfl) (by simp) ?_;refine AllReadyH.cons rfl (fun K hK=>?_) AllReadyH.nil;go_simp;go_at_call 57;(with_reducible refine (HTN.out _ (blq)).mono ?_);rintro e v2 ⟨rfl,hbv⟩;have h2:Below Y.heap.size Y v2:=bt (blq) hbv;clear hbv;dsimp only;refine hK.out _ _ (HS.out _ (blq)) (fun hHeld=>?_);clear hK K)
     (try simp only [Act.put,List.getElem_toArray,List.getElem_cons_succ,List.getElem_cons_zero,List.setIfInBounds_toArray,List.set_cons_zero,List.set_cons_succ])
     first
      | (refine wpAnyH_take (i:=18) (v:=?_) rfl (by kernel_rfl) (by kernel_rfl) (by kernel_rfl) (fun _ _ _ h=>h) (Or.inl ⟨by rfl,?_⟩) (by assumption) ?_;rotate_left;(intro w0 hSw;(try dsimp only at hSw);go_simp;(try with_reducible rfl)))
      | (refine wpAnyH_take (i:=18) (v:=undef) rfl (by kernel_rfl) (by kernel_rfl) (by kernel_rfl) (fun _ _ _ h=>h) (Or.inr ⟨by rfl,rfl⟩) (by assumption) ?_)
     (try simp only [Act.put,List.getElem_toArray,List.getElem_cons_succ,List.getElem_cons_zero,List.setIfInBounds_toArray,List.set_cons_zero,List.set_cons_succ])
     first
      | (refine wpAnyH_take (i:=19) (v:=?_) rfl (by kernel_rfl) (by kernel_rfl) (by kernel_rfl) (fun _ _ _ h=>h) (Or.inl ⟨by rfl,?_⟩) (by assumption) ?_;rotate_left;(intro w0 hSw;(try dsimp only at hSw);go_simp;(try with_reducible rfl)))
      | (refine wpAnyH_take (i:=19) (v:=undef) rfl (by kernel_rfl) (by kernel_rfl) (by kernel_rfl) (fun _ _ _ h=>h) (Or.inr ⟨by rfl,rfl⟩) (by assumption) ?_)
     (try simp only [Act.put,List.getElem_toArray,List.getElem_cons_succ,List.getElem_cons_zero,List.setIfInBounds_toArray,List.set_cons_zero,List.set_cons_succ])
     first
      | (refine wpAnyH_take (i:=20) (v:=?_) rfl (by kernel_rfl) (by kernel_rfl) (by kernel_rfl) (fun _ _ _ h=>h) (Or.inl ⟨by rfl,?_⟩) (by assumption) ?_;rotate_left;(intro w0 hSw;(try dsimp only at hSw);go_simp;(try with_reducible rfl)))
      | (refine wpAnyH_take (i:=20) (v:=undef) rfl (by kernel_rfl) (by kernel_rfl) (by kernel_rfl) (fun _ _ _ h=>h) (Or.inr ⟨by rfl,rfl⟩) (by assumption) ?_)
     (try simp only [Act.put,List.getElem_toArray,List.getElem_cons_succ,List.getElem_cons_zero,List.setIfInBounds_toArray,List.set_cons_zero,List.set_cons_succ])
     first
      | (refine wpAnyH_take (i:=21) (v:=?_) rfl (by kernel_rfl) (by kernel_rfl) (by kernel_rfl) (fun _ _ _ h=>h) (Or.inl ⟨by rfl,?_⟩) (by assumption) ?_;rotate_left;(intro w0 hSw;(try dsimp only at hSw);go_simp;(try with_reducible rfl)))
      | (refine wpAnyH_take (i:=21) (v:=undef) rfl (by kernel_rfl) (by kernel_rfl) (by kernel_rfl) (fun _ _ _ h=>h) (Or.inr ⟨by rfl,rfl⟩) (by assumption) ?_)
     (try simp only [Act.put,List.getElem_toArray,List.getElem_cons_succ,List.getElem_cons_zero,List.setIfInBounds_toArray,List.set_cons_zero,List.set_cons_succ])
     first
      | (refine wpAnyH_take (i:=22) (v:=?_) rfl (by kernel_rfl) (by kernel_rfl) (by kernel_rfl) (fun _ _ _ h=>h) (Or.inl ⟨by rfl,?_⟩) (by assumption) ?_;rotate_left;(intro w0 hSw;(try dsimp only at hSw);go_simp;(try with_reducible rfl)))
      | (refine wpAnyH_take (i:=22) (v:=undef) rfl (by kernel_rfl) (by kernel_rfl) (by kernel_rfl) (fun _ _ _ h=>h) (Or.inr ⟨by rfl,rfl⟩) (by assumption) ?_)
     (try simp only [Act.put,List.getElem_toArray,List.getElem_cons_succ,List.getElem_cons_zero,List.setIfInBounds_toArray,List.set_cons_zero,List.set_cons_succ])
     first
      | (refine wpAnyH_take (i:=24) (v:=?_) rfl (by kernel_rfl) (by kernel_rfl) (by kernel_rfl) (fun _ _ _ h=>h) (Or.inl ⟨by rfl,?_⟩) (by assumption) ?_;rotate_left;(intro w0 hSw;(try dsimp only at hSw);go_simp;(try with_reducible rfl)))
      | (refine wpAnyH_take (i:=24) (v:=undef) rfl (by kernel_rfl) (by kernel_rfl) (by kernel_rfl) (fun _ _ _ h=>h) (Or.inr ⟨by rfl,rfl⟩) (by assumption) ?_)
     (try simp only [Act.put,List.getElem_toArray,List.getElem_cons_succ,List.getElem_cons_zero,List.setIfInBounds_toArray,List.set_cons_zero,List.set_cons_succ])
     first
      | (refine wpAnyH_take (i:=25) (v:=?_) rfl (by kernel_rfl) (by kernel_rfl) (by kernel_rfl) (fun _ _ _ h=>h) (Or.inl ⟨by rfl,?_⟩) (by assumption) ?_;rotate_left;(intro w0 hSw;(try dsimp only at hSw);go_simp;(try with_reducible rfl)))
      | (refine wpAnyH_take (i:=25) (v:=undef) rfl (by kernel_rfl) (by kernel_rfl) (by kernel_rfl) (fun _ _ _ h=>h) (Or.inr ⟨by rfl,rfl⟩) (by assumption) ?_)
     (try simp only [Act.put,List.getElem_toArray,List.getElem_cons_succ,List.getElem_cons_zero,List.setIfInBounds_toArray,List.set_cons_zero,List.set_cons_succ])
     first
      | (refine wpAnyH_take (i:=23) (v:=undef) rfl (by kernel_rfl) (by kernel_rfl) (by kernel_rfl) (fun _ _ _ h=>h) (Or.inr ⟨by rfl,rfl⟩) (by assumption) ?_)
      | (clear hHeld;refine wpAnyH_ready (rs:=[23]) (by kernel_rfl) (by simp) ?_;refine AllReadyH.cons rfl (fun K hK=>?_) AllReadyH.nil;go_simp;go_at_call 55;(with_reducible refine (HKE.out _ (blq)).mono ?_);rintro e wE ⟨rfl,rfl⟩;dsimp only;refine hK.out _ _ (HS.out _ (blq)) (fun hHeld=>?_);clear hK K)
     (try simp only [Act.put,List.getElem_toArray,List.getElem_cons_succ,List.getElem_cons_zero,List.setIfInBounds_toArray,List.set_cons_zero,List.set_cons_succ])
     first
      | (refine wpAnyH_take (i:=26) (v:=undef) rfl (by kernel_rfl) (by kernel_rfl) (by kernel_rfl) (fun _ _ _ h=>h) (Or.inr ⟨by rfl,rfl⟩) (by assumption) ?_)
      | (clear hHeld;refine wpAnyH_ready (rs:=[26]) (by kernel_rfl) (by simp) ?_;refine AllReadyH.cons rfl (fun K hK=>?_) AllReadyH.nil;go_simp;go_at_call 59;(with_reducible refine (HTE.out _ (blq)).mono ?_);rintro e v3 ⟨rfl,hbv⟩;have h3:Below Y.heap.size Y v3:=bt (blq) hbv;clear hbv;dsimp only;refine hK.out _ _ (HS.out _ (blq)) (fun hHeld=>?_);clear hK K)
     (try simp only [Act.put,List.getElem_toArray,List.getElem_cons_succ,List.getElem_cons_zero,List.setIfInBounds_toArray,List.set_cons_zero,List.set_cons_succ])
     first
      | (refine wpAnyH_take (i:=27) (v:=?_) rfl (by kernel_rfl) (by kernel_rfl) (by kernel_rfl) (fun _ _ _ h=>h) (Or.inl ⟨by rfl,?_⟩) (by assumption) ?_;rotate_left;(intro w0 hSw;(try dsimp only at hSw);go_simp;(try with_reducible rfl)))
      | (refine wpAnyH_take (i:=27) (v:=undef) rfl (by kernel_rfl) (by kernel_rfl) (by kernel_rfl) (fun _ _ _ h=>h) (Or.inr ⟨by rfl,rfl⟩) (by assumption) ?_)
     (try simp only [Act.put,List.getElem_toArray,List.getElem_cons_succ,List.getElem_cons_zero,List.setIfInBounds_toArray,List.set_cons_zero,List.set_cons_succ])
     first
      | (refine wpAnyH_take (i:=28) (v:=?_) rfl (by kernel_rfl) (by kernel_rfl) (by kernel_rfl) (fun _ _ _ h=>h) (Or.inl ⟨by rfl,?_⟩) (by assumption) ?_;rotate_left;(intro w0 hSw;(try dsimp only at hSw);go_simp;(try with_reducible rfl)))
      | (refine wpAnyH_take (i:=28) (v:=undef) rfl (by kernel_rfl) (by kernel_rfl) (by kernel_rfl) (fun _ _ _ h=>h) (Or.inr ⟨by rfl,rfl⟩) (by assumption) ?_)
     (try simp only [Act.put,List.getElem_toArray,List.getElem_cons_succ,List.getElem_cons_zero,List.setIfInBounds_toArray,List.set_cons_zero,List.set_cons_succ])
     first
      | (refine wpAnyH_take (i:=29) (v:=?_) rfl (by kernel_rfl) (by kernel_rfl) (by kernel_rfl) (fun _ _ _ h=>h) (Or.inl ⟨by rfl,?_⟩) (by assumption) ?_;rotate_left;(intro w0 hSw;(try dsimp only at hSw);go_simp;(try with_reducible rfl)))
      | (refine wpAnyH_take (i:=29) (v:=undef) rfl (by kernel_rfl) (by kernel_rfl) (by kernel_rfl) (fun _ _ _ h=>h) (Or.inr ⟨by rfl,rfl⟩) (by assumption) ?_)
     (try simp only [Act.put,List.getElem_toArray,List.getElem_cons_succ,List.getElem_cons_zero,List.setIfInBounds_toArray,List.set_cons_zero,List.set_cons_succ])
     first
      | (refine wpAnyH_take (i:=30) (v:=?_) rfl (by kernel_rfl) (by kernel_rfl) (by kernel_rfl) (fun _ _ _ h=>h) (Or.inl ⟨by rfl,?_⟩) (by assumption) ?_;rotate_left;(intro w0 hSw;(try dsimp only at hSw);go_simp;(try with_reducible rfl)))
      | (refine wpAnyH_take (i:=30) (v:=undef) rfl (by kernel_rfl) (by kernel_rfl) (by kernel_rfl) (fun _ _ _ h=>h) (Or.inr ⟨by rfl,rfl⟩) (by assumption) ?_)
     (try simp only [Act.put,List.getElem_toArray,List.getElem_cons_succ,List.getElem_cons_zero,List.setIfInBounds_toArray,List.set_cons_zero,List.set_cons_succ])
     first
      | (refine wpAnyH_take (i:=31) (v:=?_) rfl (by kernel_rfl) (by kernel_rfl) (by kernel_rfl) (fun _ _ _ h=>h) (Or.inl ⟨by rfl,?_⟩) (by assumption) ?_;rotate_left;(intro w0 hSw;(try dsimp only at hSw);go_simp;(try with_reducible rfl)))
      | (refine wpAnyH_take (i:=31) (v:=undef) rfl (by kernel_rfl) (by kernel_rfl) (by kernel_rfl) (fun _ _ _ h=>h) (Or.inr ⟨by rfl,rfl⟩) (by assumption) ?_)
     (try simp only [Act.put,List.getElem_toArray,List.getElem_cons_succ,List.getElem_cons_zero,List.setIfInBounds_toArray,List.set_cons_zero,List.set_cons_succ])
     first
      | (refine wpAnyH_take (i:=33) (v:=?_) rfl (by kernel_rfl) (by kernel_rfl) (by kernel_rfl) (fun _ _ _ h=>h) (Or.inl ⟨by rfl,?_⟩) (by assumption) ?_;rotate_left;(intro w0 hSw;(try dsimp only at hSw);go_simp;(try with_reducible rfl)))
      | (refine wpAnyH_take (i:=33) (v:=undef) rfl (by kernel_rfl) (by kernel_rfl) (by kernel_rfl) (fun _ _ _ h=>h) (Or.inr ⟨by rfl,rfl⟩) (by assumption) ?_)
     (try simp only [Act.put,List.getElem_toArray,List.getElem_cons_succ,List.getElem_cons_zero,List.setIfInBounds_toArray,List.set_cons_zero,List.set_cons_succ])
     first
      | (refine wpAnyH_take (i:=34) (v:=?_) rfl (by kernel_rfl) (by kernel_rfl) (by kernel_rfl) (fun _ _ _ h=>h) (Or.inl ⟨by rfl,?_⟩) (by assumption) ?_;rotate_left;(intro w0 hSw;(try dsimp only at hSw);go_simp;(try with_reducible rfl)))
      | (refine wpAnyH_take (i:=34) (v:=undef) rfl (by kernel_rfl) (by kernel_rfl) (by kernel_rfl) (fun _ _ _ h=>h) (Or.inr ⟨by rfl,rfl⟩) (by assumption) ?_)
     (try simp only [Act.put,List.getElem_toArray,List.getElem_cons_succ,List.getElem_cons_zero,List.setIfInBounds_toArray,List.set_cons_zero,List.set_cons_succ])
     first
      | (refine wpAnyH_take (i:=32) (v:=undef) rfl (by kernel_rfl) (by kernel_rfl) (by kernel_rfl) (fun _ _ _ h=>h) (Or.inr ⟨by rfl,rfl⟩) (by assumption) ?_)
      | (clear hHeld;refine wpAnyH_ready (rs:=[32]) (by kernel_rfl) (by simp) ?_;refine AllReadyH.cons rfl (fun K hK=>?_) AllReadyH.nil;go_simp;go_at_call 55;(with_reducible refine (HKF.out _ (blq)).mono ?_);rintro e wF ⟨rfl,rfl⟩;dsimp only;refine hK.out _ _ (HS.out _ (blq)) (fun hHeld=>?_);clear hK K)
     (try simp only [Act.put,List.getElem_toArray,List.getElem_cons_succ,List.getElem_cons_zero,List.setIfInBounds_toArray,List.set_cons_zero,List.set_cons_succ])
     first
      | (refine wpAnyH_take (i:=35) (v:=undef) rfl (by kernel_rfl) (by kernel_rfl) (by kernel_rfl) (fun _ _ _ h=>h) (Or.inr ⟨by rfl,rfl⟩) (by assumption) ?_)
      | (clear hHeld;refine wpAnyH_ready (rs:=[35]) (by kernel_rfl) (by simp) ?_;refine AllReadyH.cons rfl (fun K hK=>?_) AllReadyH.nil;go_simp;go_at_call 59;(with_reducible refine (HTF.out _ (blq)).mono ?_);rintro e v4 ⟨rfl,hbv⟩;have h4:Below Y.heap.size Y v4:=bt (blq) hbv;clear hbv;dsimp only;refine hK.out _ _ (HS.out _ (blq)) (fun hHeld=>?_);clear hK K)
     (try simp only [Act.put,List.getElem_toArray,List.getElem_cons_succ,List.getElem_cons_zero,List.setIfInBounds_toArray,List.set_cons_zero,List.set_cons_succ])
     first
      | (refine wpAnyH_take (i:=36) (v:=?_) rfl (by kernel_rfl) (by kernel_rfl) (by kernel_rfl) (fun _ _ _ h=>h) (Or.inl ⟨by rfl,?_⟩) (by assumption) ?_;rotate_left;(intro w0 hSw;(try dsimp only at hSw);go_simp;(try with_reducible rfl)))
      | (refine wpAnyH_take (i:=36) (v:=undef) rfl (by kernel_rfl) (by kernel_rfl) (by kernel_rfl) (fun _ _ _ h=>h) (Or.inr ⟨by rfl,rfl⟩) (by assumption) ?_)
     (try simp only [Act.put,List.getElem_toArray,List.getElem_cons_succ,List.getElem_cons_zero,List.setIfInBounds_toArray,List.set_cons_zero,List.set_cons_succ])
     first
      | (refine wpAnyH_take (i:=37) (v:=?_) rfl (by kernel_rfl) (by kernel_rfl) (by kernel_rfl) (fun _ _ _ h=>h) (Or.inl ⟨by rfl,?_⟩) (by assumption) ?_;rotate_left;(intro w0 hSw;(try dsimp only at hSw);go_simp;(try with_reducible rfl)))
      | (refine wpAnyH_take (i:=37) (v:=undef) rfl (by kernel_rfl) (by kernel_rfl) (by kernel_rfl) (fun _ _ _ h=>h) (Or.inr ⟨by rfl,rfl⟩) (by assumption) ?_)
     (try simp only [Act.put,List.getElem_toArray,List.getElem_cons_succ,List.getElem_cons_zero,List.setIfInBounds_toArray,List.set_cons_zero,List.set_cons_succ])
     first
      | (refine wpAnyH_take (i:=38) (v:=?_) rfl (by kernel_rfl) (by kernel_rfl) (by kernel_rfl) (fun _ _ _ h=>h) (Or.inl ⟨by rfl,?_⟩) (by assumption) ?_;rotate_left;(intro w0 hSw;(try dsimp only at hSw);go_simp;(try with_reducible rfl)))
      | (refine wpAnyH_take (i:=38) (v:=undef) rfl (by kernel_rfl) (by kernel_rfl) (by kernel_rfl) (fun _ _ _ h=>h) (Or.inr ⟨by rfl,rfl⟩) (by assumption) ?_)
     (try simp only [Act.put,List.getElem_toArray,List.getElem_cons_succ,List.getElem_cons_zero,List.setIfInBounds_toArray,List.set_cons_zero,List.set_cons_succ])
     refine wpAnyH_done (by kernel_rfl) ?_ _
     go_wp2_with fail
     go_ret
     exact ⟨ret_bool (by rw [HEQ.out];rfl),bt HB3.out (by repeat (first | assumption | refine bdrN ?_ _ | refine bdr ?_))⟩
end Go.Proofs.YtaoeaaebafcegaaGreatDoor

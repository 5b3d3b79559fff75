/- Chapter 04 (statements), joined: StrE. -/
import Derived.Test.YtaoeaaebafcegaaGreatDoorPkA16
import Derived.Test.YtaoeaaebafcegaaGreatDoorPkA22
import Derived.Test.YtaoeaaebafcegaaGreatDoorPkA27
import Derived.Deep.Cut
set_option maxRecDepth 100000
set_option maxHeartbeats 6000000
namespace Go.Proofs.YtaoeaaebafcegaaGreatDoor
open Go Go.RowKit
set_option linter.unusedVariables false
theorem fitsS_parts (x:St) (h0:1≤x.kind) (h1:x.kind≤14) (h2:0≤x.pos) (h3:x.pos≤4000):fitsS x=(textB (hasC x 114) x.reg && textB (hasC x 110) x.name && nodesB (hasC x 101) x.e && nodesB (hasC x 102) x.f && (if hasC x 107=true then decide (1≤x.n) && decide (x.n≤8) else x.n == 0)):=by
 unfold fitsS textB nodesB
 rw [decide_eq_true h0,decide_eq_true h1,decide_eq_true h2,decide_eq_true h3]
 simp only [Bool.true_and]
theorem right_nil:rightE [] = false:=by unfold rightE;rw [treeE_none (by decide)]
theorem fitsS_out (x:St) (h:x.kind < 1∨14 < x.kind∨x.pos < 0∨4000 < x.pos):fitsS x=false:=by
 cases hf:fitsS x with
 | false=>rfl
 | true =>
   have:=(fits_iff x).1 hf
   have a:=this.k0;have b:=this.k1;have c:=this.p0;have d:=this.p1
   omega
theorem fits_out (x:St) (ev fv:Value) (w:World) (he:Nods w ev x.e) (hf:Nods w fv x.f) (h:x.kind < 1∨14 < x.kind∨x.pos < 0∨4000 < x.pos) :
 Calls Tryz.prog 33 #[stV x ev fv] w fun e w'=>e = .returned (.bool (fitsS x))∧Below w.heap.size w w':=by
 rw [fitsS_out x h]
 obtain ⟨A1,c1,rfl,_⟩:=Nods.shape he
 obtain ⟨A2,c2,rfl,_⟩:=Nods.shape hf
 clear he hf
 unfold stV
 by_cases a:x.kind < 1
 ·have ha:decide (x.kind < 1)=true:=by simpa using a
  clear h
  go_enter Tryz.func33,Tryz.ntmps33
  go_wp2_with fail
  all_goals
   go_ret
   exact ⟨rfl,al _ _⟩
 ·have ha:decide (x.kind < 1)=false:=by simpa using a
  by_cases b:14 < x.kind
  ·have hb:decide (14 < x.kind)=true:=by simpa using b
   clear h
   go_enter Tryz.func33,Tryz.ntmps33
   go_wp2_with fail
   all_goals
    go_ret
    exact ⟨rfl,al _ _⟩
  ·have hb:decide (14 < x.kind)=false:=by simpa using b
   by_cases c:x.pos < 0
   ·have hc:decide (x.pos < 0)=true:=by simpa using c
    clear h
    go_enter Tryz.func33,Tryz.ntmps33
    go_wp2_with fail
    all_goals
     go_ret
     exact ⟨rfl,al _ _⟩
   ·have hc:decide (x.pos < 0)=false:=by simpa using c
    have hd:decide (4000 < x.pos)=true:=by simp;omega
    clear h
    go_enter Tryz.func33,Tryz.ntmps33
    go_wp2_with fail
    all_goals
     go_ret
     exact ⟨rfl,al _ _⟩
theorem fits_in (x : St) (ev fv : Value) (w : World) (hrl : x.reg.length ≤ 1000000) (hnl : x.name.length ≤ 1000000) (hel : x.e.length ≤ 100000) (hfl : x.f.length ≤ 100000) (hen : ∀ y ∈ x.e, y.name.length ≤ 1000000) (hfn : ∀ y ∈ x.f, y.name.length ≤ 1000000) (he : Nods w ev x.e) (hf : Nods w fv x.f) (h0 : 1 ≤ x.kind) (h1 : x.kind ≤ 14) (h2 : 0 ≤ x.pos) (h3 : x.pos ≤ 4000) :
    Calls Tryz.prog 33 #[stV x ev fv] w fun e w' => e = .returned (.bool (fitsS x)) ∧ Below w.heap.size w w' := by
  have hFP := fitsS_parts x h0 h1 h2 h3
  obtain ⟨k, hk⟩ : ∃ k : Nat, x.kind = (k : Int) := ⟨x.kind.toNat, by omega⟩
  have hkt : x.kind.toNat = k := by omega
  obtain ⟨S1, HS1⟩ : ∃ S1, Hid (str (hasS k) = S1) := ⟨_, rfl⟩
  have HHAS : Hid (∀ u, Calls Tryz.prog 23 #[.int .i64 x.kind] u fun e w' => e = .returned (.string S1) ∧ Below u.heap.size u w') := fun u => by rw [hk, ← HS1.out]; exact rhas_in k (by omega) (by omega) u
  have hl15 : (hasS k).length ≤ 1000 := by
    have : ∀ k, k < 15 → (hasS k).length ≤ 1000 := by decide
    exact this k (by omega)
  obtain ⟨bR, HbR⟩ : ∃ b, hasC x 114 = b := ⟨_, rfl⟩
  have HAbR : Hid (∀ u, Calls Tryz.prog 62 #[.string S1, .int .u8 114] u fun e w' => e = .returned (.bool bR) ∧ u = w') := fun u => by
    rw [← HS1.out, ← HbR]
    unfold hasC
    rw [hkt]
    exact among_c (hasS k) hl15 114 u
  obtain ⟨bN, HbN⟩ : ∃ b, hasC x 110 = b := ⟨_, rfl⟩
  have HAbN : Hid (∀ u, Calls Tryz.prog 62 #[.string S1, .int .u8 110] u fun e w' => e = .returned (.bool bN) ∧ u = w') := fun u => by
    rw [← HS1.out, ← HbN]
    unfold hasC
    rw [hkt]
    exact among_c (hasS k) hl15 110 u
  obtain ⟨bE, HbE⟩ : ∃ b, hasC x 101 = b := ⟨_, rfl⟩
  have HAbE : Hid (∀ u, Calls Tryz.prog 62 #[.string S1, .int .u8 101] u fun e w' => e = .returned (.bool bE) ∧ u = w') := fun u => by
    rw [← HS1.out, ← HbE]
    unfold hasC
    rw [hkt]
    exact among_c (hasS k) hl15 101 u
  obtain ⟨bF, HbF⟩ : ∃ b, hasC x 102 = b := ⟨_, rfl⟩
  have HAbF : Hid (∀ u, Calls Tryz.prog 62 #[.string S1, .int .u8 102] u fun e w' => e = .returned (.bool bF) ∧ u = w') := fun u => by
    rw [← HS1.out, ← HbF]
    unfold hasC
    rw [hkt]
    exact among_c (hasS k) hl15 102 u
  obtain ⟨bK, HbK⟩ : ∃ b, hasC x 107 = b := ⟨_, rfl⟩
  have HAbK : Hid (∀ u, Calls Tryz.prog 62 #[.string S1, .int .u8 107] u fun e w' => e = .returned (.bool bK) ∧ u = w') := fun u => by
    rw [← HS1.out, ← HbK]
    unfold hasC
    rw [hkt]
    exact among_c (hasS k) hl15 107 u
  have HN1 : Hid (∀ u, Calls Tryz.prog 63 #[.string (str x.reg)] u fun e w' => e = .returned (.bool (nameE x.reg)) ∧ Below u.heap.size u w') := fun u => rname_c x.reg hrl u
  have HN2 : Hid (∀ u, Calls Tryz.prog 63 #[.string (str x.name)] u fun e w' => e = .returned (.bool (nameE x.name)) ∧ Below u.heap.size u w') := fun u => rname_c x.name hnl u
  have HR1 : Hid (∀ u, Below w.heap.size w u → Calls Tryz.prog 64 #[ev] u fun e w' => e = .returned (.bool (rightE x.e)) ∧ Below u.heap.size u w') := fun u hu => rRight_c x.e hel hen ev u (SlN.below he hu)
  have HR2 : Hid (∀ u, Below w.heap.size w u → Calls Tryz.prog 64 #[fv] u fun e w' => e = .returned (.bool (rightE x.f)) ∧ Below u.heap.size u w') := fun u hu => rRight_c x.f hfl hfn fv u (SlN.below hf hu)
  rw [HbR, HbN, HbE, HbF, HbK] at hFP
  obtain ⟨T5, hT5⟩ : ∃ T5, (!(textB bR x.reg && textB bN x.name)) = T5 := ⟨_, rfl⟩
  obtain ⟨T7, hT7⟩ : ∃ T7, (!(nodesB bE x.e && nodesB bF x.f)) = T7 := ⟨_, rfl⟩
  have HT5 := Lib.hid hT5
  have HT7 := Lib.hid hT7
  have HFP := Lib.hid hFP
  obtain ⟨A1, c1, rfl, _⟩ := Nods.shape he
  obtain ⟨A2, c2, rfl, _⟩ := Nods.shape hf
  have q0 : decide (x.kind < 1) = false := by simp; omega
  have q1 : decide (14 < x.kind) = false := by simp; omega
  have q2 : decide (x.pos < 0) = false := by simp; omega
  have q3 : decide (4000 < x.pos) = false := by simp; omega
  obtain ⟨F, HF⟩ : ∃ F, Hid (fitsS x = F) := ⟨_, rfl⟩
  rw [HF.out]
  have HSB : Hid (SB (w.alloc (.cells #[.int .i64 x.kind, .string (str x.reg), .string (str x.name), .slice A1 x.e.length c1, .slice A2 x.f.length c2, .int .i64 x.n, .int .i64 x.body, .int .i64 x.els, .int .i64 x.pos] 31)) w.heap.size x (.slice A1 x.e.length c1) (.slice A2 x.f.length c2)) := sb_new w x _ _
  have HRE : Hid (nodesB false x.e = !decide (0 < x.e.length)) := by show _ = _; unfold nodesB; cases x.e <;> simp
  have HRF : Hid (nodesB false x.f = !decide (0 < x.f.length)) := by show _ = _; unfold nodesB; cases x.f <;> simp
  clear hFP hkt hl15 HbR HbN HbE HbF HbK hT5 hT7 he hf hrl hnl hel hfl hen hfn hk h0 h1 h2 h3 HS1
  unfold stV
  go_enter Tryz.func33, Tryz.ntmps33
  go_upto_region 4 with (go_at_call 23; (with_reducible refine (HHAS.out _).mono ?_); rintro r w3 ⟨rfl, hb3⟩)
  have HS3 := Lib.hid (HSB.out.below hb3)
  have HB3 := Lib.hid (bt (al w _) hb3)
  clear hb3 HSB HHAS
  obtain ⟨pb, HPB⟩ : ∃ pb, Hid (w.heap.size = pb) := ⟨_, rfl⟩
  rw [HPB.out] at HS3 ⊢
  obtain ⟨sl, s0, s1, s2, s3, s4, s5, s6, s7, s8, sfr⟩ := HS3.out
  go_upto_region 5 with (first
    | (go_at_call 62; (with_reducible refine (HAbR.out _).mono ?_); rintro r w9 ⟨rfl, rfl⟩)
    | (go_at_call 62; (with_reducible refine (HAbN.out _).mono ?_); rintro r w9 ⟨rfl, rfl⟩)
    | (go_at_call 62; (with_reducible refine (HAbE.out _).mono ?_); rintro r w9 ⟨rfl, rfl⟩)
    | (go_at_call 62; (with_reducible refine (HAbF.out _).mono ?_); rintro r w9 ⟨rfl, rfl⟩))
  go_cut [66] (fun s wx => s = .bool T5 ∧ Below w3.heap.size w3 wx)
  case first =>
    have HLT : Hid (pb < w3.heap.size) := sl
    cases bR
    · cases hn_bR : nameE x.reg
      · rw [hn_bR] at HN1
        cases he_bR : (str x.reg).toList.isEmpty
        · have hq_bR : ¬ x.reg = [] := fun e => by rw [str_toList, e] at he_bR; exact absurd he_bR (by decide)
          have hr_bR : ¬ (str x.reg).toList = [] := by rw [str_toList]; exact hq_bR
          have HV5 : Hid (T5 = true) := by
            show _ = _
            rw [← HT5.out]
            (first | have gq1 := HQ_bR.out | skip)
            (first | have gq2 := HQ_bN.out | skip)
            (first | have gq3 := HQ_bE.out | skip)
            (first | have gq4 := HQ_bF.out | skip)
            simp [textB, *]
          go_wp2_with (first | (go_at_call 63; (with_reducible refine (HN1.out _).mono ?_); rintro e w4 ⟨rfl, hb4⟩; have hc2 := hb4.cell (p := ⟨pb, 2, none⟩) HLT.out; have hc1 := hb4.cell (p := ⟨pb, 1, none⟩) HLT.out) | (go_at_call 63; (with_reducible refine (HN2.out _).mono ?_); rintro e w5 ⟨rfl, hb5⟩; have hc3 := hb5.cell (p := ⟨pb, 2, none⟩) (Nat.lt_of_lt_of_le HLT.out hb4.size)))
          all_goals
            go_meet
            exact ⟨by rw [HV5.out], by first | exact bt hb4 hb5 | exact hb4⟩
        · have hr_bR : (str x.reg).toList = [] := by simpa using he_bR
          have HQ_bR : Hid (x.reg = []) := by rw [str_toList] at hr_bR; exact hr_bR
          cases bN
          · cases hn_bN : nameE x.name
            · rw [hn_bN] at HN2
              cases he_bN : (str x.name).toList.isEmpty
              · have hq_bN : ¬ x.name = [] := fun e => by rw [str_toList, e] at he_bN; exact absurd he_bN (by decide)
                have hr_bN : ¬ (str x.name).toList = [] := by rw [str_toList]; exact hq_bN
                have HV5 : Hid (T5 = true) := by
                  show _ = _
                  rw [← HT5.out]
                  (first | have gq1 := HQ_bR.out | skip)
                  (first | have gq2 := HQ_bN.out | skip)
                  (first | have gq3 := HQ_bE.out | skip)
                  (first | have gq4 := HQ_bF.out | skip)
                  simp [textB, *]
                go_wp2_with (first | (go_at_call 63; (with_reducible refine (HN1.out _).mono ?_); rintro e w4 ⟨rfl, hb4⟩; have hc2 := hb4.cell (p := ⟨pb, 2, none⟩) HLT.out; have hc1 := hb4.cell (p := ⟨pb, 1, none⟩) HLT.out) | (go_at_call 63; (with_reducible refine (HN2.out _).mono ?_); rintro e w5 ⟨rfl, hb5⟩; have hc3 := hb5.cell (p := ⟨pb, 2, none⟩) (Nat.lt_of_lt_of_le HLT.out hb4.size)))
                all_goals
                  go_meet
                  exact ⟨by rw [HV5.out], by first | exact bt hb4 hb5 | exact hb4⟩
              · have hr_bN : (str x.name).toList = [] := by simpa using he_bN
                have HQ_bN : Hid (x.name = []) := by rw [str_toList] at hr_bN; exact hr_bN
                have HV5 : Hid (T5 = false) := by
                  show _ = _
                  rw [← HT5.out]
                  (first | have gq1 := HQ_bR.out | skip)
                  (first | have gq2 := HQ_bN.out | skip)
                  (first | have gq3 := HQ_bE.out | skip)
                  (first | have gq4 := HQ_bF.out | skip)
                  simp [textB, *]
                go_wp2_with (first | (go_at_call 63; (with_reducible refine (HN1.out _).mono ?_); rintro e w4 ⟨rfl, hb4⟩; have hc2 := hb4.cell (p := ⟨pb, 2, none⟩) HLT.out; have hc1 := hb4.cell (p := ⟨pb, 1, none⟩) HLT.out) | (go_at_call 63; (with_reducible refine (HN2.out _).mono ?_); rintro e w5 ⟨rfl, hb5⟩; have hc3 := hb5.cell (p := ⟨pb, 2, none⟩) (Nat.lt_of_lt_of_le HLT.out hb4.size)))
                all_goals
                  go_meet
                  exact ⟨by rw [HV5.out], by first | exact bt hb4 hb5 | exact hb4⟩
            · rw [hn_bN] at HN2
              have hq_bN : ¬ x.name = [] := fun e => by rw [e] at hn_bN; exact absurd hn_bN (by decide)
              have HV5 : Hid (T5 = true) := by
                show _ = _
                rw [← HT5.out]
                (first | have gq1 := HQ_bR.out | skip)
                (first | have gq2 := HQ_bN.out | skip)
                (first | have gq3 := HQ_bE.out | skip)
                (first | have gq4 := HQ_bF.out | skip)
                simp [textB, *]
              go_wp2_with (first | (go_at_call 63; (with_reducible refine (HN1.out _).mono ?_); rintro e w4 ⟨rfl, hb4⟩; have hc2 := hb4.cell (p := ⟨pb, 2, none⟩) HLT.out; have hc1 := hb4.cell (p := ⟨pb, 1, none⟩) HLT.out) | (go_at_call 63; (with_reducible refine (HN2.out _).mono ?_); rintro e w5 ⟨rfl, hb5⟩; have hc3 := hb5.cell (p := ⟨pb, 2, none⟩) (Nat.lt_of_lt_of_le HLT.out hb4.size)))
              all_goals
                go_meet
                exact ⟨by rw [HV5.out], by first | exact bt hb4 hb5 | exact hb4⟩
          · cases hn_bN : nameE x.name
            · rw [hn_bN] at HN2
              have HV5 : Hid (T5 = true) := by
                show _ = _
                rw [← HT5.out]
                (first | have gq1 := HQ_bR.out | skip)
                (first | have gq2 := HQ_bN.out | skip)
                (first | have gq3 := HQ_bE.out | skip)
                (first | have gq4 := HQ_bF.out | skip)
                simp [textB, *]
              go_wp2_with (first | (go_at_call 63; (with_reducible refine (HN1.out _).mono ?_); rintro e w4 ⟨rfl, hb4⟩; have hc2 := hb4.cell (p := ⟨pb, 2, none⟩) HLT.out; have hc1 := hb4.cell (p := ⟨pb, 1, none⟩) HLT.out) | (go_at_call 63; (with_reducible refine (HN2.out _).mono ?_); rintro e w5 ⟨rfl, hb5⟩; have hc3 := hb5.cell (p := ⟨pb, 2, none⟩) (Nat.lt_of_lt_of_le HLT.out hb4.size)))
              all_goals
                go_meet
                exact ⟨by rw [HV5.out], by first | exact bt hb4 hb5 | exact hb4⟩
            · rw [hn_bN] at HN2
              have HV5 : Hid (T5 = false) := by
                show _ = _
                rw [← HT5.out]
                (first | have gq1 := HQ_bR.out | skip)
                (first | have gq2 := HQ_bN.out | skip)
                (first | have gq3 := HQ_bE.out | skip)
                (first | have gq4 := HQ_bF.out | skip)
                simp [textB, *]
              go_wp2_with (first | (go_at_call 63; (with_reducible refine (HN1.out _).mono ?_); rintro e w4 ⟨rfl, hb4⟩; have hc2 := hb4.cell (p := ⟨pb, 2, none⟩) HLT.out; have hc1 := hb4.cell (p := ⟨pb, 1, none⟩) HLT.out) | (go_at_call 63; (with_reducible refine (HN2.out _).mono ?_); rintro e w5 ⟨rfl, hb5⟩; have hc3 := hb5.cell (p := ⟨pb, 2, none⟩) (Nat.lt_of_lt_of_le HLT.out hb4.size)))
              all_goals
                go_meet
                exact ⟨by rw [HV5.out], by first | exact bt hb4 hb5 | exact hb4⟩
      · rw [hn_bR] at HN1
        have hq_bR : ¬ x.reg = [] := fun e => by rw [e] at hn_bR; exact absurd hn_bR (by decide)
        have HV5 : Hid (T5 = true) := by
          show _ = _
          rw [← HT5.out]
          (first | have gq1 := HQ_bR.out | skip)
          (first | have gq2 := HQ_bN.out | skip)
          (first | have gq3 := HQ_bE.out | skip)
          (first | have gq4 := HQ_bF.out | skip)
          simp [textB, *]
        go_wp2_with (first | (go_at_call 63; (with_reducible refine (HN1.out _).mono ?_); rintro e w4 ⟨rfl, hb4⟩; have hc2 := hb4.cell (p := ⟨pb, 2, none⟩) HLT.out; have hc1 := hb4.cell (p := ⟨pb, 1, none⟩) HLT.out) | (go_at_call 63; (with_reducible refine (HN2.out _).mono ?_); rintro e w5 ⟨rfl, hb5⟩; have hc3 := hb5.cell (p := ⟨pb, 2, none⟩) (Nat.lt_of_lt_of_le HLT.out hb4.size)))
        all_goals
          go_meet
          exact ⟨by rw [HV5.out], by first | exact bt hb4 hb5 | exact hb4⟩
    · cases hn_bR : nameE x.reg
      · rw [hn_bR] at HN1
        have HV5 : Hid (T5 = true) := by
          show _ = _
          rw [← HT5.out]
          (first | have gq1 := HQ_bR.out | skip)
          (first | have gq2 := HQ_bN.out | skip)
          (first | have gq3 := HQ_bE.out | skip)
          (first | have gq4 := HQ_bF.out | skip)
          simp [textB, *]
        go_wp2_with (first | (go_at_call 63; (with_reducible refine (HN1.out _).mono ?_); rintro e w4 ⟨rfl, hb4⟩; have hc2 := hb4.cell (p := ⟨pb, 2, none⟩) HLT.out; have hc1 := hb4.cell (p := ⟨pb, 1, none⟩) HLT.out) | (go_at_call 63; (with_reducible refine (HN2.out _).mono ?_); rintro e w5 ⟨rfl, hb5⟩; have hc3 := hb5.cell (p := ⟨pb, 2, none⟩) (Nat.lt_of_lt_of_le HLT.out hb4.size)))
        all_goals
          go_meet
          exact ⟨by rw [HV5.out], by first | exact bt hb4 hb5 | exact hb4⟩
      · rw [hn_bR] at HN1
        cases bN
        · cases hn_bN : nameE x.name
          · rw [hn_bN] at HN2
            cases he_bN : (str x.name).toList.isEmpty
            · have hq_bN : ¬ x.name = [] := fun e => by rw [str_toList, e] at he_bN; exact absurd he_bN (by decide)
              have hr_bN : ¬ (str x.name).toList = [] := by rw [str_toList]; exact hq_bN
              have HV5 : Hid (T5 = true) := by
                show _ = _
                rw [← HT5.out]
                (first | have gq1 := HQ_bR.out | skip)
                (first | have gq2 := HQ_bN.out | skip)
                (first | have gq3 := HQ_bE.out | skip)
                (first | have gq4 := HQ_bF.out | skip)
                simp [textB, *]
              go_wp2_with (first | (go_at_call 63; (with_reducible refine (HN1.out _).mono ?_); rintro e w4 ⟨rfl, hb4⟩; have hc2 := hb4.cell (p := ⟨pb, 2, none⟩) HLT.out; have hc1 := hb4.cell (p := ⟨pb, 1, none⟩) HLT.out) | (go_at_call 63; (with_reducible refine (HN2.out _).mono ?_); rintro e w5 ⟨rfl, hb5⟩; have hc3 := hb5.cell (p := ⟨pb, 2, none⟩) (Nat.lt_of_lt_of_le HLT.out hb4.size)))
              all_goals
                go_meet
                exact ⟨by rw [HV5.out], by first | exact bt hb4 hb5 | exact hb4⟩
            · have hr_bN : (str x.name).toList = [] := by simpa using he_bN
              have HQ_bN : Hid (x.name = []) := by rw [str_toList] at hr_bN; exact hr_bN
              have HV5 : Hid (T5 = false) := by
                show _ = _
                rw [← HT5.out]
                (first | have gq1 := HQ_bR.out | skip)
                (first | have gq2 := HQ_bN.out | skip)
                (first | have gq3 := HQ_bE.out | skip)
                (first | have gq4 := HQ_bF.out | skip)
                simp [textB, *]
              go_wp2_with (first | (go_at_call 63; (with_reducible refine (HN1.out _).mono ?_); rintro e w4 ⟨rfl, hb4⟩; have hc2 := hb4.cell (p := ⟨pb, 2, none⟩) HLT.out; have hc1 := hb4.cell (p := ⟨pb, 1, none⟩) HLT.out) | (go_at_call 63; (with_reducible refine (HN2.out _).mono ?_); rintro e w5 ⟨rfl, hb5⟩; have hc3 := hb5.cell (p := ⟨pb, 2, none⟩) (Nat.lt_of_lt_of_le HLT.out hb4.size)))
              all_goals
                go_meet
                exact ⟨by rw [HV5.out], by first | exact bt hb4 hb5 | exact hb4⟩
          · rw [hn_bN] at HN2
            have hq_bN : ¬ x.name = [] := fun e => by rw [e] at hn_bN; exact absurd hn_bN (by decide)
            have HV5 : Hid (T5 = true) := by
              show _ = _
              rw [← HT5.out]
              (first | have gq1 := HQ_bR.out | skip)
              (first | have gq2 := HQ_bN.out | skip)
              (first | have gq3 := HQ_bE.out | skip)
              (first | have gq4 := HQ_bF.out | skip)
              simp [textB, *]
            go_wp2_with (first | (go_at_call 63; (with_reducible refine (HN1.out _).mono ?_); rintro e w4 ⟨rfl, hb4⟩; have hc2 := hb4.cell (p := ⟨pb, 2, none⟩) HLT.out; have hc1 := hb4.cell (p := ⟨pb, 1, none⟩) HLT.out) | (go_at_call 63; (with_reducible refine (HN2.out _).mono ?_); rintro e w5 ⟨rfl, hb5⟩; have hc3 := hb5.cell (p := ⟨pb, 2, none⟩) (Nat.lt_of_lt_of_le HLT.out hb4.size)))
            all_goals
              go_meet
              exact ⟨by rw [HV5.out], by first | exact bt hb4 hb5 | exact hb4⟩
        · cases hn_bN : nameE x.name
          · rw [hn_bN] at HN2
            have HV5 : Hid (T5 = true) := by
              show _ = _
              rw [← HT5.out]
              (first | have gq1 := HQ_bR.out | skip)
              (first | have gq2 := HQ_bN.out | skip)
              (first | have gq3 := HQ_bE.out | skip)
              (first | have gq4 := HQ_bF.out | skip)
              simp [textB, *]
            go_wp2_with (first | (go_at_call 63; (with_reducible refine (HN1.out _).mono ?_); rintro e w4 ⟨rfl, hb4⟩; have hc2 := hb4.cell (p := ⟨pb, 2, none⟩) HLT.out; have hc1 := hb4.cell (p := ⟨pb, 1, none⟩) HLT.out) | (go_at_call 63; (with_reducible refine (HN2.out _).mono ?_); rintro e w5 ⟨rfl, hb5⟩; have hc3 := hb5.cell (p := ⟨pb, 2, none⟩) (Nat.lt_of_lt_of_le HLT.out hb4.size)))
            all_goals
              go_meet
              exact ⟨by rw [HV5.out], by first | exact bt hb4 hb5 | exact hb4⟩
          · rw [hn_bN] at HN2
            have HV5 : Hid (T5 = false) := by
              show _ = _
              rw [← HT5.out]
              (first | have gq1 := HQ_bR.out | skip)
              (first | have gq2 := HQ_bN.out | skip)
              (first | have gq3 := HQ_bE.out | skip)
              (first | have gq4 := HQ_bF.out | skip)
              simp [textB, *]
            go_wp2_with (first | (go_at_call 63; (with_reducible refine (HN1.out _).mono ?_); rintro e w4 ⟨rfl, hb4⟩; have hc2 := hb4.cell (p := ⟨pb, 2, none⟩) HLT.out; have hc1 := hb4.cell (p := ⟨pb, 1, none⟩) HLT.out) | (go_at_call 63; (with_reducible refine (HN2.out _).mono ?_); rintro e w5 ⟨rfl, hb5⟩; have hc3 := hb5.cell (p := ⟨pb, 2, none⟩) (Nat.lt_of_lt_of_le HLT.out hb4.size)))
            all_goals
              go_meet
              exact ⟨by rw [HV5.out], by first | exact bt hb4 hb5 | exact hb4⟩
  case rest =>
    obtain ⟨rfl, hb5⟩ := hcut
    have HBC := Lib.hid (bt HB3.out hb5)
    have HS5 := Lib.hid (HS3.out.below hb5)
    clear hb5 sl s0 s1 s2 s3 s4 s5 s6 s7 s8 sfr
    obtain ⟨sl, s0, s1, s2, s3, s4, s5, s6, s7, s8, sfr⟩ := HS5.out
    have HLT : Hid (pb < wc.heap.size) := sl
    cases h5 : T5
    · go_upto_region 7 with fail
      go_cut [98] (fun s wx => s = .bool T7 ∧ Below wc.heap.size wc wx)
      case first =>
        cases bE
        · cases hn_bE : rightE x.e
          · rw [hn_bE] at HR1
            cases he_bE : decide (0 < x.e.length)
            · have hl_bE : decide ((0 : Int) < (x.e.length : Int)) = false := by simp at he_bE ⊢; exact he_bE
              have HQ_bE : Hid (x.e = []) := (show x.e = [] by simpa using he_bE)
              cases bF
              · cases hn_bF : rightE x.f
                · rw [hn_bF] at HR2
                  cases he_bF : decide (0 < x.f.length)
                  · have hl_bF : decide ((0 : Int) < (x.f.length : Int)) = false := by simp at he_bF ⊢; exact he_bF
                    have HQ_bF : Hid (x.f = []) := (show x.f = [] by simpa using he_bF)
                    have HV7 : Hid (T7 = false) := by
                      show _ = _
                      rw [← HT7.out]
                      (first | have gq1 := HQ_bR.out | skip)
                      (first | have gq2 := HQ_bN.out | skip)
                      (first | have gq3 := HQ_bE.out | skip)
                      (first | have gq4 := HQ_bF.out | skip)
                      simp [nodesB, *]
                    go_wp2_with (first | (go_at_call 64; (with_reducible refine (HR1.out _ HBC.out).mono ?_); rintro e w4 ⟨rfl, hb4⟩; have hc3 := hb4.cell (p := ⟨pb, 3, none⟩) HLT.out; have hc4 := hb4.cell (p := ⟨pb, 4, none⟩) HLT.out) | (go_at_call 64; (with_reducible refine (HR2.out _ (bt HBC.out hb4)).mono ?_); rintro e w5 ⟨rfl, hb5⟩; have hc5 := hb5.cell (p := ⟨pb, 4, none⟩) (Nat.lt_of_lt_of_le HLT.out hb4.size)))
                    all_goals
                      go_meet
                      exact ⟨by rw [HV7.out], by first | exact bt hb4 hb5 | exact hb4⟩
                  · have hl_bF : decide ((0 : Int) < (x.f.length : Int)) = true := by simp at he_bF ⊢; omega
                    have hq_bF : ¬ x.f = [] := fun e => by rw [e] at he_bF; exact absurd he_bF (by decide)
                    have HV7 : Hid (T7 = true) := by
                      show _ = _
                      rw [← HT7.out]
                      (first | have gq1 := HQ_bR.out | skip)
                      (first | have gq2 := HQ_bN.out | skip)
                      (first | have gq3 := HQ_bE.out | skip)
                      (first | have gq4 := HQ_bF.out | skip)
                      simp [nodesB, *]
                    go_wp2_with (first | (go_at_call 64; (with_reducible refine (HR1.out _ HBC.out).mono ?_); rintro e w4 ⟨rfl, hb4⟩; have hc3 := hb4.cell (p := ⟨pb, 3, none⟩) HLT.out; have hc4 := hb4.cell (p := ⟨pb, 4, none⟩) HLT.out) | (go_at_call 64; (with_reducible refine (HR2.out _ (bt HBC.out hb4)).mono ?_); rintro e w5 ⟨rfl, hb5⟩; have hc5 := hb5.cell (p := ⟨pb, 4, none⟩) (Nat.lt_of_lt_of_le HLT.out hb4.size)))
                    all_goals
                      go_meet
                      exact ⟨by rw [HV7.out], by first | exact bt hb4 hb5 | exact hb4⟩
                · rw [hn_bF] at HR2
                  have hq_bF : ¬ x.f = [] := fun e => by rw [e, right_nil] at hn_bF; exact absurd hn_bF (by decide)
                  have HV7 : Hid (T7 = true) := by
                    show _ = _
                    rw [← HT7.out]
                    (first | have gq1 := HQ_bR.out | skip)
                    (first | have gq2 := HQ_bN.out | skip)
                    (first | have gq3 := HQ_bE.out | skip)
                    (first | have gq4 := HQ_bF.out | skip)
                    simp [nodesB, *]
                  go_wp2_with (first | (go_at_call 64; (with_reducible refine (HR1.out _ HBC.out).mono ?_); rintro e w4 ⟨rfl, hb4⟩; have hc3 := hb4.cell (p := ⟨pb, 3, none⟩) HLT.out; have hc4 := hb4.cell (p := ⟨pb, 4, none⟩) HLT.out) | (go_at_call 64; (with_reducible refine (HR2.out _ (bt HBC.out hb4)).mono ?_); rintro e w5 ⟨rfl, hb5⟩; have hc5 := hb5.cell (p := ⟨pb, 4, none⟩) (Nat.lt_of_lt_of_le HLT.out hb4.size)))
                  all_goals
                    go_meet
                    exact ⟨by rw [HV7.out], by first | exact bt hb4 hb5 | exact hb4⟩
              · cases hn_bF : rightE x.f
                · rw [hn_bF] at HR2
                  have HV7 : Hid (T7 = true) := by
                    show _ = _
                    rw [← HT7.out]
                    (first | have gq1 := HQ_bR.out | skip)
                    (first | have gq2 := HQ_bN.out | skip)
                    (first | have gq3 := HQ_bE.out | skip)
                    (first | have gq4 := HQ_bF.out | skip)
                    simp [nodesB, *]
                  go_wp2_with (first | (go_at_call 64; (with_reducible refine (HR1.out _ HBC.out).mono ?_); rintro e w4 ⟨rfl, hb4⟩; have hc3 := hb4.cell (p := ⟨pb, 3, none⟩) HLT.out; have hc4 := hb4.cell (p := ⟨pb, 4, none⟩) HLT.out) | (go_at_call 64; (with_reducible refine (HR2.out _ (bt HBC.out hb4)).mono ?_); rintro e w5 ⟨rfl, hb5⟩; have hc5 := hb5.cell (p := ⟨pb, 4, none⟩) (Nat.lt_of_lt_of_le HLT.out hb4.size)))
                  all_goals
                    go_meet
                    exact ⟨by rw [HV7.out], by first | exact bt hb4 hb5 | exact hb4⟩
                · rw [hn_bF] at HR2
                  have HV7 : Hid (T7 = false) := by
                    show _ = _
                    rw [← HT7.out]
                    (first | have gq1 := HQ_bR.out | skip)
                    (first | have gq2 := HQ_bN.out | skip)
                    (first | have gq3 := HQ_bE.out | skip)
                    (first | have gq4 := HQ_bF.out | skip)
                    simp [nodesB, *]
                  go_wp2_with (first | (go_at_call 64; (with_reducible refine (HR1.out _ HBC.out).mono ?_); rintro e w4 ⟨rfl, hb4⟩; have hc3 := hb4.cell (p := ⟨pb, 3, none⟩) HLT.out; have hc4 := hb4.cell (p := ⟨pb, 4, none⟩) HLT.out) | (go_at_call 64; (with_reducible refine (HR2.out _ (bt HBC.out hb4)).mono ?_); rintro e w5 ⟨rfl, hb5⟩; have hc5 := hb5.cell (p := ⟨pb, 4, none⟩) (Nat.lt_of_lt_of_le HLT.out hb4.size)))
                  all_goals
                    go_meet
                    exact ⟨by rw [HV7.out], by first | exact bt hb4 hb5 | exact hb4⟩
            · have hl_bE : decide ((0 : Int) < (x.e.length : Int)) = true := by simp at he_bE ⊢; omega
              have hq_bE : ¬ x.e = [] := fun e => by rw [e] at he_bE; exact absurd he_bE (by decide)
              have HV7 : Hid (T7 = true) := by
                show _ = _
                rw [← HT7.out]
                (first | have gq1 := HQ_bR.out | skip)
                (first | have gq2 := HQ_bN.out | skip)
                (first | have gq3 := HQ_bE.out | skip)
                (first | have gq4 := HQ_bF.out | skip)
                simp [nodesB, *]
              go_wp2_with (first | (go_at_call 64; (with_reducible refine (HR1.out _ HBC.out).mono ?_); rintro e w4 ⟨rfl, hb4⟩; have hc3 := hb4.cell (p := ⟨pb, 3, none⟩) HLT.out; have hc4 := hb4.cell (p := ⟨pb, 4, none⟩) HLT.out) | (go_at_call 64; (with_reducible refine (HR2.out _ (bt HBC.out hb4)).mono ?_); rintro e w5 ⟨rfl, hb5⟩; have hc5 := hb5.cell (p := ⟨pb, 4, none⟩) (Nat.lt_of_lt_of_le HLT.out hb4.size)))
              all_goals
                go_meet
                exact ⟨by rw [HV7.out], by first | exact bt hb4 hb5 | exact hb4⟩
          · rw [hn_bE] at HR1
            have hq_bE : ¬ x.e = [] := fun e => by rw [e, right_nil] at hn_bE; exact absurd hn_bE (by decide)
            have HV7 : Hid (T7 = true) := by
              show _ = _
              rw [← HT7.out]
              (first | have gq1 := HQ_bR.out | skip)
              (first | have gq2 := HQ_bN.out | skip)
              (first | have gq3 := HQ_bE.out | skip)
              (first | have gq4 := HQ_bF.out | skip)
              simp [nodesB, *]
            go_wp2_with (first | (go_at_call 64; (with_reducible refine (HR1.out _ HBC.out).mono ?_); rintro e w4 ⟨rfl, hb4⟩; have hc3 := hb4.cell (p := ⟨pb, 3, none⟩) HLT.out; have hc4 := hb4.cell (p := ⟨pb, 4, none⟩) HLT.out) | (go_at_call 64; (with_reducible refine (HR2.out _ (bt HBC.out hb4)).mono ?_); rintro e w5 ⟨rfl, hb5⟩; have hc5 := hb5.cell (p := ⟨pb, 4, none⟩) (Nat.lt_of_lt_of_le HLT.out hb4.size)))
            all_goals
              go_meet
              exact ⟨by rw [HV7.out], by first | exact bt hb4 hb5 | exact hb4⟩
        · cases hn_bE : rightE x.e
          · rw [hn_bE] at HR1
            have HV7 : Hid (T7 = true) := by
              show _ = _
              rw [← HT7.out]
              (first | have gq1 := HQ_bR.out | skip)
              (first | have gq2 := HQ_bN.out | skip)
              (first | have gq3 := HQ_bE.out | skip)
              (first | have gq4 := HQ_bF.out | skip)
              simp [nodesB, *]
            go_wp2_with (first | (go_at_call 64; (with_reducible refine (HR1.out _ HBC.out).mono ?_); rintro e w4 ⟨rfl, hb4⟩; have hc3 := hb4.cell (p := ⟨pb, 3, none⟩) HLT.out; have hc4 := hb4.cell (p := ⟨pb, 4, none⟩) HLT.out) | (go_at_call 64; (with_reducible refine (HR2.out _ (bt HBC.out hb4)).mono ?_); rintro e w5 ⟨rfl, hb5⟩; have hc5 := hb5.cell (p := ⟨pb, 4, none⟩) (Nat.lt_of_lt_of_le HLT.out hb4.size)))
            all_goals
              go_meet
              exact ⟨by rw [HV7.out], by first | exact bt hb4 hb5 | exact hb4⟩
          · rw [hn_bE] at HR1
            cases bF
            · cases hn_bF : rightE x.f
              · rw [hn_bF] at HR2
                cases he_bF : decide (0 < x.f.length)
                · have hl_bF : decide ((0 : Int) < (x.f.length : Int)) = false := by simp at he_bF ⊢; exact he_bF
                  have HQ_bF : Hid (x.f = []) := (show x.f = [] by simpa using he_bF)
                  have HV7 : Hid (T7 = false) := by
                    show _ = _
                    rw [← HT7.out]
                    (first | have gq1 := HQ_bR.out | skip)
                    (first | have gq2 := HQ_bN.out | skip)
                    (first | have gq3 := HQ_bE.out | skip)
                    (first | have gq4 := HQ_bF.out | skip)
                    simp [nodesB, *]
                  go_wp2_with (first | (go_at_call 64; (with_reducible refine (HR1.out _ HBC.out).mono ?_); rintro e w4 ⟨rfl, hb4⟩; have hc3 := hb4.cell (p := ⟨pb, 3, none⟩) HLT.out; have hc4 := hb4.cell (p := ⟨pb, 4, none⟩) HLT.out) | (go_at_call 64; (with_reducible refine (HR2.out _ (bt HBC.out hb4)).mono ?_); rintro e w5 ⟨rfl, hb5⟩; have hc5 := hb5.cell (p := ⟨pb, 4, none⟩) (Nat.lt_of_lt_of_le HLT.out hb4.size)))
                  all_goals
                    go_meet
                    exact ⟨by rw [HV7.out], by first | exact bt hb4 hb5 | exact hb4⟩
                · have hl_bF : decide ((0 : Int) < (x.f.length : Int)) = true := by simp at he_bF ⊢; omega
                  have hq_bF : ¬ x.f = [] := fun e => by rw [e] at he_bF; exact absurd he_bF (by decide)
                  have HV7 : Hid (T7 = true) := by
                    show _ = _
                    rw [← HT7.out]
                    (first | have gq1 := HQ_bR.out | skip)
                    (first | have gq2 := HQ_bN.out | skip)
                    (first | have gq3 := HQ_bE.out | skip)
                    (first | have gq4 := HQ_bF.out | skip)
                    simp [nodesB, *]
                  go_wp2_with (first | (go_at_call 64; (with_reducible refine (HR1.out _ HBC.out).mono ?_); rintro e w4 ⟨rfl, hb4⟩; have hc3 := hb4.cell (p := ⟨pb, 3, none⟩) HLT.out; have hc4 := hb4.cell (p := ⟨pb, 4, none⟩) HLT.out) | (go_at_call 64; (with_reducible refine (HR2.out _ (bt HBC.out hb4)).mono ?_); rintro e w5 ⟨rfl, hb5⟩; have hc5 := hb5.cell (p := ⟨pb, 4, none⟩) (Nat.lt_of_lt_of_le HLT.out hb4.size)))
                  all_goals
                    go_meet
                    exact ⟨by rw [HV7.out], by first | exact bt hb4 hb5 | exact hb4⟩
              · rw [hn_bF] at HR2
                have hq_bF : ¬ x.f = [] := fun e => by rw [e, right_nil] at hn_bF; exact absurd hn_bF (by decide)
                have HV7 : Hid (T7 = true) := by
                  show _ = _
                  rw [← HT7.out]
                  (first | have gq1 := HQ_bR.out | skip)
                  (first | have gq2 := HQ_bN.out | skip)
                  (first | have gq3 := HQ_bE.out | skip)
                  (first | have gq4 := HQ_bF.out | skip)
                  simp [nodesB, *]
                go_wp2_with (first | (go_at_call 64; (with_reducible refine (HR1.out _ HBC.out).mono ?_); rintro e w4 ⟨rfl, hb4⟩; have hc3 := hb4.cell (p := ⟨pb, 3, none⟩) HLT.out; have hc4 := hb4.cell (p := ⟨pb, 4, none⟩) HLT.out) | (go_at_call 64; (with_reducible refine (HR2.out _ (bt HBC.out hb4)).mono ?_); rintro e w5 ⟨rfl, hb5⟩; have hc5 := hb5.cell (p := ⟨pb, 4, none⟩) (Nat.lt_of_lt_of_le HLT.out hb4.size)))
                all_goals
                  go_meet
                  exact ⟨by rw [HV7.out], by first | exact bt hb4 hb5 | exact hb4⟩
            · cases hn_bF : rightE x.f
              · rw [hn_bF] at HR2
                have HV7 : Hid (T7 = true) := by
                  show _ = _
                  rw [← HT7.out]
                  (first | have gq1 := HQ_bR.out | skip)
                  (first | have gq2 := HQ_bN.out | skip)
                  (first | have gq3 := HQ_bE.out | skip)
                  (first | have gq4 := HQ_bF.out | skip)
                  simp [nodesB, *]
                go_wp2_with (first | (go_at_call 64; (with_reducible refine (HR1.out _ HBC.out).mono ?_); rintro e w4 ⟨rfl, hb4⟩; have hc3 := hb4.cell (p := ⟨pb, 3, none⟩) HLT.out; have hc4 := hb4.cell (p := ⟨pb, 4, none⟩) HLT.out) | (go_at_call 64; (with_reducible refine (HR2.out _ (bt HBC.out hb4)).mono ?_); rintro e w5 ⟨rfl, hb5⟩; have hc5 := hb5.cell (p := ⟨pb, 4, none⟩) (Nat.lt_of_lt_of_le HLT.out hb4.size)))
                all_goals
                  go_meet
                  exact ⟨by rw [HV7.out], by first | exact bt hb4 hb5 | exact hb4⟩
              · rw [hn_bF] at HR2
                have HV7 : Hid (T7 = false) := by
                  show _ = _
                  rw [← HT7.out]
                  (first | have gq1 := HQ_bR.out | skip)
                  (first | have gq2 := HQ_bN.out | skip)
                  (first | have gq3 := HQ_bE.out | skip)
                  (first | have gq4 := HQ_bF.out | skip)
                  simp [nodesB, *]
                go_wp2_with (first | (go_at_call 64; (with_reducible refine (HR1.out _ HBC.out).mono ?_); rintro e w4 ⟨rfl, hb4⟩; have hc3 := hb4.cell (p := ⟨pb, 3, none⟩) HLT.out; have hc4 := hb4.cell (p := ⟨pb, 4, none⟩) HLT.out) | (go_at_call 64; (with_reducible refine (HR2.out _ (bt HBC.out hb4)).mono ?_); rintro e w5 ⟨rfl, hb5⟩; have hc5 := hb5.cell (p := ⟨pb, 4, none⟩) (Nat.lt_of_lt_of_le HLT.out hb4.size)))
                all_goals
                  go_meet
                  exact ⟨by rw [HV7.out], by first | exact bt hb4 hb5 | exact hb4⟩
      case rest =>
        obtain ⟨rfl, hb7⟩ := hcut
        have HBD := Lib.hid (bt HBC.out hb7)
        have HS7 := Lib.hid (HS5.out.below hb7)
        clear hb7 sl s0 s1 s2 s3 s4 s5 s6 s7 s8 sfr
        obtain ⟨sl, s0, s1, s2, s3, s4, s5, s6, s7, s8, sfr⟩ := HS7.out
        have HFV : Hid (F = if T7 = true then false else (if bK = true then decide (1 ≤ x.n) && decide (x.n ≤ 8) else x.n == 0)) := by
          have hf := HFP.out
          have h5' := HT5.out
          have h7' := HT7.out
          rw [h5] at h5'
          simp only [Bool.not_eq_false'] at h5'
          rw [h5', Bool.true_and, Bool.and_assoc] at hf
          show _ = _
          rw [← HF.out, hf]
          cases h7 : T7
          · rw [h7] at h7'
            simp only [Bool.not_eq_false'] at h7'
            rw [← Bool.and_assoc, h7']
            rfl
          · rw [h7] at h7'
            simp only [Bool.not_eq_true'] at h7'
            rw [← Bool.and_assoc, h7']
            rfl
        cases h7 : T7
        · rw [h7] at HFV
          cases hbk : bK
          · rw [hbk] at HFV HAbK
            cases hn0 : (x.n == 0)
            all_goals
              have HV : Hid (F = _) := (HFV.out).trans (by rw [if_neg (by decide), if_neg (by decide), hn0])
              go_wp2_with (go_at_call 62; (with_reducible refine (HAbK.out _).mono ?_); rintro r w9 ⟨rfl, rfl⟩)
              go_ret
              exact ⟨ret_bool HV.out.symm, HBD.out⟩
          · rw [hbk] at HFV HAbK
            cases ha1 : decide (1 ≤ x.n)
            · have HV : Hid (F = false) := (HFV.out).trans (by rw [if_neg (by decide), if_pos rfl, ha1]; rfl)
              go_wp2_with (go_at_call 62; (with_reducible refine (HAbK.out _).mono ?_); rintro r w9 ⟨rfl, rfl⟩)
              go_ret
              exact ⟨ret_bool HV.out.symm, HBD.out⟩
            · cases ha2 : decide (x.n ≤ 8)
              all_goals
                have HV : Hid (F = _) := (HFV.out).trans (by rw [if_neg (by decide), if_pos rfl, ha1, ha2])
                go_wp2_with (go_at_call 62; (with_reducible refine (HAbK.out _).mono ?_); rintro r w9 ⟨rfl, rfl⟩)
                go_ret
                exact ⟨ret_bool HV.out.symm, HBD.out⟩
        · have HV : Hid (F = false) := (HFV.out).trans (by rw [h7]; rfl)
          go_wp2_with fail
          go_ret
          exact ⟨ret_bool HV.out.symm, HBD.out⟩
    · have HV : Hid (F = false) := by
        have hf := HFP.out
        have h5' := HT5.out
        rw [h5] at h5'
        show _ = _
        rw [← HF.out, hf]
        simp only [Bool.not_eq_true'] at h5'
        rw [h5']
        rfl
      go_wp2_with fail
      go_ret
      exact ⟨ret_bool HV.out.symm, HBC.out⟩
end Go.Proofs.YtaoeaaebafcegaaGreatDoor

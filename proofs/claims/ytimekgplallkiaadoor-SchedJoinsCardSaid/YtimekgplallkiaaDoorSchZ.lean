/- The laws on schedules: the parts between crashes: the walk. -/
import Derived.Test.YtimekgplallkiaaDoorSchY
namespace Go.Proofs.YtimekgplallkiaaDoor
open Go Go.RowKit
set_option linter.unusedVariables false
theorem cuts_zero {l : List Pk} {j : Nat} (h : j < (cutsK l).length) : crashK (cutsK l)[j] = 0 := cuts_none l _ (List.getElem_mem h)
theorem flat_take {α : Type} (C : List (List α)) (j : Nat) (h : j < C.length) : (C.take (j + 1)).flatten = (C.take j).flatten ++ C[j] := by
  rw [List.take_succ_eq_append_getElem h, List.flatten_append]; simp
theorem flat_take_le {α : Type} (C : List (List α)) (j : Nat) : (C.take j).flatten.length ≤ C.flatten.length := by
  conv => rhs; rw [← List.take_append_drop j C, List.flatten_append, List.length_append]
  omega
theorem filt_take (l : List Pk) (j : Nat) (h : j < l.length) : (l.take (j + 1)).filter (fun p => p.kind != 3) = (l.take j).filter (fun p => p.kind != 3) ++ (if (l[j].kind == 3) = true then [] else [l[j]]) := by
  rw [List.take_succ_eq_append_getElem h, List.filter_append]
  congr 1
  by_cases hk : (l[j].kind == 3) = true
  · rw [if_pos hk, List.filter_cons_of_neg (by simp [bne, hk])]; rfl
  · rw [if_neg hk, List.filter_cons_of_pos (by simp [bne, hk])]; rfl
set_option maxRecDepth 100000 in
set_option maxHeartbeats 8000000 in
theorem lawCuts_c (l : List Pk) (hl : l.length ≤ 9223372036854775807) (hln : ∀ x ∈ l, x.cut.length ≤ 9223372036854775807) (v : Value) (w : World) (hv : Pks w v l) (hE : Env w) :
    Calls Tryd.prog 6 #[v] w (Yes w) := by
  obtain ⟨i0, hi0, hz0, hz1, hz2⟩ := info_parts info_pick
  have HE := Lib.hid hE
  have HCL := Lib.hid (pCut_c l hl hln v w hv)
  have hl4 := cutPs_len l
  have hlc := cutPs_cut l
  obtain ⟨A0, c0, rfl, hc0⟩ := hv.shape
  clear hE hv hl hln hc0
  generalize cutPs l = L at HCL hl4 hlc
  have HCU : Hid (∀ u v, Pks u v L → Calls Tryd.prog 16 #[v] u (CutPost L u)) := fun u v hu => pCuts_c L (by omega) (fun x hx => by have := hlc x hx; omega) v u hu
  have HCR : Hid (∀ u v, Pks u v L → Calls Tryd.prog 13 #[v] u fun e w' => e = .returned (.int .i64 (crashK L)) ∧ Below u.heap.size u w') := fun u v hu => pCrashes_c L (by omega) (fun x hx => by have := hlc x hx; omega) v u hu
  have HNC : Hid (∀ j (h : j < (cutsK L).length), ∀ u v, Pks u v (cutsK L)[j] → Calls Tryd.prog 13 #[v] u fun e w' => e = .returned (.int .i64 0) ∧ Below u.heap.size u w') := fun j h u v hu => by
    have hle := part_le (List.getElem_mem h)
    have := pCrashes_c (cutsK L)[j] (by omega) (fun x hx => by have := hlc x (cuts_mem (List.getElem_mem h) hx); omega) v u hu
    rwa [cuts_zero h] at this
  have hcl := cuts_len L
  have hcr := crash_le L
  have HFL := Lib.hid (cuts_flat L)
  have HPL : Hid (∀ j (h : j < (cutsK L).length), (cutsK L)[j].length ≤ 40) := fun j h => by have := part_le (List.getElem_mem h); omega
  have HFE : Hid (L.filter (fun p => p.kind != 3) = L.filter (fun p => p.kind != 3) ∧ (L.filter (fun p => p.kind != 3)).length ≤ 40 ∧ ∀ x ∈ L.filter (fun p => p.kind != 3), x.cut.length ≤ 25) := ⟨rfl, Nat.le_trans (List.length_filter_le _ _) hl4, fun x hx => hlc x (List.mem_filter.1 hx).1⟩
  unfold CutPost at HCU
  generalize cutsK L = C at HCU HNC HFL HPL hcl
  generalize crashK L = nc at HCR hcl hcr
  subst_vars
  go_enter Tryd.func6, Tryd.ntmps6
  go_wp2_with (first
    | (go_at_call 8; (with_reducible refine (HCL.out).mono ?_); rintro e w1 ⟨A2, c2, rfl, hp1, hb1⟩)
    | (go_at_call 16; (with_reducible refine (HCU.out _ _ hp1).mono ?_); rintro e w2 ⟨A3, c3, rfl, hp2, hb2⟩; have hp12 := hp1.below hb2; rw [hcl] at hp2 ⊢)
    | (go_at_call 13; (with_reducible refine (HCR.out _ _ hp12).mono ?_); rintro e w3 ⟨rfl, hb3⟩))
  have HP1 := Lib.hid (hp12.below hb3)
  have HP2 := Lib.hid (hp2.below hb3)
  have HB3 := Lib.hid (bt hb1 (bt hb2 hb3))
  have HLC := Lib.hid hlc
  have HCN := Lib.hid hcl
  have HF2 : Hid ((L.filter (fun p => p.kind != 3)).length ≤ 40 ∧ ∀ x ∈ L.filter (fun p => p.kind != 3), x.cut.length ≤ 25) := HFE.out.2
  have HO0 : Hid (POwn w3.heap.size (w3.alloc (.cells #[] 27)) (.slice (some ⟨w3.heap.size, 0, none⟩) 0 0) []) := ⟨own_empty w3 27 4 (by decide), by simp⟩
  clear HCL HCU HCR hp1 hb1 hp12 hp2 hb2 hb3 hlc HFE
  have hcl2 : (C.length : Int) = (nc : Int) + 1 := by omega
  have HC2 := Lib.hid hcl2
  clear hcl hcl2
  go_loopw [4, 5] (fun all k wr => ∃ (j : Nat) (pl : List Pv) (A : Option Addr) (c : Nat), j ≤ nc + 1 ∧ k = .int .i64 j ∧ all = .slice A pl.length c ∧ pl.map (·.p) = (C.take j).flatten ∧ POwn w3.heap.size wr (.slice A pl.length c) pl ∧ Below w3.heap.size w3 wr) (fun _ k _ => nc + 1 - (intOf k).toNat)
  case atStart => exact ⟨0, [], _, _, Nat.zero_le _, rfl, rfl, rfl, HO0.out, al _ _⟩
  case round =>
    obtain ⟨j, pl, A, cc, hj, rfl, rfl, hmap, hown, hb⟩ := hrel
    have HMAP := Lib.hid hmap
    have HOWN := Lib.hid hown
    have HB := Lib.hid hb
    have HSZ : Hid (w3.heap.size ≤ wr.heap.size) := hb.size
    have hj0 : (0 : Int) ≤ (j : Int) := Int.natCast_nonneg _
    have HPM : Hid (pl.length ≤ 40) := by
      have h1 := congrArg List.length hmap
      rw [List.length_map] at h1
      have h2 := flat_take_le C j
      rw [HFL.out] at h2
      have := HF2.out.1
      show _ ≤ _
      omega
    clear hmap hown
    by_cases hjl : j < nc + 1
    · have hjl2 : (j : Int) < (nc : Int) + 1 := by omega
      have hjc : j < C.length := by rw [HCN.out]; exact hjl
      have hat0 := HP2.out
      rw [← HCN.out] at hat0
      obtain ⟨b, off, c, hE0, hcc, hbt, hat⟩ := PRs.at_ (l := C) hat0 (by omega)
      rw [HCN.out] at hE0
      cases hE0
      obtain ⟨A4, n4, x1, hz1'⟩ := hat j hjc
      have hx0 := (hb.cell (p := ⟨_, _, none⟩) hbt).trans x1
      have HX : Hid (∀ u, Below wr.heap.size wr u → u.cell? ⟨b, off + j, none⟩ = some (.slice A4 C[j].length n4)) := fun u hu => (hu.cell (p := ⟨_, _, none⟩) (Nat.lt_of_lt_of_le hbt hb.size)).trans hx0
      have HCRJ : Hid (Calls Tryd.prog 13 #[.slice A4 C[j].length n4] wr fun e w' => e = .returned (.int .i64 0) ∧ Below wr.heap.size wr w') := HNC.out j hjc wr _ (hz1'.below hb)
      have HS : Hid ((C.take (j + 1)).flatten = pl.map (·.p) ++ C[j]) := by show _ = _; rw [flat_take C j hjc, HMAP.out]
      have hpl := HPL.out j hjc
      have HPO := Lib.hid (pks_open hz1')
      clear hat x1 hz1' hb hat0
      generalize C[j] = x at hx0 HX HCRJ HS hpl HPO
      obtain ⟨xs, hxm, hxn, hxs, hxz, hx1⟩ := HPO.out
      have HXM := Lib.hid hxm
      have HXN := Lib.hid hxn
      have HXS := Lib.hid hxs
      have HXZ := Lib.hid hxz
      have HX1 := Lib.hid (pick_one xs hx1)
      have HT : Hid (pl.length + x.length ≤ maxLen ∧ (pl.length + x.length) * 48 ≤ 140737488355328) := by have := HPM.out; show _ ∧ _; unfold maxLen; constructor <;> omega
      clear hxm hxn hxs hxz hx1 HPO hpl
      go_wp2_with (first
        | (go_at_call 13; (with_reducible refine (HCRJ.out).mono ?_); rintro e w4 ⟨rfl, hb4⟩; have hq := HX.out _ hb4; have hsz4 := hb4.size)
        | (at_builtin; refine wpl_appO rfl _ _ 22 rfl w3.heap.size 27 i0 _ 4 48 Tryd.underlying22 hi0 hz0 hz1 hz2 rfl (by decide) (.slice A pl.length cc) pl.length (pl.flatMap Pv.cells) rfl (HOWN.out.below hb4).own (.slice A4 x.length n4) x.length (xs.flatMap Pv.cells) rfl (SlN.below HXS.out (bt HB.out hb4)) HX1.out HT.out.1 HT.out.2 (Nat.le_trans HSZ.out hsz4) ?_; intro v6 w6 hown6 hb6 hg6 hat6; obtain ⟨A6, c6, rfl⟩ := own_shape hown6; have hB6 := btB (bt HB.out hb4) hb6 (Nat.le_refl _)))
      go_roundw
      case rel =>
        refine ⟨j + 1, pl ++ xs, A6, c6, by omega, by go_num, by rw [List.length_append, HXN.out], by rw [List.map_append, HXM.out]; exact HS.out.symm, ?_, hB6⟩
        rw [List.length_append, HXN.out]
        exact (HOWN.out.below hb4).apps xs x.length HXN.out (fun y hy => ((off_sl (HXZ.out y hy) (fun k hk hT => by have := (HOWN.out.own.lt k hT).1; omega)).below HB.out).below hb4) hown6 hg6 hat6
      case measure => simp [intOf]; omega
    · have HJE : Hid (j = nc + 1) := by show _ = _; omega
      have hjl2 : ¬ ((j : Int) < (nc : Int) + 1) := by omega
      have HAL : Hid (pl.map (·.p) = L.filter (fun p => p.kind != 3)) := by
        show _ = _
        rw [HMAP.out, HJE.out, ← HCN.out, List.take_length, HFL.out]
      have hpl : pl.length = (L.filter (fun p => p.kind != 3)).length := by rw [← HAL.out, List.length_map]
      have hpa := HOWN.out.pks
      rw [HAL.out, hpl] at hpa
      rw [hpl]
      have HPA := Lib.hid hpa
      have HP1w := Lib.hid (HP1.out.below hb)
      have HBT := Lib.hid (bt HB3.out hb)
      clear HMAP HOWN HB HSZ HP2 hb HC2 hpl hpa HP1 HB3 HO0
      clear HNC HFL HPL HCN HAL HPM hj hj0 hjl HJE
      generalize (j : Int) = jj at hjl2 ⊢
      obtain ⟨wo, rfl⟩ : ∃ wo : World, wo = wr := ⟨_, rfl⟩
      have HO1 : Hid (POwn wo.heap.size (wo.alloc (.cells #[] 27)) (.slice (some ⟨wo.heap.size, 0, none⟩) 0 0) []) := ⟨own_empty wo 27 4 (by decide), by simp⟩
      go_wp2_with fail
      go_loopw [6, 7] (fun rest k wr => ∃ (j : Nat) (pl : List Pv) (A : Option Addr) (c : Nat), j ≤ L.length ∧ k = .int .i64 j ∧ rest = .slice A pl.length c ∧ pl.map (·.p) = (L.take j).filter (fun p => p.kind != 3) ∧ POwn wo.heap.size wr (.slice A pl.length c) pl ∧ Below wo.heap.size wo wr) (fun _ k _ => L.length - (intOf k).toNat)
      case atStart => exact ⟨0, [], _, _, Nat.zero_le _, rfl, rfl, rfl, HO1.out, al _ _⟩
      case round =>
        obtain ⟨j, pr, A9, c9, hj, rfl, rfl, hmap, hown, hb⟩ := hrel
        have HMAP := Lib.hid hmap
        have HOWN := Lib.hid hown
        have HB := Lib.hid hb
        have HSZ : Hid (wo.heap.size ≤ wr.heap.size) := hb.size
        have hj0 : (0 : Int) ≤ (j : Int) := Int.natCast_nonneg _
        have HT : Hid (pr.length + 1 ≤ maxLen ∧ (pr.length + 1) * 48 ≤ 140737488355328) := by
          have h1 := congrArg List.length hmap
          rw [List.length_map] at h1
          have h2 := List.length_filter_le (fun p : Pk => p.kind != 3) (L.take j)
          rw [List.length_take] at h2
          show _ ∧ _; unfold maxLen; constructor <;> omega
        clear hmap hown
        by_cases hjl : j < L.length
        · have hjl2 : (j : Int) < (L.length : Int) := by omega
          obtain ⟨b, off, c, hE0, hcc, hbt, hat⟩ := Pks.at_ (l := L) HP1w.out (by omega)
          cases hE0
          obtain ⟨A4, n4, x1, hz1'⟩ := hat j hjl
          have hat1 := four_at x1 hb
          have q0 := hat1.kind; have q1 := hat1.t; have q2 := hat1.i; have q3 := hat1.cut
          have HZ := Lib.hid hz1'
          have HST := Lib.hid (filt_take L j hjl)
          clear hat x1 hb hat1 hz1'
          generalize L[j] = x at q0 q1 q2 q3 HZ HST
          cases hk : (x.kind == 3)
          · have hk' : (x.kind != 3) = true := by unfold bne; rw [hk]; rfl
            have HS : Hid (pr.map (·.p) ++ [x] = (L.take (j + 1)).filter (fun p => p.kind != 3)) := by show _ = _; rw [HST.out, HMAP.out, hk]; rfl
            clear HST
            go_wp2_with (first
              | (at_builtin; refine wpl_appO rfl _ _ 22 rfl wo.heap.size 27 i0 _ 4 48 Tryd.underlying22 hi0 hz0 hz1 hz2 rfl (by decide) (.slice A9 pr.length c9) pr.length (pr.flatMap Pv.cells) rfl (HOWN.out.below (al wr _)).own (.slice (some ⟨wr.heap.size, 0, none⟩) 1 1) 1 ([(⟨x, .slice A4 x.cut.length n4⟩ : Pv)].flatMap Pv.cells) rfl (sl_pick wr ⟨x, .slice A4 x.cut.length n4⟩) (pick_one _ (by simp [Value.oneCell'])) HT.out.1 HT.out.2 (Nat.le_trans HSZ.out (al wr _).size) ?_; intro v6 w6 hown6 hb6 hg6 hat6; obtain ⟨A6, c6, rfl⟩ := own_shape hown6; have hB6 := btB (bt HB.out (al wr _)) hb6 (Nat.le_refl _)))
            go_roundw
            case rel =>
              refine ⟨j + 1, pr ++ [⟨x, .slice A4 x.cut.length n4⟩], A6, c6, by omega, by go_num, by rw [List.length_append]; rfl, by rw [List.map_append]; exact HS.out, ?_, hB6⟩
              rw [List.length_append]
              exact (HOWN.out.below (al wr _)).app ⟨x, .slice A4 x.cut.length n4⟩ (((off_sl HZ.out (fun k hk hT => by have := (HOWN.out.own.lt k hT).1; omega)).below HB.out).below (al wr _)) hown6 hg6 hat6
            case measure => simp [intOf]; omega
          · have hk' : (x.kind != 3) = false := by unfold bne; rw [hk]; rfl
            have HS : Hid (pr.map (·.p) = (L.take (j + 1)).filter (fun p => p.kind != 3)) := by show _ = _; rw [HST.out, HMAP.out, hk]; simp
            clear HST
            go_wp2_with fail
            go_roundw
            case rel => exact ⟨j + 1, pr, A9, c9, by omega, by go_num, rfl, HS.out, HOWN.out, HB.out⟩
            case measure => simp [intOf]; omega
        · obtain rfl : j = L.length := by omega
          have HAL : Hid (pr.map (·.p) = L.filter (fun p => p.kind != 3)) := by
            show _ = _
            rw [HMAP.out, List.take_length]
          have hpl : pr.length = (L.filter (fun p => p.kind != 3)).length := by rw [← HAL.out, List.length_map]
          have hpa := HOWN.out.pks
          rw [HAL.out, hpl] at hpa
          rw [hpl]
          have HPR := Lib.hid hpa
          have HPQ := Lib.hid (HPA.out.below hb)
          obtain ⟨hF1, hF2⟩ := HF2.out
          have HEW := Lib.hid (HE.out.below (bt HBT.out hb))
          clear HMAP HOWN HT HAL hpl hpa HPA HF2
          generalize L.filter (fun p => p.kind != 3) = F at HPR HPQ hF1 hF2 ⊢
          have HPK : Hid (Calls Tryd.prog 19 #[.slice A F.length cc, .slice A9 F.length c9] wr fun e w' => e = .returned (.bool true) ∧ Below wr.heap.size wr w') := by
            refine (rPicks_c F F (by omega) (by omega) (fun x hx => by have := hF2 x hx; omega) (fun x hx => by have := hF2 x hx; omega) _ _ wr HPQ.out HPR.out).mono ?_
            rintro e w' ⟨rfl, q, rfl⟩
            exact ⟨by simp, bdrN (Below.refl _ _) _⟩
          clear hF1 hF2 hb
          go_wp2_with (first
            | (go_at_call 19; (with_reducible refine (HPK.out).mono ?_); rintro e w7 ⟨rfl, hb7⟩)
            | (go_at_call 20; (with_reducible refine (fixed_c _ (HEW.out.below hb7)).mono ?_); rintro e w8 ⟨rfl, hb8⟩))
          go_ret
          exact ⟨rfl, bt HBT.out (bt HB.out (bt hb7 hb8))⟩
end Go.Proofs.YtimekgplallkiaaDoor

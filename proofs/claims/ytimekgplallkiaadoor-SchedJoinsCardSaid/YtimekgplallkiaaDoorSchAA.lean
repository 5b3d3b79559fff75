/- The laws on schedules: two schedules joined: the walk. -/
import Derived.Test.YtimekgplallkiaaDoorSchZ
namespace Go.Proofs.YtimekgplallkiaaDoor
open Go Go.RowKit
set_option linter.unusedVariables false
set_option maxRecDepth 100000 in
set_option maxHeartbeats 8000000 in
theorem lawJoins_c (l m : List Pk) (hl : l.length ≤ 9223372036854775807) (hm : m.length ≤ 9223372036854775807) (hln : ∀ x ∈ l, x.cut.length ≤ 9223372036854775807) (hmn : ∀ x ∈ m, x.cut.length ≤ 9223372036854775807) (v u : Value) (w : World) (hv : Pks w v l) (hu : Pks w u m) (hE : Env w) :
    Calls Tryd.prog 7 #[v, u] w (Yes w) := by
  obtain ⟨i0, hi0, hz0, hz1, hz2⟩ := info_parts info_pick
  have HE := Lib.hid hE
  have HCL := Lib.hid (pCut_c l hl hln v w hv)
  have HCM : Hid (∀ W, Below w.heap.size w W → Calls Tryd.prog 8 #[u] W fun e w' => ∃ A c, e = .returned (.slice A (cutPs m).length c) ∧ Pks w' (.slice A (cutPs m).length c) (cutPs m) ∧ Below W.heap.size W w') := fun W hW => pCut_c m hm hmn u W (hu.below hW)
  have hl4 := cutPs_len l
  have hm4 := cutPs_len m
  have hlc := cutPs_cut l
  have hmc := cutPs_cut m
  obtain ⟨A0, c0, rfl, hc0⟩ := hv.shape
  obtain ⟨A1, c1, rfl, hc1⟩ := hu.shape
  clear hE hv hu hl hm hln hmn hc0 hc1
  generalize cutPs l = L at HCL hl4 hlc
  generalize cutPs m = M at HCM hm4 hmc
  go_enter Tryd.func7, Tryd.ntmps7
  go_wp2_with (first
    | (go_at_call 8; (with_reducible refine (HCL.out).mono ?_); rintro e w1 ⟨A2, c2, rfl, hp1, hb1⟩)
    | (go_at_call 8; (with_reducible refine (HCM.out _ hb1).mono ?_); rintro e w2 ⟨A3, c3, rfl, hp2, hb2⟩; have HP1 := Lib.hid (hp1.below hb2); have HP2 := Lib.hid hp2; have HB2 := Lib.hid (bt hb1 hb2); clear hp1 hp2 hb1 hb2))
  have HLC := Lib.hid hlc
  have HMC := Lib.hid hmc
  clear HCL HCM hlc hmc
  go_loopw [5] (fun k wr => ∃ j : Nat, j ≤ L.length ∧ k = .int .i64 j ∧ Below w2.heap.size w2 wr ∧ ∀ j' (h : j' < L.length), j' < j → rightK L[j'] = true) (fun k _ => L.length - (intOf k).toNat)
  case atStart => exact ⟨0, Nat.zero_le _, rfl, Below.refl _ _, fun _ _ h => absurd h (by omega)⟩
  case round =>
    obtain ⟨j, hj, rfl, hb, hall⟩ := hrel
    have HB := Lib.hid hb
    have HALL := Lib.hid hall
    clear hall
    have hj0 : (0 : Int) ≤ (j : Int) := Int.natCast_nonneg _
    by_cases hjl : j < L.length
    · have hjl2 : (j : Int) < (L.length : Int) := by omega
      obtain ⟨b, off, c, hE0, hcc, hbt, hat⟩ := Pks.at_ (l := L) HP1.out (by omega)
      cases hE0
      obtain ⟨A4, n4, x1, hz1⟩ := hat j hjl
      have hat1 := four_at x1 hb
      have q0 := hat1.kind; have q1 := hat1.t; have q2 := hat1.i; have q3 := hat1.cut
      have hz1 := SlN.below hz1 hb
      have hcl := HLC.out _ (List.getElem_mem hjl)
      have HST : Hid (rightK L[j] = true → ∀ j' (h : j' < L.length), j' < j + 1 → rightK L[j'] = true) := fun hr j' h hlt => by
        by_cases hjj : j' < j
        · exact HALL.out j' h hjj
        · obtain rfl : j' = j := by omega
          exact hr
      clear hat x1 hb hat1
      generalize L[j] = x at q0 q1 q2 q3 hz1 hcl HST
      have RP : Hid (Calls Tryd.prog 9 #[.agg #[.int .i64 x.kind, .int .i64 x.t, .int .i64 x.i, .slice A4 x.cut.length n4]] wr fun e w' => e = .returned (.bool (rightK x)) ∧ Below wr.heap.size wr w') := pRight_c x _ wr (by omega) hz1
      have HEW := Lib.hid (HE.out.below (bt HB2.out HB.out))
      clear hz1 hcl
      generalize rightK x = rb at RP HST
      cases rb
      · go_wp2_with (first
          | (go_at_call 9; (with_reducible refine (RP.out).mono ?_); rintro e w3 ⟨rfl, hb3⟩)
          | (go_at_call 20; (with_reducible refine (fixed_c _ (HEW.out.below hb3)).mono ?_); rintro e w4 ⟨rfl, hb4⟩))
        go_ret
        exact ⟨rfl, bt HB2.out (bt HB.out (bt hb3 hb4))⟩
      · go_wp2_with (first
          | (go_at_call 9; (with_reducible refine (RP.out).mono ?_); rintro e w3 ⟨rfl, hb3⟩))
        go_roundw
        case rel => exact ⟨j + 1, by omega, by go_num, bt HB.out hb3, HST.out (by trivial)⟩
        case measure => simp [intOf]; omega
    · have HLR := Lib.hid (all_upto (l := L) (fun j' h => HALL.out j' h (by omega)))
      have HP1w := Lib.hid (HP1.out.below hb)
      have HP2w := Lib.hid (HP2.out.below hb)
      have HBT := Lib.hid (bt HB2.out hb)
      have hjl2 : ¬ ((j : Int) < (L.length : Int)) := by omega
      clear HALL HB hb HP1 HP2 HB2 hj hj0 hjl
      generalize (j : Int) = jj at hjl2 ⊢
      obtain ⟨wo, rfl⟩ : ∃ wo : World, wo = wr := ⟨_, rfl⟩
      go_wp2_with fail
      go_loopw [6] (fun k wr => ∃ j : Nat, j ≤ M.length ∧ k = .int .i64 j ∧ Below wo.heap.size wo wr ∧ ∀ j' (h : j' < M.length), j' < j → rightK M[j'] = true) (fun k _ => M.length - (intOf k).toNat)
      case atStart => exact ⟨0, Nat.zero_le _, rfl, Below.refl _ _, fun _ _ h => absurd h (by omega)⟩
      case round =>
        obtain ⟨j, hj, rfl, hb, hall⟩ := hrel
        have HB := Lib.hid hb
        have HALL := Lib.hid hall
        clear hall
        have hj0 : (0 : Int) ≤ (j : Int) := Int.natCast_nonneg _
        by_cases hjm : j < M.length
        · have hjm2 : (j : Int) < (M.length : Int) := by omega
          obtain ⟨b, off, c, hE0, hcc, hbt, hat⟩ := Pks.at_ (l := M) HP2w.out (by omega)
          cases hE0
          obtain ⟨A4, n4, x1, hz1⟩ := hat j hjm
          have hat1 := four_at x1 hb
          have q0 := hat1.kind; have q1 := hat1.t; have q2 := hat1.i; have q3 := hat1.cut
          have hz1 := SlN.below hz1 hb
          have hcl := HMC.out _ (List.getElem_mem hjm)
          have HST : Hid (rightK M[j] = true → ∀ j' (h : j' < M.length), j' < j + 1 → rightK M[j'] = true) := fun hr j' h hlt => by
            by_cases hjj : j' < j
            · exact HALL.out j' h hjj
            · obtain rfl : j' = j := by omega
              exact hr
          clear hat x1 hb hat1
          generalize M[j] = x at q0 q1 q2 q3 hz1 hcl HST
          have RP : Hid (Calls Tryd.prog 9 #[.agg #[.int .i64 x.kind, .int .i64 x.t, .int .i64 x.i, .slice A4 x.cut.length n4]] wr fun e w' => e = .returned (.bool (rightK x)) ∧ Below wr.heap.size wr w') := pRight_c x _ wr (by omega) hz1
          have HEW := Lib.hid (HE.out.below (bt HBT.out HB.out))
          clear hz1 hcl
          generalize rightK x = rb at RP HST
          cases rb
          · go_wp2_with (first
              | (go_at_call 9; (with_reducible refine (RP.out).mono ?_); rintro e w3 ⟨rfl, hb3⟩)
              | (go_at_call 20; (with_reducible refine (fixed_c _ (HEW.out.below hb3)).mono ?_); rintro e w4 ⟨rfl, hb4⟩))
            go_ret
            exact ⟨rfl, bt HBT.out (bt HB.out (bt hb3 hb4))⟩
          · go_wp2_with (first
              | (go_at_call 9; (with_reducible refine (RP.out).mono ?_); rintro e w3 ⟨rfl, hb3⟩))
            go_roundw
            case rel => exact ⟨j + 1, by omega, by go_num, bt HB.out hb3, HST.out (by trivial)⟩
            case measure => simp [intOf]; omega
        · have hmr := all_upto (l := M) (fun j' h => HALL.out j' h (by omega))
          have hlr := HLR.out
          have hlc := HLC.out
          have hmc := HMC.out
          have hal := all_app hlr hmr
          have h20 := all_cut hal
          have hlen : (L ++ M).length = L.length + M.length := List.length_append
          have HBF := Lib.hid (bt HBT.out hb)
          have HEU : Hid (∀ u, Below wr.heap.size wr u → Env u) := fun u hu => HE.out.below (bt HBF.out hu)
          have HLU : Hid (∀ u, Below wr.heap.size wr u → Pks u (.slice A2 L.length c2) L) := fun u hu => (HP1w.out.below hb).below hu
          have HMU : Hid (∀ u, Below wr.heap.size wr u → Pks u (.slice A3 M.length c3) M) := fun u hu => (HP2w.out.below hb).below hu
          have hs1 : (str (textK L)).size ≤ 10000 := by have := textK_len L hlr; rw [str_size]; omega
          have hs2 : (str (textK M)).size ≤ 10000 := by have := textK_len M hmr; rw [str_size]; omega
          have HST : Hid (str (textK L) ++ str (textK M) = str (textK (L ++ M))) := by show _ = _; rw [str_snoc, text_app]
          have HSL : Hid (∀ u, Below wr.heap.size wr u → Calls Tryd.prog 11 #[.slice A2 L.length c2] u fun e w' => e = .returned (.string (str (textK L))) ∧ Below u.heap.size u w') := fun u hu => by
            have := pShow_c L (by omega) (fun x hx => by have := hlc x hx; omega) _ u (HLU.out u hu) (HEU.out u hu)
            rwa [show_all hlr] at this
          have HSM : Hid (∀ u, Below wr.heap.size wr u → Calls Tryd.prog 11 #[.slice A3 M.length c3] u fun e w' => e = .returned (.string (str (textK M))) ∧ Below u.heap.size u w') := fun u hu => by
            have := pShow_c M (by omega) (fun x hx => by have := hmc x hx; omega) _ u (HMU.out u hu) (HEU.out u hu)
            rwa [show_all hmr] at this
          have HSA : Hid (∀ u v, Pks u v (L ++ M) → Env u → Calls Tryd.prog 11 #[v] u fun e w' => e = .returned (.string (str (textK L) ++ str (textK M))) ∧ Below u.heap.size u w') := fun u v hv hu => by
            have := pShow_c (L ++ M) (by omega) (fun x hx => by have := h20 x hx; omega) v u hv hu
            rw [show_all hal, ← HST.out] at this
            exact this
          have HPA : Hid (∀ u, Env u → Calls Tryd.prog 21 #[.string (str (textK L) ++ str (textK M))] u fun r w' => ∃ A c, r = .returned (.tuple #[.slice A (L.length + M.length) c, .int .i64 0, .int .i64 0]) ∧ Pks w' (.slice A (L.length + M.length) c) (L ++ M) ∧ Below u.heap.size u w') := fun u hu => by
            have := pparse_at (textK (L ++ M)) (by have := textK_len _ hal; omega) (L ++ M) 0 0 (parse_shown _ hal (by omega)) u hu
            rw [HST.out, ← hlen]
            exact this
          have HPK : Hid (∀ u v v2, Pks u v (L ++ M) → Pks u v2 (L ++ M) → Calls Tryd.prog 19 #[v, v2] u fun e w' => e = .returned (.bool true) ∧ Below u.heap.size u w') := fun u v v2 h1 h2 => by
            refine (rPicks_c _ _ (by omega) (by omega) (fun x hx => by have := h20 x hx; omega) (fun x hx => by have := h20 x hx; omega) v v2 u h1 h2).mono ?_
            rintro e w' ⟨rfl, q, rfl⟩
            exact ⟨by simp, bdrN (Below.refl _ _) _⟩
          have hnl := crash_le L
          have hnm := crash_le M
          have HCA : Hid (∀ u v, Pks u v (L ++ M) → Calls Tryd.prog 13 #[v] u fun e w' => e = .returned (.int .i64 ((crashK L : Int) + (crashK M : Int))) ∧ Below u.heap.size u w') := fun u v hv => by
            have := pCrashes_c (L ++ M) (by omega) (fun x hx => by have := h20 x hx; omega) v u hv
            rwa [crash_app, Int.natCast_add] at this
          have HCL2 : Hid (∀ u, Below wr.heap.size wr u → Calls Tryd.prog 13 #[.slice A2 L.length c2] u fun e w' => e = .returned (.int .i64 (crashK L)) ∧ Below u.heap.size u w') := fun u hu => pCrashes_c L (by omega) (fun x hx => by have := hlc x hx; omega) _ u (HLU.out u hu)
          have HCM2 : Hid (∀ u, Below wr.heap.size wr u → Calls Tryd.prog 13 #[.slice A3 M.length c3] u fun e w' => e = .returned (.int .i64 (crashK M)) ∧ Below u.heap.size u w') := fun u hu => pCrashes_c M (by omega) (fun x hx => by have := hmc x hx; omega) _ u (HMU.out u hu)
          have HKA : Hid (∀ u v, Pks u v (L ++ M) → Calls Tryd.prog 16 #[v] u fun e w' => (∃ A c, e = .returned (.slice A (crashK L + crashK M + 1) c)) ∧ Below u.heap.size u w') := fun u v hv => by
            refine (pCuts_c (L ++ M) (by omega) (fun x hx => by have := h20 x hx; omega) v u hv).mono ?_
            rintro e w' ⟨A, c, he, _, hb⟩
            rw [cuts_len, crash_app] at he
            exact ⟨⟨A, c, he⟩, hb⟩
          have HKL : Hid (∀ u, Below wr.heap.size wr u → Calls Tryd.prog 16 #[.slice A2 L.length c2] u fun e w' => (∃ A c, e = .returned (.slice A (crashK L + 1) c)) ∧ Below u.heap.size u w') := fun u hu => by
            refine (pCuts_c L (by omega) (fun x hx => by have := hlc x hx; omega) _ u (HLU.out u hu)).mono ?_
            rintro e w' ⟨A, c, he, _, hb⟩
            rw [cuts_len] at he
            exact ⟨⟨A, c, he⟩, hb⟩
          have HKM : Hid (∀ u, Below wr.heap.size wr u → Calls Tryd.prog 16 #[.slice A3 M.length c3] u fun e w' => (∃ A c, e = .returned (.slice A (crashK M + 1) c)) ∧ Below u.heap.size u w') := fun u hu => by
            refine (pCuts_c M (by omega) (fun x hx => by have := hmc x hx; omega) _ u (HMU.out u hu)).mono ?_
            rintro e w' ⟨A, c, he, _, hb⟩
            rw [cuts_len] at he
            exact ⟨⟨A, c, he⟩, hb⟩
          have HT1 : Hid (0 + L.length ≤ maxLen ∧ (0 + L.length) * 48 ≤ 140737488355328) := by show _ ∧ _; unfold maxLen; constructor <;> omega
          have HT2 : Hid (L.length + M.length ≤ maxLen ∧ (L.length + M.length) * 48 ≤ 140737488355328) := by show _ ∧ _; unfold maxLen; constructor <;> omega
          have HF := Lib.hid (own_fresh wr)
          have HB0 := Lib.hid (al wr (.cells #[] 27))
          obtain ⟨xs, hxm, hxn, hxs, hxz, hx1⟩ := pks_open (HLU.out wr (Below.refl _ _))
          obtain ⟨ys, hym, hyn, hys, hyz, hy1⟩ := pks_open (HMU.out wr (Below.refl _ _))
          have HXM := Lib.hid hxm; have HXN := Lib.hid hxn; have HXS := Lib.hid hxs; have HXZ := Lib.hid hxz; have HX1 := Lib.hid (pick_one xs hx1)
          have HYM := Lib.hid hym; have HYN := Lib.hid hyn; have HYS := Lib.hid hys; have HYZ := Lib.hid hyz; have HY1 := Lib.hid (pick_one ys hy1)
          have hjm2 : ¬ ((j : Int) < (M.length : Int)) := by omega
          have hnl2 : crashK L ≤ 40 := by omega
          have hnm2 : crashK M ≤ 40 := by omega
          clear hxm hxn hxs hxz hx1 hym hyn hys hyz hy1 hmr hlr hlc hmc hal h20 hlen hb hnl hnm HALL HP1w HP2w hj hj0 hjm HLR HST
          generalize (j : Int) = ji at hjm2 ⊢
          generalize str (textK L) = sl at hs1 HSL HSA HPA
          generalize str (textK M) = sm at hs2 HSM HSA HPA
          generalize crashK L = nl at HCA HCL2 HKA HKL hnl2
          generalize crashK M = nm at HCA HCM2 HKA HKM hnm2
          go_upto_region 15 with (first
            | (at_builtin; refine wpl_appO rfl (.tmp 42) _ 22 rfl wr.heap.size 27 i0 _ 4 48 Tryd.underlying22 hi0 hz0 hz1 hz2 rfl (by decide) (.slice (some ⟨wr.heap.size, 0, none⟩) 0 0) 0 [] rfl HF.out.own (.slice A2 L.length c2) L.length (xs.flatMap Pv.cells) rfl (SlN.below HXS.out HB0.out) HX1.out HT1.out.1 HT1.out.2 HB0.out.size ?_; intro v6 w6 hown6 hb6 hg6 hat6; have hO6 := HF.out.apps xs L.length HXN.out (fun y hy => (off_sl (HXZ.out y hy) (fun k hk hT => by simp only [ownS, Value.ownBlock, Option.some.injEq] at hT; omega)).below HB0.out) hown6 hg6 hat6; rw [Nat.zero_add] at hown6; obtain ⟨A6, c6, rfl⟩ := own_shape hown6; have hB6 : Below wr.heap.size wr w6 := btB HB0.out hb6 (Nat.le_refl _); clear hb6 hg6 hat6)
            | (at_builtin; refine wpl_appO rfl (.tmp 45) _ 22 rfl wr.heap.size 27 i0 _ 4 48 Tryd.underlying22 hi0 hz0 hz1 hz2 rfl (by decide) (.slice A6 L.length c6) L.length (xs.flatMap Pv.cells) rfl hown6 (.slice A3 M.length c3) M.length (ys.flatMap Pv.cells) rfl (SlN.below HYS.out hB6) HY1.out HT2.out.1 HT2.out.2 hB6.size ?_; intro v7 w7 hown7 hb7 hg7 hat7; have HO7 := Lib.hid (own_apps_of hO6 ys HXN.out HYN.out (fun y hy => (off_sl (HYZ.out y hy) (fun k hk hT => by have := (hown6.lt k hT).1; omega)).below hB6) hown7 hg7 hat7); obtain ⟨A7, c7, rfl⟩ := own_shape hown7; have h7 : Below wr.heap.size wr w7 := btB hB6 hb7 (Nat.le_refl _); clear hb7 hg7 hat7 hown7 hown6 hO6 hB6))
          have hpa := HO7.out.pks
          rw [List.map_append, HXM.out, HYM.out] at hpa
          have HALU : Hid (∀ u, Below w7.heap.size w7 u → Pks u (.slice A7 (L.length + M.length) c7) (L ++ M)) := fun u hu => hpa.below hu
          have HEU7 : Hid (∀ u, Below w7.heap.size w7 u → Env u) := fun u hu => HEU.out u (bt h7 hu)
          have HSL7 := Lib.hid (fun u (hu : Below w7.heap.size w7 u) => HSL.out u (bt h7 hu))
          have HSM7 := Lib.hid (fun u (hu : Below w7.heap.size w7 u) => HSM.out u (bt h7 hu))
          have HCL7 := Lib.hid (fun u (hu : Below w7.heap.size w7 u) => HCL2.out u (bt h7 hu))
          have HCM7 := Lib.hid (fun u (hu : Below w7.heap.size w7 u) => HCM2.out u (bt h7 hu))
          have HKL7 := Lib.hid (fun u (hu : Below w7.heap.size w7 u) => HKL.out u (bt h7 hu))
          have HKM7 := Lib.hid (fun u (hu : Below w7.heap.size w7 u) => HKM.out u (bt h7 hu))
          have HB7 := Lib.hid (bt HBF.out h7)
          clear hpa HO7 HXM HXN HXS HXZ HX1 HYM HYN HYS HYZ HY1 HF HB0 HLU HMU HEU HSL HSM HCL2 HCM2 HKL HKM h7
          go_wp2_with (first
            | (go_at_call 11; (with_reducible refine (HSL7.out _ (Below.refl _ _)).mono ?_); rintro e w8 ⟨rfl, h8⟩)
            | (go_at_call 11; (with_reducible refine (HSM7.out _ h8).mono ?_); rintro e w9 ⟨rfl, hb9⟩; have h9 := bt h8 hb9; clear hb9 h8)
            | (go_at_call 21; (with_reducible refine (HPA.out _ (HEU7.out _ h9)).mono ?_); rintro e w10 ⟨A10, c10, rfl, hp10, hb10⟩; have h10 := bt h9 hb10; clear hb10 h9)
            | (go_at_call 11; (with_reducible refine (HSA.out _ _ (HALU.out _ h10) (HEU7.out _ h10)).mono ?_); rintro e w11 ⟨rfl, hb11⟩; have h11 := bt h10 hb11; have hp11 := hp10.below hb11; clear hb11 h10 hp10)
            | (go_at_call 19; (with_reducible refine (HPK.out _ _ _ hp11 (HALU.out _ h11)).mono ?_); rintro e w12 ⟨rfl, hb12⟩; have h12 := bt h11 hb12; clear hb12 h11 hp11)
            | (go_at_call 13; (with_reducible refine (HCA.out _ _ (HALU.out _ h12)).mono ?_); rintro e w13 ⟨rfl, hb13⟩; have h13 := bt h12 hb13; clear hb13 h12)
            | (go_at_call 13; (with_reducible refine (HCL7.out _ h13).mono ?_); rintro e w14 ⟨rfl, hb14⟩; have h14 := bt h13 hb14; clear hb14 h13)
            | (go_at_call 13; (with_reducible refine (HCM7.out _ h14).mono ?_); rintro e w15 ⟨rfl, hb15⟩; have h15 := bt h14 hb15; clear hb15 h14)
            | (go_at_call 16; (with_reducible refine (HKA.out _ _ (HALU.out _ h15)).mono ?_); rintro e w16 ⟨⟨A16, c16, rfl⟩, hb16⟩; have h16 := bt h15 hb16; clear hb16 h15)
            | (go_at_call 16; (with_reducible refine (HKL7.out _ h16).mono ?_); rintro e w17 ⟨⟨A17, c17, rfl⟩, hb17⟩; have h17 := bt h16 hb17; clear hb17 h16)
            | (go_at_call 16; (with_reducible refine (HKM7.out _ h17).mono ?_); rintro e w18 ⟨⟨A18, c18, rfl⟩, hb18⟩; have h18 := bt h17 hb18; clear hb18 h17)
            | (go_at_call 20; (with_reducible refine (fixed_c _ (HEU7.out _ h18)).mono ?_); rintro e w19 ⟨rfl, hb19⟩; have h19 := bt h18 hb19; clear hb19 h18))
          go_ret
          exact ⟨rfl, bt HB7.out h19⟩
end Go.Proofs.YtimekgplallkiaaDoor

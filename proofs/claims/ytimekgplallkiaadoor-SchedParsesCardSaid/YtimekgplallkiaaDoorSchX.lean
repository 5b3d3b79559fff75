/- The laws on schedules: parsing, telling: the walks. -/
import Derived.Test.YtimekgplallkiaaDoorSchW
namespace Go.Proofs.YtimekgplallkiaaDoor
open Go Go.RowKit
set_option linter.unusedVariables false
theorem cut_str (s : ByteArray) (n : Nat) (h : n ≤ 1500) : (str (s.data.toList.take n)).size ≤ 1500 := by
  rw [str_size, List.length_take]; omega
set_option maxRecDepth 100000 in
set_option maxHeartbeats 8000000 in
theorem lawParses_c (s : ByteArray) (hz : s.size ≤ 9223372036854775807) (w : World) (hE : Env w) :
    Calls Tryd.prog 4 #[.string s] w (Yes w) := by
  have HE := Lib.hid hE
  clear hE
  go_enter Tryd.func4, Tryd.ntmps4
  go_upto_region 2 with fail
  have ht := cut_size s 1500
  simp only [Int.cast_ofNat_Int] at ht
  generalize s.extract 0 (min (s.size : Int) 1500).toNat = t at ht ⊢
  obtain ⟨hl, hc⟩ := parse_small t.data.toList (by rw [data_len]; omega)
  have HPP : Hid (∀ u, Env u → Calls Tryd.prog 21 #[.string t] u fun e w' => ∃ A c, e = .returned (.tuple #[.slice A (parseK t.data.toList).1.length c, .int .i64 (parseK t.data.toList).2.1, .int .i64 (parseK t.data.toList).2.2]) ∧ Pks w' (.slice A (parseK t.data.toList).1.length c) (parseK t.data.toList).1 ∧ Below u.heap.size u w') := fun u hu => by
    have h := pparse_c t.data.toList (by rw [data_len]; omega) u hu
    rw [str_of] at h
    exact h.mono fun e w' h => par_shape h
  have HPR : Hid (∀ u, Calls Tryd.prog 22 #[.string t] u fun e w' => ∃ A c, e = .returned (.tuple #[.slice A (parseK t.data.toList).1.length c, .int .i64 (parseK t.data.toList).2.1, .int .i64 (parseK t.data.toList).2.2]) ∧ Pks w' (.slice A (parseK t.data.toList).1.length c) (parseK t.data.toList).1 ∧ Below u.heap.size u w') := fun u =>
    (rparseS_c t (by omega) u).mono fun e w' h => par_shape h
  generalize parseK t.data.toList = R at HPP HPR hl hc
  obtain ⟨P, e0, p0⟩ := R
  simp only at HPP HPR hl hc
  have HPK : Hid (∀ u v v2, Pks u v P → Pks u v2 P → Calls Tryd.prog 19 #[v, v2] u fun e w' => e = .returned (.bool true) ∧ Below u.heap.size u w') := fun u v v2 h1 h2 => by
    refine (rPicks_c P P (by omega) (by omega) (fun x hx => by have := hc x hx; omega) (fun x hx => by have := hc x hx; omega) v v2 u h1 h2).mono ?_
    rintro e w' ⟨rfl, q, rfl⟩
    exact ⟨by simp, bdrN (Below.refl _ _) _⟩
  clear hc hl
  go_wp2_with (first
    | (go_at_call 21; refine (HPP.out _ HE.out).mono ?_; rintro e w1 ⟨A1, c1, rfl, hp1, hb1⟩)
    | (go_at_call 22; refine (HPR.out _).mono ?_; rintro e w2 ⟨A2, c2, rfl, hp2, hb2⟩; have HP1 := Lib.hid (hp1.below hb2); have HP2 := Lib.hid hp2; have HB2 := Lib.hid (bt hb1 hb2); clear hp1 hp2 hb1 hb2)
    | (go_at_call 19; refine (HPK.out _ _ _ HP1.out HP2.out).mono ?_; rintro e w3 ⟨rfl, hb3⟩; have HB3 := Lib.hid (bt HB2.out hb3); clear hb3)
    | (go_at_call 20; refine (fixed_c _ (HE.out.below HB3.out)).mono ?_; rintro e w4 ⟨rfl, hb4⟩))
  go_ret
  exact ⟨rfl, bt HB3.out hb4⟩
theorem cuts_mem {l x : List Pk} {p : Pk} (hx : x ∈ cutsK l) (hp : p ∈ x) : p ∈ l := by
  have h : p ∈ (cutsK l).flatten := List.mem_flatten.2 ⟨x, hx, hp⟩
  rw [cuts_flat] at h
  exact (List.mem_filter.1 h).1
set_option maxRecDepth 100000 in
set_option maxHeartbeats 8000000 in
theorem lawTells_c (l m : List Pk) (hl : l.length ≤ 9223372036854775807) (hm : m.length ≤ 9223372036854775807) (hln : ∀ x ∈ l, x.cut.length ≤ 9223372036854775807) (hmn : ∀ x ∈ m, x.cut.length ≤ 9223372036854775807) (v u : Value) (w : World) (hv : Pks w v l) (hu : Pks w u m) (hE : Env w) :
    Calls Tryd.prog 3 #[v, u] w (Yes w) := by
  have HE := Lib.hid hE
  have HCL := Lib.hid (pCut_c l hl hln v w hv)
  have HCM : Hid (∀ W, Below w.heap.size w W → Calls Tryd.prog 8 #[u] W fun e w' => ∃ A c, e = .returned (.slice A (cutPs m).length c) ∧ Pks w' (.slice A (cutPs m).length c) (cutPs m) ∧ Below W.heap.size W w') := fun W hW => pCut_c m hm hmn u W (hu.below hW)
  have hl4 := cutPs_len l
  have hm4 := cutPs_len m
  have hlc := cutPs_cut l
  have hmc := cutPs_cut m
  obtain ⟨A0, c0, rfl, hc0⟩ := hv.shape
  obtain ⟨A1, c1, rfl, hc1⟩ := hu.shape
  clear hE hv hu hl hm hln hmn hc0 hc1
  generalize cutPs l = L at HCL hl4 hlc
  generalize cutPs m = M at HCM hm4 hmc
  go_enter Tryd.func3, Tryd.ntmps3
  go_wp2_with (first
    | (go_at_call 8; (with_reducible refine (HCL.out).mono ?_); rintro e w1 ⟨A2, c2, rfl, hp1, hb1⟩)
    | (go_at_call 8; (with_reducible refine (HCM.out _ hb1).mono ?_); rintro e w2 ⟨A3, c3, rfl, hp2, hb2⟩; have HP1 := Lib.hid (hp1.below hb2); have HP2 := Lib.hid hp2; have HB2 := Lib.hid (bt hb1 hb2); clear hp1 hp2 hb1 hb2))
  have HLC := Lib.hid hlc
  have HMC := Lib.hid hmc
  clear HCL HCM hlc hmc
  go_loopw [5] (fun k wr => ∃ j : Nat, j ≤ L.length ∧ k = .int .i64 j ∧ Below w2.heap.size w2 wr) (fun k _ => L.length - (intOf k).toNat)
  case atStart => exact ⟨0, Nat.zero_le _, rfl, Below.refl _ _⟩
  case round =>
    obtain ⟨j, hj, rfl, hb⟩ := hrel
    have HB := Lib.hid hb
    have hj0 : (0 : Int) ≤ (j : Int) := Int.natCast_nonneg _
    by_cases hjl : j < L.length
    · have hjl2 : (j : Int) < (L.length : Int) := by omega
      obtain ⟨b, off, c, hE0, hcc, hbt, hat⟩ := Pks.at_ (l := L) HP1.out (by omega)
      cases hE0
      obtain ⟨A4, n4, x1, hz1⟩ := hat j hjl
      have hat1 := four_at x1 hb
      have hz1 := SlN.below hz1 hb
      have hcl := HLC.out _ (List.getElem_mem hjl)
      clear hat x1 hb
      generalize L[j] = x at hat1 hz1 hcl
      have HX : Hid (∀ u, Below wr.heap.size wr u → u.cell? ⟨b, off + j * 4, none⟩ = some (.int .i64 x.kind) ∧ u.cell? ⟨b, off + j * 4 + 1, none⟩ = some (.int .i64 x.t) ∧ u.cell? ⟨b, off + j * 4 + 2, none⟩ = some (.int .i64 x.i) ∧ u.cell? ⟨b, off + j * 4 + 3, none⟩ = some (.slice A4 x.cut.length n4)) := fun u hu => by
        have h := four_at hat1 hu
        exact ⟨h.kind, h.t, h.i, h.cut⟩
      have RP : Hid (∀ u, Below wr.heap.size wr u → Calls Tryd.prog 9 #[.agg #[.int .i64 x.kind, .int .i64 x.t, .int .i64 x.i, .slice A4 x.cut.length n4]] u fun e w' => e = .returned (.bool (rightK x)) ∧ Below u.heap.size u w') := fun u hu => pRight_c x _ u (by omega) (SlN.below hz1 hu)
      have RR : Hid (∀ u, Below wr.heap.size wr u → Calls Tryd.prog 10 #[.agg #[.int .i64 x.kind, .int .i64 x.t, .int .i64 x.i, .slice A4 x.cut.length n4]] u fun e w' => e = .returned (.bool (rightK x)) ∧ Below u.heap.size u w') := fun u hu => rRight_c x _ u (by omega) (SlN.below hz1 hu)
      clear hat1 hz1 hcl
      generalize rightK x = rb at RP RR
      cases rb
      all_goals
        obtain ⟨q0, q1, q2, q3⟩ := HX.out wr (Below.refl _ _)
        go_upto_region 6 with fail
        go_region_held3 (fun w' => w'.cell? ⟨b, off + j * 4, none⟩ = some (.int .i64 x.kind) ∧ w'.cell? ⟨b, off + j * 4 + 1, none⟩ = some (.int .i64 x.t) ∧ w'.cell? ⟨b, off + j * 4 + 2, none⟩ = some (.int .i64 x.i) ∧ w'.cell? ⟨b, off + j * 4 + 3, none⟩ = some (.slice A4 x.cut.length n4))
          (exact HX.out _ (by repeat (first | exact Below.refl _ _ | assumption | refine bdrN ?_ _ | refine bdr ?_)))
          (first
            | (go_at_call 9; (with_reducible refine (RP.out _ (by repeat (first | exact Below.refl _ _ | assumption | refine bdrN ?_ _ | refine bdr ?_))).mono ?_); rintro e w3 ⟨rfl, hb3⟩; have h3 : Below wr.heap.size wr w3 := bt (by repeat (first | exact Below.refl _ _ | assumption | refine bdrN ?_ _ | refine bdr ?_)) hb3; clear hb3)
            | (go_at_call 10; (with_reducible refine (RR.out _ h3).mono ?_); rintro e w4 ⟨rfl, hb4⟩; have h4 : Below wr.heap.size wr w4 := bt h3 hb4; clear hb4))
        all_goals
          go_wp2_with fail
          go_roundw
          case rel => exact ⟨j + 1, by omega, by go_num, bt HB.out h4⟩
          case measure => simp [intOf]; omega
    · have hlc := HLC.out
      have hmc := HMC.out
      have HLU : Hid (∀ u, Below wr.heap.size wr u → Pks u (.slice A2 L.length c2) L) := fun u hu => (HP1.out.below hb).below hu
      have HMU : Hid (∀ u, Below wr.heap.size wr u → Pks u (.slice A3 M.length c3) M) := fun u hu => (HP2.out.below hb).below hu
      have HEU : Hid (∀ u, Below wr.heap.size wr u → Env u) := fun u hu => HE.out.below (bt (bt HB2.out hb) hu)
      have HBF := Lib.hid (bt HB2.out hb)
      have HSH : Hid (∀ u, Below wr.heap.size wr u → Calls Tryd.prog 11 #[.slice A2 L.length c2] u fun e w' => e = .returned (.string (str (showK L))) ∧ Below u.heap.size u w') := fun u hu => pShow_c L (by omega) (fun x hx => by have := hlc x hx; omega) _ u (HLU.out u hu) (HEU.out u hu)
      have HSR : Hid (∀ u, Below wr.heap.size wr u → Calls Tryd.prog 12 #[.slice A2 L.length c2] u fun e w' => e = .returned (.string (str (showK L))) ∧ Below u.heap.size u w') := fun u hu => rShow_c L (by omega) (fun x hx => by have := hlc x hx; omega) _ u (HLU.out u hu)
      have HCP : Hid (∀ u, Below wr.heap.size wr u → Calls Tryd.prog 13 #[.slice A2 L.length c2] u fun e w' => e = .returned (.int .i64 (crashK L)) ∧ Below u.heap.size u w') := fun u hu => pCrashes_c L (by omega) (fun x hx => by have := hlc x hx; omega) _ u (HLU.out u hu)
      have HCR : Hid (∀ u, Below wr.heap.size wr u → Calls Tryd.prog 14 #[.slice A2 L.length c2] u fun e w' => e = .returned (.int .i64 (crashK L)) ∧ u = w') := fun u hu => rCrashes_c L (by omega) _ u (HLU.out u hu)
      have HKP : Hid (∀ u, Below wr.heap.size wr u → Calls Tryd.prog 16 #[.slice A2 L.length c2] u (CutPost L u)) := fun u hu => pCuts_c L (by omega) (fun x hx => by have := hlc x hx; omega) _ u (HLU.out u hu)
      have HKR : Hid (∀ u, Below wr.heap.size wr u → Calls Tryd.prog 17 #[.slice A2 L.length c2] u (CutPost L u)) := fun u hu => rCuts_c L (by omega) _ u (HLU.out u hu)
      have hok : RowsOk (cutsK L) := ⟨by have := cuts_le L; omega, fun x hx => ⟨by have := part_le hx; omega, fun p hp => by have := hlc p (cuts_mem hx hp); omega⟩⟩
      have HRW : Hid (∀ u v1 v2, PRs u v1 (cutsK L) → PRs u v2 (cutsK L) → Calls Tryd.prog 15 #[v1, v2] u fun e w' => e = .returned (.bool true) ∧ Below u.heap.size u w') := fun u v1 v2 h1 h2 => by
        refine (rRows_c _ _ hok hok v1 v2 u h1 h2).mono ?_
        rintro e w' ⟨rfl, q, rfl⟩
        exact ⟨by simp, bdrN (Below.refl _ _) _⟩
      have HSM : Hid (∀ u, Below wr.heap.size wr u → Calls Tryd.prog 18 #[.slice A2 L.length c2, .slice A3 M.length c3] u fun e w' => e = .returned (.bool (decide (L = M))) ∧ Below u.heap.size u w') := fun u hu => pSame_c L M (by omega) (by omega) (fun x hx => by have := hlc x hx; omega) (fun x hx => by have := hmc x hx; omega) _ _ u (HLU.out u hu) (HMU.out u hu)
      have HPK : Hid (∀ u, Below wr.heap.size wr u → Calls Tryd.prog 19 #[.slice A2 L.length c2, .slice A3 M.length c3] u fun e w' => e = .returned (.bool (decide (L = M))) ∧ Below u.heap.size u w') := fun u hu => by
        refine (rPicks_c L M (by omega) (by omega) (fun x hx => by have := hlc x hx; omega) (fun x hx => by have := hmc x hx; omega) _ _ u (HLU.out u hu) (HMU.out u hu)).mono ?_
        rintro e w' ⟨rfl, q, rfl⟩
        exact ⟨rfl, bdrN (Below.refl _ _) _⟩
      clear hok hlc hmc hb
      generalize decide (L = M) = d at HSM HPK
      generalize str (showK L) = sh at HSH HSR
      generalize crashK L = nc at HCP HCR
      unfold CutPost at HKP HKR
      generalize cutsK L = C at HKP HKR HRW
      cases d
      all_goals
        go_wp2_with (first
          | (go_at_call 11; (with_reducible refine (HSH.out _ (Below.refl _ _)).mono ?_); rintro e w3 ⟨rfl, h3⟩)
          | (go_at_call 12; (with_reducible refine (HSR.out _ h3).mono ?_); rintro e w4 ⟨rfl, hb4⟩; have h4 := bt h3 hb4; clear hb4 h3)
          | (go_at_call 13; (with_reducible refine (HCP.out _ h4).mono ?_); rintro e w5 ⟨rfl, hb5⟩; have h5 := bt h4 hb5; clear hb5 h4)
          | (go_at_call 14; (with_reducible refine (HCR.out _ h5).mono ?_); rintro e w6 ⟨rfl, rfl⟩)
          | (go_at_call 16; (with_reducible refine (HKP.out _ h5).mono ?_); rintro e w7 ⟨A7, c7, rfl, hp7, hb7⟩; have h7 := bt h5 hb7; clear hb7 h5)
          | (go_at_call 17; (with_reducible refine (HKR.out _ h7).mono ?_); rintro e w8 ⟨A8, c8, rfl, hp8, hb8⟩; have h8 := bt h7 hb8; have hp9 := hp7.below hb8; clear hb8 h7 hp7)
          | (go_at_call 15; (with_reducible refine (HRW.out _ _ _ hp9 hp8).mono ?_); rintro e w9 ⟨rfl, hb9⟩; have h9 := bt h8 hb9; clear hb9 h8 hp9 hp8)
          | (go_at_call 18; (with_reducible refine (HSM.out _ h9).mono ?_); rintro e w10 ⟨rfl, hb10⟩; have h10 := bt h9 hb10; clear hb10 h9)
          | (go_at_call 19; (with_reducible refine (HPK.out _ h10).mono ?_); rintro e w11 ⟨rfl, hb11⟩; have h11 := bt h10 hb11; clear hb11 h10)
          | (go_at_call 20; (with_reducible refine (fixed_c _ (HEU.out _ h11)).mono ?_); rintro e w12 ⟨rfl, hb12⟩; have h12 := bt h11 hb12; clear hb12 h11))
        go_ret
        exact ⟨rfl, bt HBF.out h12⟩
end Go.Proofs.YtimekgplallkiaaDoor

/- What is shown of a text's tokens has just these: the walk. -/
import Derived.Test.YtknfimagjkndnaaDoorScaA
namespace Go.Proofs.YtknfimagjkndnaaDoor
open Go Go.RowKit
set_option linter.unusedVariables false
set_option maxRecDepth 100000 in
set_option maxHeartbeats 8000000 in
theorem sback_law (s : ByteArray) (hs : s.size ≤ 9223372036854775807) (w : World) (hE : Env w) :
    Calls Tryd.prog 5 #[.string s] w (Yes w) := by
  have HE := Lib.hid hE
  clear hE
  go_enter Tryd.func5, Tryd.ntmps5
  go_upto_region 2 with fail
  have hz := cut_size s 1500
  simp only [Int.cast_ofNat_Int] at hz
  generalize s.extract 0 (min (s.size : Int) 1500).toNat = s' at hz ⊢
  have hlen := data_len s'
  have HP := Lib.hid (fun u hu => scanP_c s' (by omega) u hu)
  have hl := scan_len s'.data.toList
  rw [data_len] at hl
  have herr := scanE_err (s := s'.data.toList) (by omega)
  rw [hlen] at herr
  have hbk := back s'.data.toList (by omega)
  generalize scanE s'.data.toList = R at HP hl herr hbk
  obtain ⟨T, e0, p0⟩ := R
  simp only at HP hl herr hbk
  by_cases h0 : e0 = 0
  · subst h0
    obtain ⟨us, hu1, hu2, hu3, hu4⟩ := hbk rfl
    have hle : us.length ≤ (shwE T).length := by have := scan_len (shwE T); rw [hu1] at this; exact this
    have htl : (tailE T).length ≤ 100000000 := by
      cases T with
      | nil => simp [tailE]
      | cons a r => simp only [shwE, List.length_append, tailE, List.flatMap_cons, List.length_cons] at hu2 ⊢; omega
    have htl2 : (tailE us).length ≤ 100000000 := by
      rw [← hu4] at hu2
      cases us with
      | nil => simp [tailE]
      | cons a r => simp only [shwE, List.length_append, tailE, List.flatMap_cons, List.length_cons] at hu2 ⊢; omega
    have HSH : Hid (∀ u V, Toks u V T → Calls Tryd.prog 18 #[V] u fun e w' => e = .returned (.string (str (shwE T))) ∧ Below u.heap.size u w') := fun u V hu => show_c T (by omega) htl _ u hu
    have HSH2 : Hid (∀ u V, Toks u V us → Calls Tryd.prog 18 #[V] u fun e w' => e = .returned (.string (str (shwE T))) ∧ Below u.heap.size u w') := fun u V hu => by
      have := show_c us (by omega) htl2 V u hu
      rw [hu4] at this
      exact this
    have HSC : Hid (∀ u, Env u → Calls Tryd.prog 10 #[.string (str (shwE T))] u fun r w' => ∃ A c, r = .returned (.tuple #[.slice A us.length c, .int .i64 0, .int .i64 0]) ∧ Toks w' (.slice A us.length c) us ∧ Below u.heap.size u w') := fun u hu => by
      have := scanP_c (str (shwE T)) (by rw [str_size]; omega) u hu
      rw [str_data, hu1] at this
      exact this
    have HSM : Hid (∀ u V V2, Toks u V T → Toks u V2 us → Calls Tryd.prog 12 #[V, V2, .bool false] u fun e w' => e = .returned (.bool true) ∧ Below u.heap.size u w') := fun u V V2 h1 h2 => by
      have := rsameT_c T us (by omega) (by omega) V V2 false u h1 h2
      rw [hu3] at this
      exact this
    generalize str (shwE T) = st at HSH HSH2 HSC
    clear hz hl hs herr hbk hu1 hu2 hu3 hu4 hle htl htl2 hlen
    go_upto_region 3 with (first
      | (go_at_call 10; refine (HP.out _ HE.out).mono ?_; rintro e w1 ⟨A1, c1, rfl, hv1, hb1⟩; have HB1 := Lib.hid hb1; have HV1 := Lib.hid hv1; clear hb1 hv1))
    go_wp2_with (first
      | (go_at_call_of 18 (Value.slice A1 T.length c1); refine (HSH.out _ _ HV1.out).mono ?_; rintro e w2 ⟨rfl, hb2⟩; have HB2 := Lib.hid (bt HB1.out hb2); have HV2 := Lib.hid (SlN.below HV1.out hb2); clear hb2 HV1)
      | (go_at_call 10; refine (HSC.out _ (HE.out.below HB2.out)).mono ?_; rintro e w3 ⟨A3, c3, rfl, hv3, hb3⟩; have HB3 := Lib.hid (bt HB2.out hb3); have HV3 := Lib.hid (SlN.below HV2.out hb3); have HU3 := Lib.hid hv3; clear hb3 hv3 HV2)
      | (go_at_call 12; refine (HSM.out _ _ _ HV3.out HU3.out).mono ?_; rintro e w4 ⟨rfl, hb4⟩; have HB4 := Lib.hid (bt HB3.out hb4); have HU4 := Lib.hid (SlN.below HU3.out hb4); clear hb4)
      | (go_at_call_of 18 (Value.slice A3 us.length c3); refine (HSH2.out _ _ HU4.out).mono ?_; rintro e w5 ⟨rfl, hb5⟩; have HB5 := Lib.hid (bt HB4.out hb5); clear hb5)
      | (go_at_call 17; refine (fixed_c _ (HE.out.below HB5.out)).mono ?_; rintro e w8 ⟨rfl, hb8⟩))
    go_ret
    exact ⟨rfl, bt HB5.out hb8⟩
  · rcases herr with h | ⟨rfl, p, rfl, hp⟩
    · exact absurd h h0
    · have h01 : (e0 != 0) = true := by rw [bne_iff_ne]; exact h0
      have hp1 : (p : Int) < (s'.size : Int) := by omega
      have hp0 : (0 : Int) ≤ (p : Int) := by omega
      clear hz hl hs hbk hp hlen h0
      go_wp2_with (first
        | (go_at_call 10; refine (HP.out _ HE.out).mono ?_; rintro e w1 ⟨A1, c1, rfl, hv1, hb1⟩; have HB1 := Lib.hid hb1; clear hb1 hv1)
        | (go_at_call 17; refine (fixed_c _ (HE.out.below HB1.out)).mono ?_; rintro e w8 ⟨rfl, hb8⟩))
      go_ret
      exact ⟨rfl, bt HB1.out hb8⟩
end Go.Proofs.YtknfimagjkndnaaDoor

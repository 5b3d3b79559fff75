/- Any text's tokens are as the document says: the walk. -/
import Derived.Test.YtknfimagjkndnaaDoorFxsA
namespace Go.Proofs.YtknfimagjkndnaaDoor
open Go Go.RowKit
set_option linter.unusedVariables false
theorem scanP_c (s : ByteArray) (hs : s.size ≤ 1000000) (w : World) (hE : Env w) :
    Calls Tryd.prog 10 #[.string s] w fun r w' => ∃ A c, r = .returned (.tuple #[.slice A (scanE s.data.toList).1.length c, .int .i64 (scanE s.data.toList).2.1, .int .i64 (scanE s.data.toList).2.2]) ∧ Toks w' (.slice A (scanE s.data.toList).1.length c) (scanE s.data.toList).1 ∧ Below w.heap.size w w' := by
  refine (pscan_c s hs w hE).mono ?_
  rintro r w' h
  unfold ScanPost at h
  obtain ⟨v, rfl, hv, hb⟩ := h
  obtain ⟨A, c, rfl, hc⟩ := Toks.shape hv
  exact ⟨A, c, rfl, hv, hb⟩
theorem scanR_c (s : ByteArray) (hs : s.size ≤ 1000000) (w : World) :
    Calls Tryd.prog 11 #[.string s] w fun r w' => ∃ A c, r = .returned (.tuple #[.slice A (scanE s.data.toList).1.length c, .int .i64 (scanE s.data.toList).2.1, .int .i64 (scanE s.data.toList).2.2]) ∧ Toks w' (.slice A (scanE s.data.toList).1.length c) (scanE s.data.toList).1 ∧ Below w.heap.size w w' := by
  refine (scan_c s hs w).mono ?_
  rintro r w' h
  unfold ScanPost at h
  obtain ⟨v, rfl, hv, hb⟩ := h
  obtain ⟨A, c, rfl, hc⟩ := Toks.shape hv
  exact ⟨A, c, rfl, hv, hb⟩
theorem scan_len (l : List UInt8) : (scanE l).1.length ≤ l.length := (scanE_facts l).1
set_option maxRecDepth 100000 in
set_option maxHeartbeats 8000000 in
theorem texts_law (s t : ByteArray) (hs : s.size ≤ 9223372036854775807) (ht : t.size ≤ 9223372036854775807) (w : World) (hE : Env w) :
    Calls Tryd.prog 3 #[.string s, .string t] w (Yes w) := by
  have HE := Lib.hid hE
  clear hE
  go_enter Tryd.func3, Tryd.ntmps3
  go_upto_region 3 with fail
  have hz := cut_size s 4010
  have hz2 := cut_size t 40
  simp only [Int.cast_ofNat_Int] at hz hz2
  generalize s.extract 0 (min (s.size : Int) 4010).toNat = s' at hz ⊢
  generalize t.extract 0 (min (t.size : Int) 40).toNat = t' at hz2 ⊢
  have HP := Lib.hid (fun u hu => scanP_c s' (by omega) u hu)
  have HR := Lib.hid (fun u => scanR_c s' (by omega) u)
  have hl := scan_len s'.data.toList
  rw [data_len] at hl
  obtain ⟨tl, rfl⟩ : ∃ tl, t' = str tl := ⟨t'.data.toList, (str_of t').symm⟩
  rw [str_size] at hz2
  have HN : Hid (∀ u, Env u → Calls Tryd.prog 13 #[.string (str tl)] u fun e w' => e = .returned (.bool (nameE tl)) ∧ Below u.heap.size u w') := fun u hu => name_c tl (by omega) u hu
  have HRN : Hid (∀ u, Calls Tryd.prog 14 #[.string (str tl)] u fun e w' => e = .returned (.bool (nameE tl)) ∧ Below u.heap.size u w') := fun u => rname_c tl (by omega) u
  have HK := Lib.hid (fun u hu => Kept_c tl (by omega) u hu)
  have HRK := Lib.hid (fun u => rkept_c tl u)
  have HSM : Hid (∀ u V V2, Toks u V (scanE s'.data.toList).1 → Toks u V2 (scanE s'.data.toList).1 → Calls Tryd.prog 12 #[V, V2, .bool true] u fun e w' => e = .returned (.bool true) ∧ Below u.heap.size u w') := fun u V V2 h1 h2 => by
    have := rsameT_c _ _ (by omega) (by omega) V V2 true u h1 h2
    rw [sameT_refl] at this
    exact this
  generalize scanE s'.data.toList = R at HP HR HSM hl
  obtain ⟨T, e0, p0⟩ := R
  simp only at HP HR HSM hl
  generalize nameE tl = bn at HN HRN
  generalize keptE tl = bk at HK HRK
  clear hz hz2 hl hs ht
  go_wp2_with (first
    | (go_at_call 10; refine (HP.out _ HE.out).mono ?_; rintro e w1 ⟨A1, c1, rfl, hv1, hb1⟩; have HB1 := Lib.hid hb1; have HV1 := Lib.hid hv1; clear hb1 hv1)
    | (go_at_call 11; refine (HR.out _).mono ?_; rintro e w2 ⟨A2, c2, rfl, hv2, hb2⟩; have HB2 := Lib.hid (bt HB1.out hb2); have HV2 := Lib.hid hv2; have HU2 := Lib.hid (SlN.below HV1.out hb2); clear hb2 hv2)
    | (go_at_call 12; refine (HSM.out _ _ _ HU2.out HV2.out).mono ?_; rintro e w3 ⟨rfl, hb3⟩; have HB3 := Lib.hid (bt HB2.out hb3); clear hb3)
    | (go_at_call 13; refine (HN.out _ (HE.out.below HB3.out)).mono ?_; rintro e w4 ⟨rfl, hb4⟩; have HB4 := Lib.hid (bt HB3.out hb4); clear hb4)
    | (go_at_call 14; refine (HRN.out _).mono ?_; rintro e w5 ⟨rfl, hb5⟩; have HB5 := Lib.hid (bt HB4.out hb5); clear hb5)
    | (go_at_call 15; refine (HK.out _ (HE.out.below HB5.out)).mono ?_; rintro e w6 ⟨rfl, hb6⟩; have HB6 := Lib.hid (bt HB5.out hb6); clear hb6)
    | (go_at_call 16; refine (HRK.out _).mono ?_; rintro e w7 ⟨rfl, hb7⟩; have HB7 := Lib.hid (bt HB6.out hb7); clear hb7)
    | (go_at_call 17; refine (fixed_c _ (HE.out.below HB7.out)).mono ?_; rintro e w8 ⟨rfl, hb8⟩))
  go_ret
  exact ⟨rfl, bt HB7.out hb8⟩
end Go.Proofs.YtknfimagjkndnaaDoor

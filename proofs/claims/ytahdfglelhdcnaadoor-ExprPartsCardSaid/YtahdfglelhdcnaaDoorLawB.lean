/- What is read is right; shown and read again it is as it was: the walk. -/
import Derived.Test.YtahdfglelhdcnaaDoorLawA
import Derived.Test.YtahdfglelhdcnaaDoorLawPlain
namespace Go.Proofs.YtahdfglelhdcnaaDoor
open Go Go.RowKit
set_option linter.unusedVariables false
theorem flat_names {e : Ex} (hm : e.may) : ∀ x ∈ e.flat, x.name.length ≤ 1000000 := fun x hx => by
  have h := hm x hx
  by_cases h1 : x.op = 1
  · rw [(mayE_leaf1 h h1).1]; simp
  · by_cases h2 : x.op = 2
    · obtain ⟨c, r, hc, hd, hl⟩ := name_head (mayE_leaf2 h h2).2
      omega
    · rw [(mayE_op h h1 h2).2]; simp
set_option maxRecDepth 100000 in
set_option maxHeartbeats 8000000 in
theorem back_c (s : ByteArray) (hz : s.size ≤ 9223372036854775807) (w : World) (hE : Env w) :
    Calls Tryd.prog 6 #[.string s] w (Yes w) := by
  have HE := Lib.hid hE
  clear hE
  go_enter Tryd.func6, Tryd.ntmps6
  go_wp2_with fail
  have ht := cut_size s 600
  simp only [Int.cast_ofNat_Int] at ht
  generalize s.extract 0 (min (s.size : Int) 600).toNat = t at ht ⊢
  refine (tokens_c t (by omega) _).mono ?_
  rintro e w1 ⟨v, rfl, hv, hb1⟩
  obtain ⟨hl, htx⟩ := scan_use t.data.toList (by rw [data_len]; omega)
  have hfacts := (scanE_facts t.data.toList).2
  rw [data_len] at hfacts
  generalize (scanE t.data.toList).1 = l at hv hl htx hfacts
  have HB1 := Lib.hid hb1
  have HP := Lib.hid (Parse_c l hl htx v 0 w1 hv (HE.out.below hb1))
  have hsh := Toks.shape hv
  obtain ⟨Av, cv, rfl, _⟩ := hsh
  rcases parE_fine hfacts (by omega) with ⟨e0, tt, hR, ho, hm, hd, h40, ht1, ht2⟩ | ⟨er, p, hR, her, hp0, hp1⟩
  · unfold ParsePost at HP
    rw [hR] at HP
    obtain ⟨hr, hs, hdp⟩ := right_of ho hm hd h40
    have hnm := flat_names hm
    have HRT : Hid (∀ u V, Nods u V e0.flat → Env u → Calls Tryd.prog 17 #[V] u fun e w' => e = .returned (.bool true) ∧ Below u.heap.size u w') := fun u V hn hE => by
      have := Right_c e0.flat (by omega) hnm V u hn hE
      rw [hr] at this; exact this
    have HSH : Hid (∀ u V, Nods u V e0.flat → Env u → Calls Tryd.prog 19 #[V] u fun e w' => e = .returned (.string (str e0.show)) ∧ Below u.heap.size u w') := fun u V hn hE => by
      have := Show_c e0.flat (by omega) hnm V u hn hE
      rw [hs] at this; exact this
    have hsl := show_len e0 ho hm
    obtain ⟨_, e1, hR2, hbare, ho1⟩ := round_trip e0 ho hm hd h40
    have HTK : Hid (∀ u, Calls Tryd.prog 11 #[.string (str e0.show)] u fun e w' => ∃ A c, e = .returned (.slice A (scanE e0.show).1.length c) ∧ Toks w' (.slice A (scanE e0.show).1.length c) (scanE e0.show).1 ∧ Below u.heap.size u w') := fun u => by
      refine (tokens_c (str e0.show) (by rw [str_size]; omega) u).mono ?_
      rintro e w' ⟨v2, rfl, hv2, hb2⟩
      rw [str_data] at hv2
      obtain ⟨A, c, rfl, _⟩ := Toks.shape hv2
      exact ⟨A, c, rfl, hv2, hb2⟩
    obtain ⟨hl2, htx2⟩ := scan_use e0.show (by omega)
    have HP2 : Hid (∀ u V, Toks u V (scanE e0.show).1 → Env u → Calls Tryd.prog 13 #[V, .int .i64 0] u fun e w' => ∃ A c, e = .returned (.tuple #[.slice A e1.flat.length c, .int .i64 ((scanE e0.show).1.length : Int), .int .i64 0, .int .i64 0]) ∧ Nods w' (.slice A e1.flat.length c) e1.flat ∧ Below u.heap.size u w') := fun u V hV hE => by
      refine (Parse_c _ hl2 htx2 V 0 u hV hE).mono ?_
      rintro e w' ⟨V2, rfl, hn, hb⟩
      rw [hR2] at hn ⊢
      obtain ⟨A, c, rfl, _⟩ := Nods.shape hn
      exact ⟨A, c, rfl, hn, hb⟩
    have hle : e1.flat.length = e0.flat.length := by rw [← e1.bare_len, hbare, e0.bare_len]
    have HSM : Hid (∀ u V V2, Nods u V e0.flat → Nods u V2 e1.flat → Calls Tryd.prog 28 #[V, V2] u fun e w' => e = .returned (.bool true) ∧ Below u.heap.size u w') := fun u V V2 h1 h2 => by
      have := Same_c e0.flat e1.flat (by omega) (by omega) V V2 u h1 h2
      rw [same_bare hbare.symm] at this; exact this
    have hto1 : decide ((tt : Int) < 1) = false := by simp; omega
    have hto2 : decide ((l.length : Int) < (tt : Int)) = false := by simp; omega
    clear hR hR2 hl htx hfacts hv ho hm hd hr hs hdp hnm hsl hbare ho1 hl2 htx2
    generalize (scanE e0.show).1 = l2 at HTK HP2
    generalize e0.show = sh at HSH HTK
    clear hle
    generalize e0.flat = F at HP HRT HSH HSM h40
    generalize e1.flat = F1 at HP2 HSM
    go_wp2_with fail
    refine (HP.out).mono ?_
    rintro e w2 ⟨V, rfl, hV, hb2⟩
    (try simp only at hV)
    obtain ⟨A1, c1, rfl, hc1⟩ := Nods.shape hV
    have HV := Lib.hid hV
    have HB2 := Lib.hid (bt HB1.out hb2)
    clear hV hb2 hc1
    go_wp2_with (first
      | (go_at_call 17; refine (HRT.out _ _ HV.out (HE.out.below HB2.out)).mono ?_; rintro e w3 ⟨rfl, hb3⟩; have HB3 := Lib.hid (bt HB2.out hb3); have HV3 := Lib.hid (SlN.below HV.out hb3); clear hb3)
      | (go_at_call 19; refine (HSH.out _ _ HV3.out (HE.out.below HB3.out)).mono ?_; rintro e w4 ⟨rfl, hb4⟩; have HB4 := Lib.hid (bt HB3.out hb4); have HV4 := Lib.hid (SlN.below HV3.out hb4); clear hb4)
      | (go_at_call 11; refine (HTK.out _).mono ?_; rintro e w5 ⟨A5, c5, rfl, hv5, hb5⟩; have HT5 := Lib.hid hv5; have HB5 := Lib.hid (bt HB4.out hb5); have HV5 := Lib.hid (SlN.below HV4.out hb5); clear hb5 hv5)
      | (go_at_call 13; refine (HP2.out _ _ HT5.out (HE.out.below HB5.out)).mono ?_; rintro e w6 ⟨A6, c6, rfl, hv6, hb6⟩; have HN6 := Lib.hid hv6; have HB6 := Lib.hid (bt HB5.out hb6); have HV6 := Lib.hid (SlN.below HV5.out hb6); clear hb6 hv6)
      | (go_at_call 28; refine (HSM.out _ _ _ HV6.out HN6.out).mono ?_; rintro e w7 ⟨rfl, hb7⟩; have HB7 := Lib.hid (bt HB6.out hb7); clear hb7)
      | (go_at_call 15; refine (fixed_c _ (HE.out.below HB7.out)).mono ?_; rintro e w8 ⟨rfl, hb8⟩))
    go_ret
    exact ⟨rfl, bt HB7.out hb8⟩
  · unfold ParsePost at HP
    rw [hR] at HP
    have her2 : (er == 0) = false := by rw [beq_eq_false_iff_ne]; exact her
    have her3 : (er != 0) = true := by rw [bne_iff_ne]; exact her
    have hp2 : decide (0 ≤ p) = true := by simpa using hp0
    have hp3 : decide (p ≤ (t.size : Int)) = true := by simpa using hp1
    clear hR hl htx hfacts hv her hp0 hp1
    go_wp2_with fail
    refine (HP.out).mono ?_
    rintro e w2 ⟨V, rfl, hV, hb2⟩
    (try simp only at hV)
    obtain ⟨A1, c1, rfl, hc1⟩ := Nods.shape hV
    have HB2 := Lib.hid (bt HB1.out hb2)
    clear hV hb2 hc1
    go_wp2_with (first
      | (go_at_call 15; refine (fixed_c _ (HE.out.below HB2.out)).mono ?_; rintro e w8 ⟨rfl, hb8⟩))
    go_ret
    exact ⟨rfl, bt HB2.out hb8⟩
end Go.Proofs.YtahdfglelhdcnaaDoor

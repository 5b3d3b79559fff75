/- The laws of words on numbers: the walks. -/
import Derived.Test.YtmcgeaodmnchaaaDoorWalkH
import Derived.WalkKit
import Derived.WalkSpells
import Derived.WalkLawsBesides
import Derived.Lib.Hide
namespace Go.Proofs.YtmcgeaodmnchaaaDoor
open Go.RowKit
set_option linter.unusedVariables false
theorem tw8 (a b : Int) (h : ¬ b = 0) : twoE 8 a b = (wrap64 (a.tdiv b), 0) := by simp [twoE, h]
theorem tw9 (a b : Int) (h : ¬ b = 0) : twoE 9 a b = (a.tmod b, 0) := by simp [twoE, h]
theorem tw8z (a b : Int) (h : b = 0) : twoE 8 a b = (0, 12) := by simp [twoE, h]
theorem tw9z (a b : Int) (h : b = 0) : twoE 9 a b = (0, 12) := by simp [twoE, h]
theorem tw10 (a b : Int) : twoE 10 a b = (trB (a == b), 0) := rfl
theorem tw11 (a b : Int) : twoE 11 a b = (trB (a != b), 0) := rfl
theorem tw12 (a b : Int) : twoE 12 a b = (trB (decide (a < b)), 0) := rfl
theorem tw13 (a b : Int) : twoE 13 a b = (trB (decide (a ≤ b)), 0) := rfl
theorem tw14 (a b : Int) : twoE 14 a b = (trB (a != 0 && b != 0), 0) := rfl
theorem tw15 (a b : Int) : twoE 15 a b = (trB (a != 0 || b != 0), 0) := rfl
theorem on4 (a : Int) : oneE 4 a = (trB (a == 0), 0) := rfl
theorem on3 (a : Int) : oneE 3 a = (wrap64 (-a), 0) := rfl
theorem div_back (a b : Int) (ha : I64 a) (h : ¬ b = 0) : wrap64 (wrap64 (b * wrap64 (a.tdiv b)) + a.tmod b) = a := by
  obtain ⟨k, hk⟩ := wrap64_ex (a.tdiv b)
  obtain ⟨m, hm⟩ := wrap64_ex (b * wrap64 (a.tdiv b))
  have h1 := Int.mul_tdiv_add_tmod a b
  have h2 : b * wrap64 (a.tdiv b) = b * a.tdiv b + 18446744073709551616 * (b * k) := by
    rw [hk, Int.mul_add, ← Int.mul_assoc b, Int.mul_comm b 18446744073709551616, Int.mul_assoc]
  rw [hm, h2]
  generalize b * a.tdiv b = x at *
  generalize b * k = y at *
  have h3 : x + 18446744073709551616 * y + 18446744073709551616 * m + a.tmod b = a + 18446744073709551616 * (y + m) := by omega
  rw [h3, wrap64_add]
  exact wrap64_id _ ha
theorem near_rest (a b : Int) (h : ¬ b = 0) : (a.tmod b).natAbs < b.natAbs ∧ (0 ≤ a → 0 ≤ a.tmod b) ∧ (a ≤ 0 → a.tmod b ≤ 0) := by
  refine ⟨?_, fun h0 => Int.tmod_nonneg b h0, fun h0 => ?_⟩
  · rw [Int.natAbs_tmod]; exact Nat.mod_lt _ (by omega)
  · have e := Int.neg_tmod (-a) b
    rw [Int.neg_neg] at e
    have := Int.tmod_nonneg b (show 0 ≤ -a by omega)
    omega
set_option maxRecDepth 100000 in
set_option maxHeartbeats 1000000 in
theorem divides_c (a b : Int) (ha : I64 a) (hb : I64 b) (w : World) (hE : Env w) :
    Calls Tryd.prog 6 #[.int .i64 a, .int .i64 b] w (Yes w) := by
  have HE := Lib.hid hE
  clear hE
  by_cases h0 : b = 0
  · have HB := Lib.hid h0
    subst h0
    go_enter Tryd.func6, Tryd.ntmps6
    go_wp2_with fail
    refine (two_at (tw8z a 0 rfl) _).mono ?_
    rintro e w1 ⟨rfl, hb1⟩
    go_wp2_with fail
    refine (two_at (tw9z a 0 rfl) _).mono ?_
    rintro e w2 ⟨rfl, hb2⟩
    have HE2 := Lib.hid (HE.out.below (bt hb1 hb2))
    go_wp2_with (go_at_call 18; refine (fixed_c _ HE2.out).mono ?_; rintro e w' ⟨rfl, hb3⟩)
    go_ret
    exact ⟨rfl, bt (bt hb1 hb2) hb3⟩
  · have H0 := Lib.hid h0
    have HQ := Lib.hid (div_back a b ha h0)
    have HR := Lib.hid (tmod_I64 a b hb h0)
    have HNR := Lib.hid (near_rest a b h0)
    have T8 := Lib.hid (tw8 a b h0)
    have T9 := Lib.hid (tw9 a b h0)
    have hb0 : (b == 0) = false := by simpa using h0
    generalize wrap64 (a.tdiv b) = q at HQ T8
    generalize a.tmod b = r at HQ HR HNR T9
    have hcase : r = 0 ∨ (0 < r ∧ 0 < b) ∨ (0 < r ∧ b < 0) ∨ (r < 0 ∧ 0 < b) ∨ (r < 0 ∧ b < 0) := by omega
    have hwn : wrap64 (-r) = -r := wrap64_id _ (by have := HR.out.1; have := HR.out.2; have := HNR.out.1; have := hb.1; have := hb.2; exact ⟨by omega, by omega⟩)
    have hwa : wrap64 a = a := wrap64_id _ ha
    have HNN := HNR.out
    clear HNR hb ha HR
    have hQ : wrap64 (wrap64 (b * q) + r) = a := HQ.out
    clear HQ
    rcases hcase with hr | ⟨hr, hs⟩ | ⟨hr, hs⟩ | ⟨hr, hs⟩ | ⟨hr, hs⟩
    · subst hr
      rw [Int.add_zero, wrap64_id _ (wrap64_I64 _)] at hQ
      clear HNN hwn h0
      go_enter Tryd.func6, Tryd.ntmps6
      go_wp2_with fail
      refine (two_at T8.out _).mono ?_
      rintro e w1 ⟨rfl, hb1⟩
      go_wp2_with fail
      refine (two_at T9.out _).mono ?_
      rintro e w2 ⟨rfl, hb2⟩
      have HE2 := Lib.hid (HE.out.below (bt hb1 hb2))
      go_wp2_with (go_at_call 18; refine (fixed_c _ HE2.out).mono ?_; rintro e w' ⟨rfl, hb3⟩)
      go_ret
      exact ⟨rfl, bt (bt hb1 hb2) hb3⟩
    · clear hwa
      have hr0 : (r == 0) = false := by rw [beq_eq_false_iff_ne]; omega
      have hr1 : decide (r < 0) = false := by simp; omega
      have ha1 : decide (a < 0) = false := by simp; omega
      have hx1 : r < b := by omega
      have hx2 : r < b := by omega
      clear HNN h0
      go_enter Tryd.func6, Tryd.ntmps6
      go_wp2_with fail
      refine (two_at T8.out _).mono ?_
      rintro e w1 ⟨rfl, hb1⟩
      go_wp2_with fail
      refine (two_at T9.out _).mono ?_
      rintro e w2 ⟨rfl, hb2⟩
      have HE2 := Lib.hid (HE.out.below (bt hb1 hb2))
      go_wp2_with (go_at_call 18; refine (fixed_c _ HE2.out).mono ?_; rintro e w' ⟨rfl, hb3⟩)
      go_ret
      exact ⟨rfl, bt (bt hb1 hb2) hb3⟩
    · clear hwa
      have hr0 : (r == 0) = false := by rw [beq_eq_false_iff_ne]; omega
      have hr1 : decide (r < 0) = false := by simp; omega
      have ha1 : decide (a < 0) = false := by simp; omega
      have hx1 : ¬ r < b := by omega
      have hx2 : b < -r := by omega
      clear HNN h0
      go_enter Tryd.func6, Tryd.ntmps6
      go_wp2_with fail
      refine (two_at T8.out _).mono ?_
      rintro e w1 ⟨rfl, hb1⟩
      go_wp2_with fail
      refine (two_at T9.out _).mono ?_
      rintro e w2 ⟨rfl, hb2⟩
      have HE2 := Lib.hid (HE.out.below (bt hb1 hb2))
      go_wp2_with (go_at_call 18; refine (fixed_c _ HE2.out).mono ?_; rintro e w' ⟨rfl, hb3⟩)
      go_ret
      exact ⟨rfl, bt (bt hb1 hb2) hb3⟩
    · clear hwa
      have hr0 : (r == 0) = false := by rw [beq_eq_false_iff_ne]; omega
      have hr1 : decide (r < 0) = true := by simp; omega
      have ha1 : decide (a < 0) = true := by simp; omega
      have hx1 : ¬ b < r := by omega
      have hx2 : -r < b := by omega
      clear HNN h0
      go_enter Tryd.func6, Tryd.ntmps6
      go_wp2_with fail
      refine (two_at T8.out _).mono ?_
      rintro e w1 ⟨rfl, hb1⟩
      go_wp2_with fail
      refine (two_at T9.out _).mono ?_
      rintro e w2 ⟨rfl, hb2⟩
      have HE2 := Lib.hid (HE.out.below (bt hb1 hb2))
      go_wp2_with (go_at_call 18; refine (fixed_c _ HE2.out).mono ?_; rintro e w' ⟨rfl, hb3⟩)
      go_ret
      exact ⟨rfl, bt (bt hb1 hb2) hb3⟩
    · clear hwa
      have hr0 : (r == 0) = false := by rw [beq_eq_false_iff_ne]; omega
      have hr1 : decide (r < 0) = true := by simp; omega
      have ha1 : decide (a < 0) = true := by simp; omega
      have hx1 : b < r := by omega
      have hx2 : b < r := by omega
      clear HNN h0
      go_enter Tryd.func6, Tryd.ntmps6
      go_wp2_with fail
      refine (two_at T8.out _).mono ?_
      rintro e w1 ⟨rfl, hb1⟩
      go_wp2_with fail
      refine (two_at T9.out _).mono ?_
      rintro e w2 ⟨rfl, hb2⟩
      have HE2 := Lib.hid (HE.out.below (bt hb1 hb2))
      go_wp2_with (go_at_call 18; refine (fixed_c _ HE2.out).mono ?_; rintro e w' ⟨rfl, hb3⟩)
      go_ret
      exact ⟨rfl, bt (bt hb1 hb2) hb3⟩
theorem wraps_comm (a b : Int) : wrap64 (a + b) = wrap64 (b + a) := by rw [Int.add_comm]
theorem wraps_back (a b : Int) (h : I64 a) : wrap64 (wrap64 (a + b) - b) = a := by
  obtain ⟨k, hk⟩ := wrap64_ex (a + b)
  rw [hk, show a + b + 18446744073709551616 * k - b = a + 18446744073709551616 * k by omega, wrap64_add]
  exact wrap64_id _ h
theorem tw5 (a b : Int) : twoE 5 a b = (wrap64 (a + b), 0) := rfl
theorem tw6 (a b : Int) : twoE 6 a b = (wrap64 (a - b), 0) := rfl
theorem tw7n (a : Int) : twoE 7 a (-1) = (wrap64 (-a), 0) := by
  show (wrap64 (a * -1), 0) = _
  rw [show a * -1 = -a by omega]
theorem tw60 (a : Int) : twoE 6 0 a = (wrap64 (-a), 0) := by
  show (wrap64 (0 - a), 0) = _
  rw [show 0 - a = -a by omega]
theorem tw5c (a b : Int) : twoE 5 b a = (wrap64 (a + b), 0) := by
  show (wrap64 (b + a), 0) = _
  rw [Int.add_comm]
theorem tw6b (a b : Int) (h : I64 a) : twoE 6 (wrap64 (a + b)) b = (a, 0) := by
  show (wrap64 (wrap64 (a + b) - b), 0) = _
  rw [wraps_back a b h]
set_option maxRecDepth 100000 in
set_option maxHeartbeats 1000000 in
theorem wraps_c (a b : Int) (ha : I64 a) (hb : I64 b) (w : World) (hE : Env w) :
    Calls Tryd.prog 7 #[.int .i64 a, .int .i64 b] w (Yes w) := by
  have HE := Lib.hid hE
  have T6 := Lib.hid (tw6b a b ha)
  have T5 := Lib.hid (tw5 a b)
  have T5c := Lib.hid (tw5c a b)
  have T7 := Lib.hid (tw7n a)
  have T60 := Lib.hid (tw60 a)
  have O3 := Lib.hid (on3 a)
  clear hE ha hb
  generalize wrap64 (a + b) = x at T6 T5 T5c
  generalize wrap64 (-a) = y at T7 T60 O3
  go_enter Tryd.func7, Tryd.ntmps7
  go_wp2_with fail
  refine (two_at T5.out _).mono ?_
  rintro e w1 ⟨rfl, hb1⟩
  go_wp2_with fail
  refine (two_at T5c.out _).mono ?_
  rintro e w2 ⟨rfl, hb2⟩
  go_wp2_with fail
  refine (two_at T6.out _).mono ?_
  rintro e w3 ⟨rfl, hb3⟩
  go_wp2_with fail
  refine (two_at T7.out _).mono ?_
  rintro e w4 ⟨rfl, hb4⟩
  go_wp2_with fail
  refine (one_at O3.out _).mono ?_
  rintro e w5 ⟨rfl, rfl⟩
  go_wp2_with fail
  refine (two_at T60.out _).mono ?_
  rintro e w6 ⟨rfl, hb6⟩
  have hb := bt (bt (bt (bt hb1 hb2) hb3) hb4) hb6
  clear hb1 hb2 hb3 hb4 hb6
  have HE2 := Lib.hid (HE.out.below hb)
  go_wp2_with (go_at_call 18; refine (fixed_c _ HE2.out).mono ?_; rintro e w' ⟨rfl, hb3⟩)
  go_ret
  exact ⟨rfl, bt hb hb3⟩
end Go.Proofs.YtmcgeaodmnchaaaDoor

/- The laws of words on numbers: the walks. -/
import Derived.Test.YtmcgeaodmnchaaaDoorWalkJ
import Derived.WalkKit
import Derived.WalkSpells
import Derived.WalkLawsBesides
import Derived.Lib.Hide
namespace Go.Proofs.YtmcgeaodmnchaaaDoor
open Go.RowKit
set_option linter.unusedVariables false
theorem quot_small (a b : Int) (ha : I64 a) (h : ¬ a = -9223372036854775808) (h0 : ¬ b = 0) : wrap64 (a.tdiv b) = a.tdiv b := by
  have h1 : (a.tdiv b).natAbs = a.natAbs / b.natAbs := Int.natAbs_tdiv a b
  have h2 : a.natAbs / b.natAbs ≤ a.natAbs := Nat.div_le_self _ _
  have := ha.1; have := ha.2
  exact wrap64_id _ ⟨by omega, by omega⟩
theorem quot_I64 (a b : Int) (ha : I64 a) (h : ¬ a = -9223372036854775808) : I64 (a.tdiv b) ∧ ¬ a.tdiv b = -9223372036854775808 := by
  have h1 : (a.tdiv b).natAbs = a.natAbs / b.natAbs := Int.natAbs_tdiv a b
  have h2 : a.natAbs / b.natAbs ≤ a.natAbs := Nat.div_le_self _ _
  have := ha.1; have := ha.2
  exact ⟨⟨by omega, by omega⟩, by omega⟩
theorem sg8 (a b : Int) (ha : I64 a) (h : ¬ a = -9223372036854775808) (h0 : ¬ b = 0) : twoE 8 a b = (a.tdiv b, 0) := by rw [tw8 a b h0, quot_small a b ha h h0]
theorem neg_I64 (a : Int) (ha : I64 a) (h : ¬ a = -9223372036854775808) : I64 (-a) ∧ ¬ (-a) = -9223372036854775808 := by
  have := ha.1; have := ha.2
  exact ⟨⟨by omega, by omega⟩, by omega⟩
theorem signs_no (a b : Int) (w : World) (hE : Env w) (h : (b == 0) = true ∨ ((b == 0) = false ∧ (a == -9223372036854775808) = true) ∨ ((b == 0) = false ∧ (a == -9223372036854775808) = false ∧ (b == -9223372036854775808) = true)) :
    Calls Tryd.prog 9 #[.int .i64 a, .int .i64 b] w (Yes w) := by
  have HE := Lib.hid hE
  clear hE
  rcases h with h1 | ⟨h1, h2⟩ | ⟨h1, h2, h3⟩
  all_goals
    go_enter Tryd.func9, Tryd.ntmps9
    go_wp2_with (go_at_call 18; refine (fixed_c _ HE.out).mono ?_; rintro e w' ⟨rfl, hb3⟩)
    go_ret
    exact ⟨rfl, hb3⟩
set_option maxRecDepth 100000 in
set_option maxHeartbeats 1000000 in
theorem signs_yes (a b : Int) (ha : I64 a) (hb : I64 b) (h0 : ¬ b = 0) (h1 : ¬ a = -9223372036854775808) (h2 : ¬ b = -9223372036854775808) (w : World) (hE : Env w) :
    Calls Tryd.prog 9 #[.int .i64 a, .int .i64 b] w (Yes w) := by
  have HE := Lib.hid hE
  clear hE
  have hb0 : (b == 0) = false := by simpa using h0
  have ha1 : (a == -9223372036854775808) = false := by simpa using h1
  have hb1 : (b == -9223372036854775808) = false := by simpa using h2
  have hna := neg_I64 a ha h1
  have hnb := neg_I64 b hb h2
  have hwa : wrap64 (-a) = -a := wrap64_id _ hna.1
  have hwb : wrap64 (-b) = -b := wrap64_id _ hnb.1
  have hq := quot_I64 a b ha h1
  have hr := tmod_I64 a b hb h0
  have hr1 : ¬ a.tmod b = -9223372036854775808 := by have h3 := near_rest a b h0; have := hb.1; have := hb.2; omega
  have hwq : wrap64 (-(a.tdiv b)) = -(a.tdiv b) := wrap64_id _ (neg_I64 _ hq.1 hq.2).1
  have hwr : wrap64 (-(a.tmod b)) = -(a.tmod b) := wrap64_id _ (neg_I64 _ hr hr1).1
  have T1 := Lib.hid (sg8 a b ha h1 h0)
  have T2 := Lib.hid ((sg8 (-a) b hna.1 hna.2 h0).trans (by rw [Int.neg_tdiv]) : twoE 8 (-a) b = (-(a.tdiv b), 0))
  have T3 := Lib.hid ((sg8 a (-b) ha h1 (by omega)).trans (by rw [Int.tdiv_neg]) : twoE 8 a (-b) = (-(a.tdiv b), 0))
  have T4 := Lib.hid (tw9 a b h0)
  have T5 := Lib.hid ((tw9 (-a) b h0).trans (by rw [Int.neg_tmod]) : twoE 9 (-a) b = (-(a.tmod b), 0))
  have T6 := Lib.hid ((tw9 a (-b) (by omega)).trans (by rw [Int.tmod_neg]) : twoE 9 a (-b) = (a.tmod b, 0))
  generalize a.tdiv b = q at T1 T2 T3 hwq
  generalize a.tmod b = r at T4 T5 T6 hwr
  clear h0 h1 h2 hna hnb hq hr hr1 ha hb
  go_enter Tryd.func9, Tryd.ntmps9
  go_wp2_with fail
  refine (two_at T1.out _).mono ?_
  rintro e w1 ⟨rfl, hb1⟩
  go_wp2_with fail
  refine (two_at T2.out _).mono ?_
  rintro e w2 ⟨rfl, hb2⟩
  go_wp2_with fail
  refine (two_at T3.out _).mono ?_
  rintro e w3 ⟨rfl, hb3⟩
  go_wp2_with fail
  refine (two_at T4.out _).mono ?_
  rintro e w4 ⟨rfl, hb4⟩
  go_wp2_with fail
  refine (two_at T5.out _).mono ?_
  rintro e w5 ⟨rfl, hb5⟩
  go_wp2_with fail
  refine (two_at T6.out _).mono ?_
  rintro e w6 ⟨rfl, hb6⟩
  have hb := (bt (bt (bt (bt (bt hb1 hb2) hb3) hb4) hb5) hb6)
  clear hb1 hb2 hb3 hb4 hb5 hb6
  have HE2 := Lib.hid (HE.out.below hb)
  go_wp2_with (go_at_call 18; refine (fixed_c _ HE2.out).mono ?_; rintro e w' ⟨rfl, hb3⟩)
  go_ret
  exact ⟨rfl, bt hb hb3⟩
theorem signs_c (a b : Int) (ha : I64 a) (hb : I64 b) (w : World) (hE : Env w) :
    Calls Tryd.prog 9 #[.int .i64 a, .int .i64 b] w (Yes w) := by
  by_cases h0 : b = 0
  · exact signs_no a b w hE (.inl (by simpa using h0))
  · by_cases h1 : a = -9223372036854775808
    · exact signs_no a b w hE (.inr (.inl ⟨by simpa using h0, by simpa using h1⟩))
    · by_cases h2 : b = -9223372036854775808
      · exact signs_no a b w hE (.inr (.inr ⟨by simpa using h0, by simpa using h1, by simpa using h2⟩))
      · exact signs_yes a b ha hb h0 h1 h2 w hE
/-- what the truths of a and b are -/
structure Tru (a b : Int) (n d m an o no e u : Int) : Prop where
  hn : oneE 4 a = (n, 0)
  hd : oneE 4 n = (d, 0)
  hm : oneE 4 b = (m, 0)
  han : twoE 14 a b = (an, 0)
  ho : twoE 15 n m = (o, 0)
  hno : oneE 4 o = (no, 0)
  he : twoE 10 a b = (e, 0)
  hu : twoE 11 b a = (u, 0)
set_option maxRecDepth 100000 in
set_option maxHeartbeats 1000000 in
theorem truths_000 (a b : Int) (ht : Tru a b 1 0 1 0 1 0 0 1) (ha : (a != 0) = false) (w : World) (hE : Env w) :
    Calls Tryd.prog 10 #[.int .i64 a, .int .i64 b] w (Yes w) := by
  have HE := Lib.hid hE
  clear hE
  have HT := Lib.hid ht
  clear ht
  go_enter Tryd.func10, Tryd.ntmps10
  go_wp2_with fail
  refine (one_at HT.out.hn _).mono ?_
  rintro e w1 ⟨rfl, rfl⟩
  go_wp2_with fail
  refine (one_at HT.out.hd _).mono ?_
  rintro e w2 ⟨rfl, rfl⟩
  go_wp2_with fail
  refine (one_at HT.out.hm _).mono ?_
  rintro e w3 ⟨rfl, rfl⟩
  go_wp2_with fail
  refine (two_at HT.out.han _).mono ?_
  rintro e w4 ⟨rfl, hb4⟩
  go_wp2_with fail
  refine (two_at HT.out.ho _).mono ?_
  rintro e w5 ⟨rfl, hb5⟩
  go_wp2_with fail
  refine (one_at HT.out.hno _).mono ?_
  rintro e w6 ⟨rfl, rfl⟩
  go_wp2_with fail
  refine (two_at HT.out.he _).mono ?_
  rintro e w7 ⟨rfl, hb7⟩
  go_wp2_with fail
  refine (two_at HT.out.hu _).mono ?_
  rintro e w8 ⟨rfl, hb8⟩
  have hb := (bt (bt (bt hb4 hb5) hb7) hb8)
  clear hb4 hb5 hb7 hb8
  have HE2 := Lib.hid (HE.out.below hb)
  go_wp2_with (first | (go_at_call 15; refine (truth_c _ _).mono ?_; rintro e w' ⟨rfl, rfl⟩) | (go_at_call 16; refine (bool_c _ _).mono ?_; rintro e w' ⟨rfl, rfl⟩) | (go_at_call 18; refine (fixed_c _ HE2.out).mono ?_; rintro e w' ⟨rfl, hb3⟩))
  go_ret
  exact ⟨rfl, bt hb hb3⟩
set_option maxRecDepth 100000 in
set_option maxHeartbeats 1000000 in
theorem truths_001 (a b : Int) (ht : Tru a b 1 0 1 0 1 0 1 0) (ha : (a != 0) = false) (w : World) (hE : Env w) :
    Calls Tryd.prog 10 #[.int .i64 a, .int .i64 b] w (Yes w) := by
  have HE := Lib.hid hE
  clear hE
  have HT := Lib.hid ht
  clear ht
  go_enter Tryd.func10, Tryd.ntmps10
  go_wp2_with fail
  refine (one_at HT.out.hn _).mono ?_
  rintro e w1 ⟨rfl, rfl⟩
  go_wp2_with fail
  refine (one_at HT.out.hd _).mono ?_
  rintro e w2 ⟨rfl, rfl⟩
  go_wp2_with fail
  refine (one_at HT.out.hm _).mono ?_
  rintro e w3 ⟨rfl, rfl⟩
  go_wp2_with fail
  refine (two_at HT.out.han _).mono ?_
  rintro e w4 ⟨rfl, hb4⟩
  go_wp2_with fail
  refine (two_at HT.out.ho _).mono ?_
  rintro e w5 ⟨rfl, hb5⟩
  go_wp2_with fail
  refine (one_at HT.out.hno _).mono ?_
  rintro e w6 ⟨rfl, rfl⟩
  go_wp2_with fail
  refine (two_at HT.out.he _).mono ?_
  rintro e w7 ⟨rfl, hb7⟩
  go_wp2_with fail
  refine (two_at HT.out.hu _).mono ?_
  rintro e w8 ⟨rfl, hb8⟩
  have hb := (bt (bt (bt hb4 hb5) hb7) hb8)
  clear hb4 hb5 hb7 hb8
  have HE2 := Lib.hid (HE.out.below hb)
  go_wp2_with (first | (go_at_call 15; refine (truth_c _ _).mono ?_; rintro e w' ⟨rfl, rfl⟩) | (go_at_call 16; refine (bool_c _ _).mono ?_; rintro e w' ⟨rfl, rfl⟩) | (go_at_call 18; refine (fixed_c _ HE2.out).mono ?_; rintro e w' ⟨rfl, hb3⟩))
  go_ret
  exact ⟨rfl, bt hb hb3⟩
set_option maxRecDepth 100000 in
set_option maxHeartbeats 1000000 in
theorem truths_010 (a b : Int) (ht : Tru a b 1 0 0 0 1 0 0 1) (ha : (a != 0) = false) (w : World) (hE : Env w) :
    Calls Tryd.prog 10 #[.int .i64 a, .int .i64 b] w (Yes w) := by
  have HE := Lib.hid hE
  clear hE
  have HT := Lib.hid ht
  clear ht
  go_enter Tryd.func10, Tryd.ntmps10
  go_wp2_with fail
  refine (one_at HT.out.hn _).mono ?_
  rintro e w1 ⟨rfl, rfl⟩
  go_wp2_with fail
  refine (one_at HT.out.hd _).mono ?_
  rintro e w2 ⟨rfl, rfl⟩
  go_wp2_with fail
  refine (one_at HT.out.hm _).mono ?_
  rintro e w3 ⟨rfl, rfl⟩
  go_wp2_with fail
  refine (two_at HT.out.han _).mono ?_
  rintro e w4 ⟨rfl, hb4⟩
  go_wp2_with fail
  refine (two_at HT.out.ho _).mono ?_
  rintro e w5 ⟨rfl, hb5⟩
  go_wp2_with fail
  refine (one_at HT.out.hno _).mono ?_
  rintro e w6 ⟨rfl, rfl⟩
  go_wp2_with fail
  refine (two_at HT.out.he _).mono ?_
  rintro e w7 ⟨rfl, hb7⟩
  go_wp2_with fail
  refine (two_at HT.out.hu _).mono ?_
  rintro e w8 ⟨rfl, hb8⟩
  have hb := (bt (bt (bt hb4 hb5) hb7) hb8)
  clear hb4 hb5 hb7 hb8
  have HE2 := Lib.hid (HE.out.below hb)
  go_wp2_with (first | (go_at_call 15; refine (truth_c _ _).mono ?_; rintro e w' ⟨rfl, rfl⟩) | (go_at_call 16; refine (bool_c _ _).mono ?_; rintro e w' ⟨rfl, rfl⟩) | (go_at_call 18; refine (fixed_c _ HE2.out).mono ?_; rintro e w' ⟨rfl, hb3⟩))
  go_ret
  exact ⟨rfl, bt hb hb3⟩
set_option maxRecDepth 100000 in
set_option maxHeartbeats 1000000 in
theorem truths_011 (a b : Int) (ht : Tru a b 1 0 0 0 1 0 1 0) (ha : (a != 0) = false) (w : World) (hE : Env w) :
    Calls Tryd.prog 10 #[.int .i64 a, .int .i64 b] w (Yes w) := by
  have HE := Lib.hid hE
  clear hE
  have HT := Lib.hid ht
  clear ht
  go_enter Tryd.func10, Tryd.ntmps10
  go_wp2_with fail
  refine (one_at HT.out.hn _).mono ?_
  rintro e w1 ⟨rfl, rfl⟩
  go_wp2_with fail
  refine (one_at HT.out.hd _).mono ?_
  rintro e w2 ⟨rfl, rfl⟩
  go_wp2_with fail
  refine (one_at HT.out.hm _).mono ?_
  rintro e w3 ⟨rfl, rfl⟩
  go_wp2_with fail
  refine (two_at HT.out.han _).mono ?_
  rintro e w4 ⟨rfl, hb4⟩
  go_wp2_with fail
  refine (two_at HT.out.ho _).mono ?_
  rintro e w5 ⟨rfl, hb5⟩
  go_wp2_with fail
  refine (one_at HT.out.hno _).mono ?_
  rintro e w6 ⟨rfl, rfl⟩
  go_wp2_with fail
  refine (two_at HT.out.he _).mono ?_
  rintro e w7 ⟨rfl, hb7⟩
  go_wp2_with fail
  refine (two_at HT.out.hu _).mono ?_
  rintro e w8 ⟨rfl, hb8⟩
  have hb := (bt (bt (bt hb4 hb5) hb7) hb8)
  clear hb4 hb5 hb7 hb8
  have HE2 := Lib.hid (HE.out.below hb)
  go_wp2_with (first | (go_at_call 15; refine (truth_c _ _).mono ?_; rintro e w' ⟨rfl, rfl⟩) | (go_at_call 16; refine (bool_c _ _).mono ?_; rintro e w' ⟨rfl, rfl⟩) | (go_at_call 18; refine (fixed_c _ HE2.out).mono ?_; rintro e w' ⟨rfl, hb3⟩))
  go_ret
  exact ⟨rfl, bt hb hb3⟩
set_option maxRecDepth 100000 in
set_option maxHeartbeats 1000000 in
theorem truths_100 (a b : Int) (ht : Tru a b 0 1 1 0 1 0 0 1) (ha : (a != 0) = true) (w : World) (hE : Env w) :
    Calls Tryd.prog 10 #[.int .i64 a, .int .i64 b] w (Yes w) := by
  have HE := Lib.hid hE
  clear hE
  have HT := Lib.hid ht
  clear ht
  go_enter Tryd.func10, Tryd.ntmps10
  go_wp2_with fail
  refine (one_at HT.out.hn _).mono ?_
  rintro e w1 ⟨rfl, rfl⟩
  go_wp2_with fail
  refine (one_at HT.out.hd _).mono ?_
  rintro e w2 ⟨rfl, rfl⟩
  go_wp2_with fail
  refine (one_at HT.out.hm _).mono ?_
  rintro e w3 ⟨rfl, rfl⟩
  go_wp2_with fail
  refine (two_at HT.out.han _).mono ?_
  rintro e w4 ⟨rfl, hb4⟩
  go_wp2_with fail
  refine (two_at HT.out.ho _).mono ?_
  rintro e w5 ⟨rfl, hb5⟩
  go_wp2_with fail
  refine (one_at HT.out.hno _).mono ?_
  rintro e w6 ⟨rfl, rfl⟩
  go_wp2_with fail
  refine (two_at HT.out.he _).mono ?_
  rintro e w7 ⟨rfl, hb7⟩
  go_wp2_with fail
  refine (two_at HT.out.hu _).mono ?_
  rintro e w8 ⟨rfl, hb8⟩
  have hb := (bt (bt (bt hb4 hb5) hb7) hb8)
  clear hb4 hb5 hb7 hb8
  have HE2 := Lib.hid (HE.out.below hb)
  go_wp2_with (first | (go_at_call 15; refine (truth_c _ _).mono ?_; rintro e w' ⟨rfl, rfl⟩) | (go_at_call 16; refine (bool_c _ _).mono ?_; rintro e w' ⟨rfl, rfl⟩) | (go_at_call 18; refine (fixed_c _ HE2.out).mono ?_; rintro e w' ⟨rfl, hb3⟩))
  go_ret
  exact ⟨rfl, bt hb hb3⟩
set_option maxRecDepth 100000 in
set_option maxHeartbeats 1000000 in
theorem truths_101 (a b : Int) (ht : Tru a b 0 1 1 0 1 0 1 0) (ha : (a != 0) = true) (w : World) (hE : Env w) :
    Calls Tryd.prog 10 #[.int .i64 a, .int .i64 b] w (Yes w) := by
  have HE := Lib.hid hE
  clear hE
  have HT := Lib.hid ht
  clear ht
  go_enter Tryd.func10, Tryd.ntmps10
  go_wp2_with fail
  refine (one_at HT.out.hn _).mono ?_
  rintro e w1 ⟨rfl, rfl⟩
  go_wp2_with fail
  refine (one_at HT.out.hd _).mono ?_
  rintro e w2 ⟨rfl, rfl⟩
  go_wp2_with fail
  refine (one_at HT.out.hm _).mono ?_
  rintro e w3 ⟨rfl, rfl⟩
  go_wp2_with fail
  refine (two_at HT.out.han _).mono ?_
  rintro e w4 ⟨rfl, hb4⟩
  go_wp2_with fail
  refine (two_at HT.out.ho _).mono ?_
  rintro e w5 ⟨rfl, hb5⟩
  go_wp2_with fail
  refine (one_at HT.out.hno _).mono ?_
  rintro e w6 ⟨rfl, rfl⟩
  go_wp2_with fail
  refine (two_at HT.out.he _).mono ?_
  rintro e w7 ⟨rfl, hb7⟩
  go_wp2_with fail
  refine (two_at HT.out.hu _).mono ?_
  rintro e w8 ⟨rfl, hb8⟩
  have hb := (bt (bt (bt hb4 hb5) hb7) hb8)
  clear hb4 hb5 hb7 hb8
  have HE2 := Lib.hid (HE.out.below hb)
  go_wp2_with (first | (go_at_call 15; refine (truth_c _ _).mono ?_; rintro e w' ⟨rfl, rfl⟩) | (go_at_call 16; refine (bool_c _ _).mono ?_; rintro e w' ⟨rfl, rfl⟩) | (go_at_call 18; refine (fixed_c _ HE2.out).mono ?_; rintro e w' ⟨rfl, hb3⟩))
  go_ret
  exact ⟨rfl, bt hb hb3⟩
set_option maxRecDepth 100000 in
set_option maxHeartbeats 1000000 in
theorem truths_110 (a b : Int) (ht : Tru a b 0 1 0 1 0 1 0 1) (ha : (a != 0) = true) (w : World) (hE : Env w) :
    Calls Tryd.prog 10 #[.int .i64 a, .int .i64 b] w (Yes w) := by
  have HE := Lib.hid hE
  clear hE
  have HT := Lib.hid ht
  clear ht
  go_enter Tryd.func10, Tryd.ntmps10
  go_wp2_with fail
  refine (one_at HT.out.hn _).mono ?_
  rintro e w1 ⟨rfl, rfl⟩
  go_wp2_with fail
  refine (one_at HT.out.hd _).mono ?_
  rintro e w2 ⟨rfl, rfl⟩
  go_wp2_with fail
  refine (one_at HT.out.hm _).mono ?_
  rintro e w3 ⟨rfl, rfl⟩
  go_wp2_with fail
  refine (two_at HT.out.han _).mono ?_
  rintro e w4 ⟨rfl, hb4⟩
  go_wp2_with fail
  refine (two_at HT.out.ho _).mono ?_
  rintro e w5 ⟨rfl, hb5⟩
  go_wp2_with fail
  refine (one_at HT.out.hno _).mono ?_
  rintro e w6 ⟨rfl, rfl⟩
  go_wp2_with fail
  refine (two_at HT.out.he _).mono ?_
  rintro e w7 ⟨rfl, hb7⟩
  go_wp2_with fail
  refine (two_at HT.out.hu _).mono ?_
  rintro e w8 ⟨rfl, hb8⟩
  have hb := (bt (bt (bt hb4 hb5) hb7) hb8)
  clear hb4 hb5 hb7 hb8
  have HE2 := Lib.hid (HE.out.below hb)
  go_wp2_with (first | (go_at_call 15; refine (truth_c _ _).mono ?_; rintro e w' ⟨rfl, rfl⟩) | (go_at_call 16; refine (bool_c _ _).mono ?_; rintro e w' ⟨rfl, rfl⟩) | (go_at_call 18; refine (fixed_c _ HE2.out).mono ?_; rintro e w' ⟨rfl, hb3⟩))
  go_ret
  exact ⟨rfl, bt hb hb3⟩
set_option maxRecDepth 100000 in
set_option maxHeartbeats 1000000 in
theorem truths_111 (a b : Int) (ht : Tru a b 0 1 0 1 0 1 1 0) (ha : (a != 0) = true) (w : World) (hE : Env w) :
    Calls Tryd.prog 10 #[.int .i64 a, .int .i64 b] w (Yes w) := by
  have HE := Lib.hid hE
  clear hE
  have HT := Lib.hid ht
  clear ht
  go_enter Tryd.func10, Tryd.ntmps10
  go_wp2_with fail
  refine (one_at HT.out.hn _).mono ?_
  rintro e w1 ⟨rfl, rfl⟩
  go_wp2_with fail
  refine (one_at HT.out.hd _).mono ?_
  rintro e w2 ⟨rfl, rfl⟩
  go_wp2_with fail
  refine (one_at HT.out.hm _).mono ?_
  rintro e w3 ⟨rfl, rfl⟩
  go_wp2_with fail
  refine (two_at HT.out.han _).mono ?_
  rintro e w4 ⟨rfl, hb4⟩
  go_wp2_with fail
  refine (two_at HT.out.ho _).mono ?_
  rintro e w5 ⟨rfl, hb5⟩
  go_wp2_with fail
  refine (one_at HT.out.hno _).mono ?_
  rintro e w6 ⟨rfl, rfl⟩
  go_wp2_with fail
  refine (two_at HT.out.he _).mono ?_
  rintro e w7 ⟨rfl, hb7⟩
  go_wp2_with fail
  refine (two_at HT.out.hu _).mono ?_
  rintro e w8 ⟨rfl, hb8⟩
  have hb := (bt (bt (bt hb4 hb5) hb7) hb8)
  clear hb4 hb5 hb7 hb8
  have HE2 := Lib.hid (HE.out.below hb)
  go_wp2_with (first | (go_at_call 15; refine (truth_c _ _).mono ?_; rintro e w' ⟨rfl, rfl⟩) | (go_at_call 16; refine (bool_c _ _).mono ?_; rintro e w' ⟨rfl, rfl⟩) | (go_at_call 18; refine (fixed_c _ HE2.out).mono ?_; rintro e w' ⟨rfl, hb3⟩))
  go_ret
  exact ⟨rfl, bt hb hb3⟩
theorem on4z (a : Int) (h : a = 0) : oneE 4 a = (1, 0) := by subst h; rfl
theorem on4n (a : Int) (h : ¬ a = 0) : oneE 4 a = (0, 0) := by rw [on4]; simp [trB, h]
theorem tw10e (a b : Int) (h : a = b) : twoE 10 a b = (1, 0) := by rw [tw10, h]; simp [trB]
theorem tw10n (a b : Int) (h : ¬ a = b) : twoE 10 a b = (0, 0) := by rw [tw10]; simp [trB, h]
theorem tw11e (a b : Int) (h : a = b) : twoE 11 b a = (0, 0) := by rw [tw11, h]; simp [trB]
theorem tw11n (a b : Int) (h : ¬ a = b) : twoE 11 b a = (1, 0) := by
  have h' : ¬ b = a := fun e => h e.symm
  rw [tw11]; simp [trB, h']
theorem truths_c (a b : Int) (w : World) (hE : Env w) :
    Calls Tryd.prog 10 #[.int .i64 a, .int .i64 b] w (Yes w) := by
  by_cases h1 : a = 0 <;> by_cases h2 : b = 0 <;> by_cases h3 : a = b
  · exact truths_001 a b ⟨on4z a h1, rfl, on4z b h2, by rw [tw14]; simp [trB, h1], rfl, rfl, tw10e a b h3, tw11e a b h3⟩ (by simp [h1]) w hE
  · exact truths_000 a b ⟨on4z a h1, rfl, on4z b h2, by rw [tw14]; simp [trB, h1], rfl, rfl, tw10n a b h3, tw11n a b h3⟩ (by simp [h1]) w hE
  · exact truths_011 a b ⟨on4z a h1, rfl, on4n b h2, by rw [tw14]; simp [trB, h1], rfl, rfl, tw10e a b h3, tw11e a b h3⟩ (by simp [h1]) w hE
  · exact truths_010 a b ⟨on4z a h1, rfl, on4n b h2, by rw [tw14]; simp [trB, h1], rfl, rfl, tw10n a b h3, tw11n a b h3⟩ (by simp [h1]) w hE
  · exact truths_101 a b ⟨on4n a h1, rfl, on4z b h2, by rw [tw14]; simp [trB, h2], rfl, rfl, tw10e a b h3, tw11e a b h3⟩ (by simp [h1]) w hE
  · exact truths_100 a b ⟨on4n a h1, rfl, on4z b h2, by rw [tw14]; simp [trB, h2], rfl, rfl, tw10n a b h3, tw11n a b h3⟩ (by simp [h1]) w hE
  · exact truths_111 a b ⟨on4n a h1, rfl, on4n b h2, by rw [tw14]; simp [trB, h1, h2], rfl, rfl, tw10e a b h3, tw11e a b h3⟩ (by simp [h1]) w hE
  · exact truths_110 a b ⟨on4n a h1, rfl, on4n b h2, by rw [tw14]; simp [trB, h1, h2], rfl, rfl, tw10n a b h3, tw11n a b h3⟩ (by simp [h1]) w hE
end Go.Proofs.YtmcgeaodmnchaaaDoor

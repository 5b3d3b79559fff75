/- The other operators of words and of its reference. -/
import Derived.Test.YtmcgeaodmnchaaaDoorWalkB
import Derived.WalkKit
import Derived.WalkSpells
import Derived.WalkLawsBesides
namespace Go.Proofs.YtmcgeaodmnchaaaDoor
open Go.RowKit
set_option linter.unusedVariables false
theorem rbool_c (b : Bool) (w : World) :
    Calls Tryd.prog 17 #[.bool b] w fun e w' => e = .returned (.int .i64 (trB b)) ∧ w = w' := by
  cases b
  all_goals
    go_enter Tryd.func17, Tryd.ntmps17
    go_wp2
    go_ret
    exact ⟨rfl, rfl⟩
def oneE (op a : Int) : Int × Int := if op = 3 then (wrap64 (-a), 0) else if op = 4 then (trB (a == 0), 0) else (0, 1)
def OnePost (op a : Int) (w : World) (e : Ending) (w' : World) : Prop := e = .returned (.tuple #[.int .i64 (oneE op a).1, .int .i64 (oneE op a).2]) ∧ w = w'
theorem one_3 (a : Int) (w : World) : Calls Tryd.prog 11 #[.int .i64 3, .int .i64 a] w (OnePost 3 a w) := by
  go_enter Tryd.func11, Tryd.ntmps11
  go_wp2
  go_ret2
  exact ⟨by simp [oneE], rfl⟩
theorem one_4 (a : Int) (w : World) : Calls Tryd.prog 11 #[.int .i64 4, .int .i64 a] w (OnePost 4 a w) := by
  cases ha : (a == 0)
  all_goals
    have hb : (a != 0) = !(a == 0) := rfl
    rw [ha] at hb
    go_enter Tryd.func11, Tryd.ntmps11
    go_wp2
    go_ret2
    exact ⟨by simp [oneE, trB, ha], rfl⟩
theorem one_o (op a : Int) (w : World) (h3 : (op == 3) = false) (h4 : (op == 4) = false) : Calls Tryd.prog 11 #[.int .i64 op, .int .i64 a] w (OnePost op a w) := by
  go_enter Tryd.func11, Tryd.ntmps11
  go_wp2
  go_ret2
  simp at h3 h4
  exact ⟨by simp [oneE, h3, h4], rfl⟩
theorem one_c (op a : Int) (w : World) : Calls Tryd.prog 11 #[.int .i64 op, .int .i64 a] w (OnePost op a w) := by
  by_cases h3 : op = 3
  · subst h3; exact one_3 a w
  by_cases h4 : op = 4
  · subst h4; exact one_4 a w
  exact one_o op a w (by simpa using h3) (by simpa using h4)
theorem rone_3 (a : Int) (w : World) : Calls Tryd.prog 12 #[.int .i64 3, .int .i64 a] w (OnePost 3 a w) := by
  go_enter Tryd.func12, Tryd.ntmps12
  go_wp2
  go_ret2
  exact ⟨by simp [oneE], rfl⟩
theorem rone_4 (a : Int) (w : World) : Calls Tryd.prog 12 #[.int .i64 4, .int .i64 a] w (OnePost 4 a w) := by
  go_enter Tryd.func12, Tryd.ntmps12
  go_wp2_with (go_at_call 17; refine (rbool_c _ _).mono ?_; rintro e w' ⟨rfl, rfl⟩)
  go_ret2
  exact ⟨by simp [oneE], rfl⟩
theorem rone_o (op a : Int) (w : World) (h3 : (op == 3) = false) (h4 : (op == 4) = false) : Calls Tryd.prog 12 #[.int .i64 op, .int .i64 a] w (OnePost op a w) := by
  go_enter Tryd.func12, Tryd.ntmps12
  go_wp2
  go_ret2
  simp at h3 h4
  exact ⟨by simp [oneE, h3, h4], rfl⟩
theorem rone_c (op a : Int) (w : World) : Calls Tryd.prog 12 #[.int .i64 op, .int .i64 a] w (OnePost op a w) := by
  by_cases h3 : op = 3
  · subst h3; exact rone_3 a w
  by_cases h4 : op = 4
  · subst h4; exact rone_4 a w
  exact rone_o op a w (by simpa using h3) (by simpa using h4)
theorem ret_int {k : IntKind} {a b : Int} (h : a = b) : Ending.returned (.int k a) = .returned (.int k b) := by rw [h]
theorem quot_c (a b : Int) (w : World) (hb : ¬ b = 0) (hb2 : (b == 0) = false) :
    Calls Tryd.prog 24 #[.int .i64 a, .int .i64 b] w fun e w' => e = .returned (.int .i64 (wrap64 (a.tdiv b))) ∧ w = w' := by
  by_cases h : a = -9223372036854775808
  · by_cases h1 : b = -1
    · subst h h1
      go_enter Tryd.func24, Tryd.ntmps24
      go_wp2
      go_ret
      exact ⟨ret_int (by decide +kernel), rfl⟩
    · have h' : (a == -9223372036854775808) = true := by simpa using h
      clear h
      have h1' : (b == -1) = false := by simpa using h1
      go_enter Tryd.func24, Tryd.ntmps24
      go_wp2
      go_ret
      exact ⟨rfl, rfl⟩
  · have h1' : (a == -9223372036854775808) = false := by simpa using h
    go_enter Tryd.func24, Tryd.ntmps24
    go_wp2
    go_ret
    exact ⟨rfl, rfl⟩
def Two0Post (op a b : Int) (w : World) (e : Ending) (w' : World) : Prop := e = .returned (.tuple #[.int .i64 (twoE op a b).1, .int .i64 (twoE op a b).2]) ∧ w = w'
theorem wrap64_ex (a : Int) : ∃ k, wrap64 a = a + 18446744073709551616 * k := ⟨-((a + 9223372036854775808) / 18446744073709551616), by unfold wrap64; omega⟩
theorem wrap64_add (a k : Int) : wrap64 (a + 18446744073709551616 * k) = wrap64 a := by unfold wrap64; omega
theorem tmod_I64 (a b : Int) (hb : I64 b) (h0 : ¬ b = 0) : I64 (a.tmod b) := by
  have h := Int.natAbs_tmod a b
  have h1 : (a.tmod b).natAbs < b.natAbs := by rw [h]; exact Nat.mod_lt _ (by omega)
  have := hb.1; have := hb.2
  constructor <;> omega
theorem rest_eq (a b : Int) (ha : I64 a) (hb : I64 b) (h0 : ¬ b = 0) : wrap64 (a - wrap64 (b * wrap64 (a.tdiv b))) = a.tmod b := by
  obtain ⟨k, hk⟩ := wrap64_ex (a.tdiv b)
  obtain ⟨m, hm⟩ := wrap64_ex (b * wrap64 (a.tdiv b))
  have h1 := Int.mul_tdiv_add_tmod a b
  have h2 : b * wrap64 (a.tdiv b) = b * a.tdiv b + 18446744073709551616 * (b * k) := by
    rw [hk, Int.mul_add, ← Int.mul_assoc b, Int.mul_comm b 18446744073709551616, Int.mul_assoc]
  rw [hm, h2]
  generalize b * a.tdiv b = x at *
  generalize b * k = y at *
  have h3 : a - (x + 18446744073709551616 * y + 18446744073709551616 * m) = a.tmod b + 18446744073709551616 * (-(y + m)) := by omega
  rw [h3, wrap64_add]
  exact wrap64_id _ (tmod_I64 a b hb h0)
theorem rtwo_0 (a b : Int) (w : World) : Calls Tryd.prog 14 #[.int .i64 0, .int .i64 a, .int .i64 b] w (Two0Post 0 a b w) := by
  go_enter Tryd.func14, Tryd.ntmps14
  go_wp2_with (first | (go_at_call 17; refine (rbool_c _ _).mono ?_; rintro e w' ⟨rfl, rfl⟩))
  go_ret2
  exact ⟨by simp [twoE], rfl⟩
theorem rtwo_1 (a b : Int) (w : World) : Calls Tryd.prog 14 #[.int .i64 1, .int .i64 a, .int .i64 b] w (Two0Post 1 a b w) := by
  go_enter Tryd.func14, Tryd.ntmps14
  go_wp2_with (first | (go_at_call 17; refine (rbool_c _ _).mono ?_; rintro e w' ⟨rfl, rfl⟩))
  go_ret2
  exact ⟨by simp [twoE], rfl⟩
theorem rtwo_2 (a b : Int) (w : World) : Calls Tryd.prog 14 #[.int .i64 2, .int .i64 a, .int .i64 b] w (Two0Post 2 a b w) := by
  go_enter Tryd.func14, Tryd.ntmps14
  go_wp2_with (first | (go_at_call 17; refine (rbool_c _ _).mono ?_; rintro e w' ⟨rfl, rfl⟩))
  go_ret2
  exact ⟨by simp [twoE], rfl⟩
theorem rtwo_3 (a b : Int) (w : World) : Calls Tryd.prog 14 #[.int .i64 3, .int .i64 a, .int .i64 b] w (Two0Post 3 a b w) := by
  go_enter Tryd.func14, Tryd.ntmps14
  go_wp2_with (first | (go_at_call 17; refine (rbool_c _ _).mono ?_; rintro e w' ⟨rfl, rfl⟩))
  go_ret2
  exact ⟨by simp [twoE], rfl⟩
theorem rtwo_4 (a b : Int) (w : World) : Calls Tryd.prog 14 #[.int .i64 4, .int .i64 a, .int .i64 b] w (Two0Post 4 a b w) := by
  go_enter Tryd.func14, Tryd.ntmps14
  go_wp2_with (first | (go_at_call 17; refine (rbool_c _ _).mono ?_; rintro e w' ⟨rfl, rfl⟩))
  go_ret2
  exact ⟨by simp [twoE], rfl⟩
theorem rtwo_5 (a b : Int) (w : World) : Calls Tryd.prog 14 #[.int .i64 5, .int .i64 a, .int .i64 b] w (Two0Post 5 a b w) := by
  go_enter Tryd.func14, Tryd.ntmps14
  go_wp2_with (first | (go_at_call 17; refine (rbool_c _ _).mono ?_; rintro e w' ⟨rfl, rfl⟩))
  go_ret2
  exact ⟨by simp [twoE], rfl⟩
theorem rtwo_6 (a b : Int) (w : World) : Calls Tryd.prog 14 #[.int .i64 6, .int .i64 a, .int .i64 b] w (Two0Post 6 a b w) := by
  go_enter Tryd.func14, Tryd.ntmps14
  go_wp2_with (first | (go_at_call 17; refine (rbool_c _ _).mono ?_; rintro e w' ⟨rfl, rfl⟩))
  go_ret2
  exact ⟨by simp [twoE], rfl⟩
theorem rtwo_7 (a b : Int) (w : World) : Calls Tryd.prog 14 #[.int .i64 7, .int .i64 a, .int .i64 b] w (Two0Post 7 a b w) := by
  go_enter Tryd.func14, Tryd.ntmps14
  go_wp2_with (first | (go_at_call 17; refine (rbool_c _ _).mono ?_; rintro e w' ⟨rfl, rfl⟩))
  go_ret2
  exact ⟨by simp [twoE], rfl⟩
theorem rtwo_10 (a b : Int) (w : World) : Calls Tryd.prog 14 #[.int .i64 10, .int .i64 a, .int .i64 b] w (Two0Post 10 a b w) := by
  go_enter Tryd.func14, Tryd.ntmps14
  go_wp2_with (first | (go_at_call 17; refine (rbool_c _ _).mono ?_; rintro e w' ⟨rfl, rfl⟩))
  go_ret2
  exact ⟨by simp [twoE], rfl⟩
theorem rtwo_11 (a b : Int) (w : World) : Calls Tryd.prog 14 #[.int .i64 11, .int .i64 a, .int .i64 b] w (Two0Post 11 a b w) := by
  go_enter Tryd.func14, Tryd.ntmps14
  go_wp2_with (first | (go_at_call 17; refine (rbool_c _ _).mono ?_; rintro e w' ⟨rfl, rfl⟩))
  go_ret2
  exact ⟨by simp [twoE], rfl⟩
theorem rtwo_12 (a b : Int) (w : World) : Calls Tryd.prog 14 #[.int .i64 12, .int .i64 a, .int .i64 b] w (Two0Post 12 a b w) := by
  go_enter Tryd.func14, Tryd.ntmps14
  go_wp2_with (first | (go_at_call 17; refine (rbool_c _ _).mono ?_; rintro e w' ⟨rfl, rfl⟩))
  go_ret2
  exact ⟨by simp [twoE], rfl⟩
theorem rtwo_13 (a b : Int) (w : World) : Calls Tryd.prog 14 #[.int .i64 13, .int .i64 a, .int .i64 b] w (Two0Post 13 a b w) := by
  go_enter Tryd.func14, Tryd.ntmps14
  go_wp2_with (first | (go_at_call 17; refine (rbool_c _ _).mono ?_; rintro e w' ⟨rfl, rfl⟩))
  go_ret2
  exact ⟨by simp [twoE], rfl⟩
theorem rtwo_8_0 (a b : Int) (w : World) (hb : b = 0) : Calls Tryd.prog 14 #[.int .i64 8, .int .i64 a, .int .i64 b] w (Two0Post 8 a b w) := by
  subst hb
  go_enter Tryd.func14, Tryd.ntmps14
  go_wp2_with (first | (go_at_call 17; refine (rbool_c _ _).mono ?_; rintro e w' ⟨rfl, rfl⟩))
  go_ret2
  exact ⟨by simp [twoE], rfl⟩
theorem rtwo_9_0 (a b : Int) (w : World) (hb : b = 0) : Calls Tryd.prog 14 #[.int .i64 9, .int .i64 a, .int .i64 b] w (Two0Post 9 a b w) := by
  subst hb
  go_enter Tryd.func14, Tryd.ntmps14
  go_wp2_with (first | (go_at_call 17; refine (rbool_c _ _).mono ?_; rintro e w' ⟨rfl, rfl⟩))
  go_ret2
  exact ⟨by simp [twoE], rfl⟩
theorem rtwo_8_n (a b : Int) (w : World) (hb : (b == 0) = false) (hb2 : ¬ b = 0) : Calls Tryd.prog 14 #[.int .i64 8, .int .i64 a, .int .i64 b] w (Two0Post 8 a b w) := by
  go_enter Tryd.func14, Tryd.ntmps14
  go_wp2_with (first | (go_at_call 17; refine (rbool_c _ _).mono ?_; rintro e w' ⟨rfl, rfl⟩) | (go_at_call 24; refine (quot_c _ _ _ hb2 hb).mono ?_; rintro e w' ⟨rfl, rfl⟩))
  go_ret2
  exact ⟨by simp [twoE, hb2], rfl⟩
theorem rtwo_9_n (a b : Int) (w : World) (hb : (b == 0) = false) (hb2 : ¬ b = 0) (ha64 : I64 a) (hb64 : I64 b) : Calls Tryd.prog 14 #[.int .i64 9, .int .i64 a, .int .i64 b] w (Two0Post 9 a b w) := by
  have hr : Hid _ := rest_eq a b ha64 hb64 hb2
  clear ha64 hb64
  go_enter Tryd.func14, Tryd.ntmps14
  go_wp2_with (first | (go_at_call 17; refine (rbool_c _ _).mono ?_; rintro e w' ⟨rfl, rfl⟩) | (go_at_call 24; refine (quot_c _ _ _ hb2 hb).mono ?_; rintro e w' ⟨rfl, rfl⟩))
  go_ret2
  exact ⟨by simp [twoE, hb2, hr.out], rfl⟩
theorem rtwo_14_tt (a b : Int) (w : World) (ha : (a != 0) = true) (hb : (b != 0) = true) : Calls Tryd.prog 14 #[.int .i64 14, .int .i64 a, .int .i64 b] w (Two0Post 14 a b w) := by
  go_enter Tryd.func14, Tryd.ntmps14
  go_wp2_with (first | (go_at_call 17; refine (rbool_c _ _).mono ?_; rintro e w' ⟨rfl, rfl⟩))
  go_ret2
  exact ⟨by simp [twoE, trB, ha, hb], rfl⟩
theorem rtwo_14_tf (a b : Int) (w : World) (ha : (a != 0) = true) (hb : (b != 0) = false) : Calls Tryd.prog 14 #[.int .i64 14, .int .i64 a, .int .i64 b] w (Two0Post 14 a b w) := by
  go_enter Tryd.func14, Tryd.ntmps14
  go_wp2_with (first | (go_at_call 17; refine (rbool_c _ _).mono ?_; rintro e w' ⟨rfl, rfl⟩))
  go_ret2
  exact ⟨by simp [twoE, trB, ha, hb], rfl⟩
theorem rtwo_14_ft (a b : Int) (w : World) (ha : (a != 0) = false) (hb : (b != 0) = true) : Calls Tryd.prog 14 #[.int .i64 14, .int .i64 a, .int .i64 b] w (Two0Post 14 a b w) := by
  go_enter Tryd.func14, Tryd.ntmps14
  go_wp2_with (first | (go_at_call 17; refine (rbool_c _ _).mono ?_; rintro e w' ⟨rfl, rfl⟩))
  go_ret2
  exact ⟨by simp [twoE, trB, ha, hb], rfl⟩
theorem rtwo_14_ff (a b : Int) (w : World) (ha : (a != 0) = false) (hb : (b != 0) = false) : Calls Tryd.prog 14 #[.int .i64 14, .int .i64 a, .int .i64 b] w (Two0Post 14 a b w) := by
  go_enter Tryd.func14, Tryd.ntmps14
  go_wp2_with (first | (go_at_call 17; refine (rbool_c _ _).mono ?_; rintro e w' ⟨rfl, rfl⟩))
  go_ret2
  exact ⟨by simp [twoE, trB, ha, hb], rfl⟩
theorem rtwo_15_tt (a b : Int) (w : World) (ha : (a != 0) = true) (hb : (b != 0) = true) : Calls Tryd.prog 14 #[.int .i64 15, .int .i64 a, .int .i64 b] w (Two0Post 15 a b w) := by
  go_enter Tryd.func14, Tryd.ntmps14
  go_wp2_with (first | (go_at_call 17; refine (rbool_c _ _).mono ?_; rintro e w' ⟨rfl, rfl⟩))
  go_ret2
  exact ⟨by simp [twoE, trB, ha, hb], rfl⟩
theorem rtwo_15_tf (a b : Int) (w : World) (ha : (a != 0) = true) (hb : (b != 0) = false) : Calls Tryd.prog 14 #[.int .i64 15, .int .i64 a, .int .i64 b] w (Two0Post 15 a b w) := by
  go_enter Tryd.func14, Tryd.ntmps14
  go_wp2_with (first | (go_at_call 17; refine (rbool_c _ _).mono ?_; rintro e w' ⟨rfl, rfl⟩))
  go_ret2
  exact ⟨by simp [twoE, trB, ha, hb], rfl⟩
theorem rtwo_15_ft (a b : Int) (w : World) (ha : (a != 0) = false) (hb : (b != 0) = true) : Calls Tryd.prog 14 #[.int .i64 15, .int .i64 a, .int .i64 b] w (Two0Post 15 a b w) := by
  go_enter Tryd.func14, Tryd.ntmps14
  go_wp2_with (first | (go_at_call 17; refine (rbool_c _ _).mono ?_; rintro e w' ⟨rfl, rfl⟩))
  go_ret2
  exact ⟨by simp [twoE, trB, ha, hb], rfl⟩
theorem rtwo_15_ff (a b : Int) (w : World) (ha : (a != 0) = false) (hb : (b != 0) = false) : Calls Tryd.prog 14 #[.int .i64 15, .int .i64 a, .int .i64 b] w (Two0Post 15 a b w) := by
  go_enter Tryd.func14, Tryd.ntmps14
  go_wp2_with (first | (go_at_call 17; refine (rbool_c _ _).mono ?_; rintro e w' ⟨rfl, rfl⟩))
  go_ret2
  exact ⟨by simp [twoE, trB, ha, hb], rfl⟩
theorem rtwo_out (op a b : Int) (w : World) (ho : op < 0 ∨ 16 ≤ op) : Calls Tryd.prog 14 #[.int .i64 op, .int .i64 a, .int .i64 b] w (Two0Post op a b w) := by
  have ht : twoE op a b = (0, 1) := by
    unfold twoE
    repeat rw [if_neg (by omega)]
  have h5 : (op == 5) = false := by simp; omega
  have h6 : (op == 6) = false := by simp; omega
  have h7 : (op == 7) = false := by simp; omega
  have h8 : (op == 8) = false := by simp; omega
  have h9 : (op == 9) = false := by simp; omega
  have h10 : (op == 10) = false := by simp; omega
  have h11 : (op == 11) = false := by simp; omega
  have h12 : (op == 12) = false := by simp; omega
  have h13 : (op == 13) = false := by simp; omega
  have h14 : (op == 14) = false := by simp; omega
  have h15 : (op == 15) = false := by simp; omega
  go_enter Tryd.func14, Tryd.ntmps14
  go_wp2_with (first | (go_at_call 17; refine (rbool_c _ _).mono ?_; rintro e w' ⟨rfl, rfl⟩))
  go_ret2
  exact ⟨by rw [ht]; rfl, rfl⟩
theorem rtwo_c (op a b : Int) (w : World) (ha64 : I64 a) (hb64 : I64 b) : Calls Tryd.prog 14 #[.int .i64 op, .int .i64 a, .int .i64 b] w (Two0Post op a b w) := by
  by_cases ho : op < 0 ∨ 16 ≤ op
  · exact rtwo_out op a b w ho
  have h : op = 0 ∨ op = 1 ∨ op = 2 ∨ op = 3 ∨ op = 4 ∨ op = 5 ∨ op = 6 ∨ op = 7 ∨ op = 8 ∨ op = 9 ∨ op = 10 ∨ op = 11 ∨ op = 12 ∨ op = 13 ∨ op = 14 ∨ op = 15 := by omega
  rcases h with rfl | rfl | rfl | rfl | rfl | rfl | rfl | rfl | rfl | rfl | rfl | rfl | rfl | rfl | rfl | rfl
  · exact rtwo_0 a b w
  · exact rtwo_1 a b w
  · exact rtwo_2 a b w
  · exact rtwo_3 a b w
  · exact rtwo_4 a b w
  · exact rtwo_5 a b w
  · exact rtwo_6 a b w
  · exact rtwo_7 a b w
  · by_cases hb : b = 0
    · exact rtwo_8_0 a b w hb
    · exact rtwo_8_n a b w (by simpa using hb) hb
  · by_cases hb : b = 0
    · exact rtwo_9_0 a b w hb
    · exact rtwo_9_n a b w (by simpa using hb) hb ha64 hb64
  · exact rtwo_10 a b w
  · exact rtwo_11 a b w
  · exact rtwo_12 a b w
  · exact rtwo_13 a b w
  · cases ha : (a != 0) <;> cases hb : (b != 0)
    · exact rtwo_14_ff a b w ha hb
    · exact rtwo_14_ft a b w ha hb
    · exact rtwo_14_tf a b w ha hb
    · exact rtwo_14_tt a b w ha hb
  · cases ha : (a != 0) <;> cases hb : (b != 0)
    · exact rtwo_15_ff a b w ha hb
    · exact rtwo_15_ft a b w ha hb
    · exact rtwo_15_tf a b w ha hb
    · exact rtwo_15_tt a b w ha hb
end Go.Proofs.YtmcgeaodmnchaaaDoor

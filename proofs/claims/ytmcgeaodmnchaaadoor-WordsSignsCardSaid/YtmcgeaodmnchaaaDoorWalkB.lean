/- words.Two. -/
import Derived.Test.YtmcgeaodmnchaaaDoorWalkA
import Derived.WalkKit
import Derived.WalkSpells
import Derived.WalkLawsBesides
import Derived.Laws.EntriesVeiled
namespace Go.Proofs.YtmcgeaodmnchaaaDoor
open Go.RowKit
set_option linter.unusedVariables false
def twoE (op a b : Int) : Int × Int :=
  if op = 5 then (wrap64 (a + b), 0) else if op = 6 then (wrap64 (a - b), 0) else if op = 7 then (wrap64 (a * b), 0)
  else if op = 8 then (if b = 0 then (0, 12) else (wrap64 (a.tdiv b), 0)) else if op = 9 then (if b = 0 then (0, 12) else (a.tmod b, 0))
  else if op = 10 then (trB (a == b), 0) else if op = 11 then (trB (a != b), 0) else if op = 12 then (trB (decide (a < b)), 0) else if op = 13 then (trB (decide (a ≤ b)), 0)
  else if op = 14 then (trB (a != 0 && b != 0), 0) else if op = 15 then (trB (a != 0 || b != 0), 0) else (0, 1)
def TwoPost (op a b : Int) (w : World) (e : Ending) (w' : World) : Prop := e = .returned (.tuple #[.int .i64 (twoE op a b).1, .int .i64 (twoE op a b).2]) ∧ Below w.heap.size w w'
theorem idx5 (n : Nat) (w : World) : (Instr.index 35 (opsV n) (.int .i64 5)).run Tryd.prog w = .ok (.func (.func 30) #[] #[]) w := by kernel_rfl
theorem idx6 (n : Nat) (w : World) : (Instr.index 35 (opsV n) (.int .i64 6)).run Tryd.prog w = .ok (.func (.func 31) #[] #[]) w := by kernel_rfl
theorem idx7 (n : Nat) (w : World) : (Instr.index 35 (opsV n) (.int .i64 7)).run Tryd.prog w = .ok (.func (.func 32) #[] #[]) w := by kernel_rfl
theorem idx8 (n : Nat) (w : World) : (Instr.index 35 (opsV n) (.int .i64 8)).run Tryd.prog w = .ok (.func (.func 33) #[] #[]) w := by kernel_rfl
theorem idx9 (n : Nat) (w : World) : (Instr.index 35 (opsV n) (.int .i64 9)).run Tryd.prog w = .ok (.func (.func 34) #[] #[]) w := by kernel_rfl
theorem idx10 (n : Nat) (w : World) : (Instr.index 35 (opsV n) (.int .i64 10)).run Tryd.prog w = .ok (.func (.func 29) #[] #[.pointer (some ⟨n + 1 + 1, 0, none⟩)]) w := by kernel_rfl
theorem idx11 (n : Nat) (w : World) : (Instr.index 35 (opsV n) (.int .i64 11)).run Tryd.prog w = .ok (.func (.func 29) #[] #[.pointer (some ⟨n + 1 + 1 + 1, 0, none⟩)]) w := by kernel_rfl
theorem idx12 (n : Nat) (w : World) : (Instr.index 35 (opsV n) (.int .i64 12)).run Tryd.prog w = .ok (.func (.func 29) #[] #[.pointer (some ⟨n + 1 + 1 + 1 + 1, 0, none⟩)]) w := by kernel_rfl
theorem idx13 (n : Nat) (w : World) : (Instr.index 35 (opsV n) (.int .i64 13)).run Tryd.prog w = .ok (.func (.func 29) #[] #[.pointer (some ⟨n + 1 + 1 + 1 + 1 + 1, 0, none⟩)]) w := by kernel_rfl
theorem idx14 (n : Nat) (w : World) : (Instr.index 35 (opsV n) (.int .i64 14)).run Tryd.prog w = .ok (.func (.func 29) #[] #[.pointer (some ⟨n + 1 + 1 + 1 + 1 + 1 + 1, 0, none⟩)]) w := by kernel_rfl
theorem idx15 (n : Nat) (w : World) : (Instr.index 35 (opsV n) (.int .i64 15)).run Tryd.prog w = .ok (.func (.func 29) #[] #[.pointer (some ⟨n + 1 + 1 + 1 + 1 + 1 + 1 + 1, 0, none⟩)]) w := by kernel_rfl
theorem idx0 (n : Nat) (w : World) : (Instr.index 35 (opsV n) (.int .i64 0)).run Tryd.prog w = .ok .nilFunc w := by kernel_rfl
theorem idx1 (n : Nat) (w : World) : (Instr.index 35 (opsV n) (.int .i64 1)).run Tryd.prog w = .ok .nilFunc w := by kernel_rfl
theorem idx2 (n : Nat) (w : World) : (Instr.index 35 (opsV n) (.int .i64 2)).run Tryd.prog w = .ok .nilFunc w := by kernel_rfl
theorem idx3 (n : Nat) (w : World) : (Instr.index 35 (opsV n) (.int .i64 3)).run Tryd.prog w = .ok .nilFunc w := by kernel_rfl
theorem idx4 (n : Nat) (w : World) : (Instr.index 35 (opsV n) (.int .i64 4)).run Tryd.prog w = .ok .nilFunc w := by kernel_rfl
theorem fn_nil (f : Nat) (cs : Array Value) (w : World) : (binOp BinOp.eql 34 (.func (.func f) #[] cs) .nilFunc).run Tryd.prog w = .ok (.bool false) w := by kernel_rfl
theorem nil_nil (w : World) : (binOp BinOp.eql 34 .nilFunc .nilFunc).run Tryd.prog w = .ok (.bool true) w := by kernel_rfl
theorem two_0 (a b : Int) (w : World) : Calls Tryd.prog 13 #[.int .i64 0, .int .i64 a, .int .i64 b] w (TwoPost 0 a b w) := by
  have hi := idx0 w.heap.size
  have hn := fn_nil
  have hnn := nil_nil
  go_enter Tryd.func13, Tryd.ntmps13
  go_wp2_with (first | (go_at_call 23; refine (ops_c _).mono ?_; rintro e w' ⟨rfl, hw⟩) | go_in)
  go_ret2
  exact ⟨rfl, hw.below⟩
theorem two_1 (a b : Int) (w : World) : Calls Tryd.prog 13 #[.int .i64 1, .int .i64 a, .int .i64 b] w (TwoPost 1 a b w) := by
  have hi := idx1 w.heap.size
  have hn := fn_nil
  have hnn := nil_nil
  go_enter Tryd.func13, Tryd.ntmps13
  go_wp2_with (first | (go_at_call 23; refine (ops_c _).mono ?_; rintro e w' ⟨rfl, hw⟩) | go_in)
  go_ret2
  exact ⟨rfl, hw.below⟩
theorem two_2 (a b : Int) (w : World) : Calls Tryd.prog 13 #[.int .i64 2, .int .i64 a, .int .i64 b] w (TwoPost 2 a b w) := by
  have hi := idx2 w.heap.size
  have hn := fn_nil
  have hnn := nil_nil
  go_enter Tryd.func13, Tryd.ntmps13
  go_wp2_with (first | (go_at_call 23; refine (ops_c _).mono ?_; rintro e w' ⟨rfl, hw⟩) | go_in)
  go_ret2
  exact ⟨rfl, hw.below⟩
theorem two_3 (a b : Int) (w : World) : Calls Tryd.prog 13 #[.int .i64 3, .int .i64 a, .int .i64 b] w (TwoPost 3 a b w) := by
  have hi := idx3 w.heap.size
  have hn := fn_nil
  have hnn := nil_nil
  go_enter Tryd.func13, Tryd.ntmps13
  go_wp2_with (first | (go_at_call 23; refine (ops_c _).mono ?_; rintro e w' ⟨rfl, hw⟩) | go_in)
  go_ret2
  exact ⟨rfl, hw.below⟩
theorem two_4 (a b : Int) (w : World) : Calls Tryd.prog 13 #[.int .i64 4, .int .i64 a, .int .i64 b] w (TwoPost 4 a b w) := by
  have hi := idx4 w.heap.size
  have hn := fn_nil
  have hnn := nil_nil
  go_enter Tryd.func13, Tryd.ntmps13
  go_wp2_with (first | (go_at_call 23; refine (ops_c _).mono ?_; rintro e w' ⟨rfl, hw⟩) | go_in)
  go_ret2
  exact ⟨rfl, hw.below⟩
theorem two_5 (a b : Int) (w : World) : Calls Tryd.prog 13 #[.int .i64 5, .int .i64 a, .int .i64 b] w (TwoPost 5 a b w) := by
  have hi := idx5 w.heap.size
  have hn := fn_nil
  have hnn := nil_nil
  go_enter Tryd.func13, Tryd.ntmps13
  go_wp2_with (first | (go_at_call 23; refine (ops_c _).mono ?_; rintro e w' ⟨rfl, hw⟩) | go_in)
  go_ret2
  exact ⟨rfl, hw.below⟩
theorem two_6 (a b : Int) (w : World) : Calls Tryd.prog 13 #[.int .i64 6, .int .i64 a, .int .i64 b] w (TwoPost 6 a b w) := by
  have hi := idx6 w.heap.size
  have hn := fn_nil
  have hnn := nil_nil
  go_enter Tryd.func13, Tryd.ntmps13
  go_wp2_with (first | (go_at_call 23; refine (ops_c _).mono ?_; rintro e w' ⟨rfl, hw⟩) | go_in)
  go_ret2
  exact ⟨rfl, hw.below⟩
theorem two_7 (a b : Int) (w : World) : Calls Tryd.prog 13 #[.int .i64 7, .int .i64 a, .int .i64 b] w (TwoPost 7 a b w) := by
  have hi := idx7 w.heap.size
  have hn := fn_nil
  have hnn := nil_nil
  go_enter Tryd.func13, Tryd.ntmps13
  go_wp2_with (first | (go_at_call 23; refine (ops_c _).mono ?_; rintro e w' ⟨rfl, hw⟩) | go_in)
  go_ret2
  exact ⟨rfl, hw.below⟩
theorem two_8_0 (a b : Int) (w : World) (hb : b = 0) : Calls Tryd.prog 13 #[.int .i64 8, .int .i64 a, .int .i64 b] w (TwoPost 8 a b w) := by
  have hi := idx8 w.heap.size
  have hn := fn_nil
  subst hb
  go_enter Tryd.func13, Tryd.ntmps13
  go_wp2_with (first | (go_at_call 23; refine (ops_c _).mono ?_; rintro e w' ⟨rfl, hw⟩) | go_in)
  all_goals
    go_ret2
    exact ⟨rfl, hw.below⟩
theorem two_8_n (a b : Int) (w : World) (hb : (b == 0) = false) (hb2 : ¬ b = 0) : Calls Tryd.prog 13 #[.int .i64 8, .int .i64 a, .int .i64 b] w (TwoPost 8 a b w) := by
  have hi := idx8 w.heap.size
  have hn := fn_nil
  go_enter Tryd.func13, Tryd.ntmps13
  go_wp2_with (first | (go_at_call 23; refine (ops_c _).mono ?_; rintro e w' ⟨rfl, hw⟩) | go_in)
  all_goals
    go_ret2
    exact ⟨by simp [twoE, hb2], hw.below⟩
theorem two_9_0 (a b : Int) (w : World) (hb : b = 0) : Calls Tryd.prog 13 #[.int .i64 9, .int .i64 a, .int .i64 b] w (TwoPost 9 a b w) := by
  have hi := idx9 w.heap.size
  have hn := fn_nil
  subst hb
  go_enter Tryd.func13, Tryd.ntmps13
  go_wp2_with (first | (go_at_call 23; refine (ops_c _).mono ?_; rintro e w' ⟨rfl, hw⟩) | go_in)
  all_goals
    go_ret2
    exact ⟨rfl, hw.below⟩
theorem two_9_n (a b : Int) (w : World) (hb : (b == 0) = false) (hb2 : ¬ b = 0) : Calls Tryd.prog 13 #[.int .i64 9, .int .i64 a, .int .i64 b] w (TwoPost 9 a b w) := by
  have hi := idx9 w.heap.size
  have hn := fn_nil
  go_enter Tryd.func13, Tryd.ntmps13
  go_wp2_with (first | (go_at_call 23; refine (ops_c _).mono ?_; rintro e w' ⟨rfl, hw⟩) | go_in)
  all_goals
    go_ret2
    exact ⟨by simp [twoE, hb2], hw.below⟩
theorem two_10 (a b : Int) (w : World) : Calls Tryd.prog 13 #[.int .i64 10, .int .i64 a, .int .i64 b] w (TwoPost 10 a b w) := by
  have hi := idx10 w.heap.size
  have hn := fn_nil
  go_enter Tryd.func13, Tryd.ntmps13
  go_wp2_with (first | (go_at_call 23; refine (ops_c _).mono ?_; rintro e w' ⟨rfl, hw⟩; have hc := hw.c10; unfold fnV at hc) | go_in)
  all_goals
    go_ret2
    exact ⟨by simp_all [twoE, trB], hw.below⟩
theorem two_11 (a b : Int) (w : World) : Calls Tryd.prog 13 #[.int .i64 11, .int .i64 a, .int .i64 b] w (TwoPost 11 a b w) := by
  have hi := idx11 w.heap.size
  have hn := fn_nil
  go_enter Tryd.func13, Tryd.ntmps13
  go_wp2_with (first | (go_at_call 23; refine (ops_c _).mono ?_; rintro e w' ⟨rfl, hw⟩; have hc := hw.c11; unfold fnV at hc) | go_in)
  all_goals
    go_ret2
    exact ⟨by simp_all [twoE, trB], hw.below⟩
theorem two_12 (a b : Int) (w : World) : Calls Tryd.prog 13 #[.int .i64 12, .int .i64 a, .int .i64 b] w (TwoPost 12 a b w) := by
  have hi := idx12 w.heap.size
  have hn := fn_nil
  go_enter Tryd.func13, Tryd.ntmps13
  go_wp2_with (first | (go_at_call 23; refine (ops_c _).mono ?_; rintro e w' ⟨rfl, hw⟩; have hc := hw.c12; unfold fnV at hc) | go_in)
  all_goals
    go_ret2
    exact ⟨by simp_all [twoE, trB], hw.below⟩
theorem two_13 (a b : Int) (w : World) : Calls Tryd.prog 13 #[.int .i64 13, .int .i64 a, .int .i64 b] w (TwoPost 13 a b w) := by
  have hi := idx13 w.heap.size
  have hn := fn_nil
  go_enter Tryd.func13, Tryd.ntmps13
  go_wp2_with (first | (go_at_call 23; refine (ops_c _).mono ?_; rintro e w' ⟨rfl, hw⟩; have hc := hw.c13; unfold fnV at hc) | go_in)
  all_goals
    go_ret2
    exact ⟨by simp_all [twoE, trB], hw.below⟩
theorem two_14_tt (a b : Int) (w : World) (ha : (a != 0) = true) (hb : (b != 0) = true) : Calls Tryd.prog 13 #[.int .i64 14, .int .i64 a, .int .i64 b] w (TwoPost 14 a b w) := by
  have hi := idx14 w.heap.size
  have hn := fn_nil
  go_enter Tryd.func13, Tryd.ntmps13
  go_wp2_with (first | (go_at_call 23; refine (ops_c _).mono ?_; rintro e w' ⟨rfl, hw⟩; have hc := hw.c14; unfold fnV at hc) | go_in)
  all_goals
    go_ret2
    exact ⟨by simp [twoE, trB, ha, hb], hw.below⟩
theorem two_14_tf (a b : Int) (w : World) (ha : (a != 0) = true) (hb : (b != 0) = false) : Calls Tryd.prog 13 #[.int .i64 14, .int .i64 a, .int .i64 b] w (TwoPost 14 a b w) := by
  have hi := idx14 w.heap.size
  have hn := fn_nil
  go_enter Tryd.func13, Tryd.ntmps13
  go_wp2_with (first | (go_at_call 23; refine (ops_c _).mono ?_; rintro e w' ⟨rfl, hw⟩; have hc := hw.c14; unfold fnV at hc) | go_in)
  all_goals
    go_ret2
    exact ⟨by simp [twoE, trB, ha, hb], hw.below⟩
theorem two_14_ft (a b : Int) (w : World) (ha : (a != 0) = false) (hb : (b != 0) = true) : Calls Tryd.prog 13 #[.int .i64 14, .int .i64 a, .int .i64 b] w (TwoPost 14 a b w) := by
  have hi := idx14 w.heap.size
  have hn := fn_nil
  go_enter Tryd.func13, Tryd.ntmps13
  go_wp2_with (first | (go_at_call 23; refine (ops_c _).mono ?_; rintro e w' ⟨rfl, hw⟩; have hc := hw.c14; unfold fnV at hc) | go_in)
  all_goals
    go_ret2
    exact ⟨by simp [twoE, trB, ha, hb], hw.below⟩
theorem two_14_ff (a b : Int) (w : World) (ha : (a != 0) = false) (hb : (b != 0) = false) : Calls Tryd.prog 13 #[.int .i64 14, .int .i64 a, .int .i64 b] w (TwoPost 14 a b w) := by
  have hi := idx14 w.heap.size
  have hn := fn_nil
  go_enter Tryd.func13, Tryd.ntmps13
  go_wp2_with (first | (go_at_call 23; refine (ops_c _).mono ?_; rintro e w' ⟨rfl, hw⟩; have hc := hw.c14; unfold fnV at hc) | go_in)
  all_goals
    go_ret2
    exact ⟨by simp [twoE, trB, ha, hb], hw.below⟩
theorem two_15_tt (a b : Int) (w : World) (ha : (a != 0) = true) (hb : (b != 0) = true) : Calls Tryd.prog 13 #[.int .i64 15, .int .i64 a, .int .i64 b] w (TwoPost 15 a b w) := by
  have hi := idx15 w.heap.size
  have hn := fn_nil
  go_enter Tryd.func13, Tryd.ntmps13
  go_wp2_with (first | (go_at_call 23; refine (ops_c _).mono ?_; rintro e w' ⟨rfl, hw⟩; have hc := hw.c15; unfold fnV at hc) | go_in)
  all_goals
    go_ret2
    exact ⟨by simp [twoE, trB, ha, hb], hw.below⟩
theorem two_15_tf (a b : Int) (w : World) (ha : (a != 0) = true) (hb : (b != 0) = false) : Calls Tryd.prog 13 #[.int .i64 15, .int .i64 a, .int .i64 b] w (TwoPost 15 a b w) := by
  have hi := idx15 w.heap.size
  have hn := fn_nil
  go_enter Tryd.func13, Tryd.ntmps13
  go_wp2_with (first | (go_at_call 23; refine (ops_c _).mono ?_; rintro e w' ⟨rfl, hw⟩; have hc := hw.c15; unfold fnV at hc) | go_in)
  all_goals
    go_ret2
    exact ⟨by simp [twoE, trB, ha, hb], hw.below⟩
theorem two_15_ft (a b : Int) (w : World) (ha : (a != 0) = false) (hb : (b != 0) = true) : Calls Tryd.prog 13 #[.int .i64 15, .int .i64 a, .int .i64 b] w (TwoPost 15 a b w) := by
  have hi := idx15 w.heap.size
  have hn := fn_nil
  go_enter Tryd.func13, Tryd.ntmps13
  go_wp2_with (first | (go_at_call 23; refine (ops_c _).mono ?_; rintro e w' ⟨rfl, hw⟩; have hc := hw.c15; unfold fnV at hc) | go_in)
  all_goals
    go_ret2
    exact ⟨by simp [twoE, trB, ha, hb], hw.below⟩
theorem two_15_ff (a b : Int) (w : World) (ha : (a != 0) = false) (hb : (b != 0) = false) : Calls Tryd.prog 13 #[.int .i64 15, .int .i64 a, .int .i64 b] w (TwoPost 15 a b w) := by
  have hi := idx15 w.heap.size
  have hn := fn_nil
  go_enter Tryd.func13, Tryd.ntmps13
  go_wp2_with (first | (go_at_call 23; refine (ops_c _).mono ?_; rintro e w' ⟨rfl, hw⟩; have hc := hw.c15; unfold fnV at hc) | go_in)
  all_goals
    go_ret2
    exact ⟨by simp [twoE, trB, ha, hb], hw.below⟩
theorem two_out (op a b : Int) (w : World) (ho : op < 0 ∨ 16 ≤ op) : Calls Tryd.prog 13 #[.int .i64 op, .int .i64 a, .int .i64 b] w (TwoPost op a b w) := by
  have ht : twoE op a b = (0, 1) := by
    unfold twoE
    repeat rw [if_neg (by omega)]
  rcases ho with ho | ho
  · have h1 : decide (op < 0) = true := by simpa using ho
    go_enter Tryd.func13, Tryd.ntmps13
    go_wp2
    go_ret2
    exact ⟨by rw [ht]; rfl, Below.refl _ _⟩
  · have h0 : ¬ op < 0 := by omega
    have h1 : decide (16 ≤ op) = true := by simpa using ho
    go_enter Tryd.func13, Tryd.ntmps13
    go_wp2
    go_ret2
    exact ⟨by rw [ht]; rfl, Below.refl _ _⟩
theorem two_c (op a b : Int) (w : World) : Calls Tryd.prog 13 #[.int .i64 op, .int .i64 a, .int .i64 b] w (TwoPost op a b w) := by
  by_cases ho : op < 0 ∨ 16 ≤ op
  · exact two_out op a b w ho
  have h : op = 0 ∨ op = 1 ∨ op = 2 ∨ op = 3 ∨ op = 4 ∨ op = 5 ∨ op = 6 ∨ op = 7 ∨ op = 8 ∨ op = 9 ∨ op = 10 ∨ op = 11 ∨ op = 12 ∨ op = 13 ∨ op = 14 ∨ op = 15 := by omega
  rcases h with rfl | rfl | rfl | rfl | rfl | rfl | rfl | rfl | rfl | rfl | rfl | rfl | rfl | rfl | rfl | rfl
  · exact two_0 a b w
  · exact two_1 a b w
  · exact two_2 a b w
  · exact two_3 a b w
  · exact two_4 a b w
  · exact two_5 a b w
  · exact two_6 a b w
  · exact two_7 a b w
  · by_cases hb : b = 0
    · exact two_8_0 a b w hb
    · exact two_8_n a b w (by simpa using hb) hb
  · by_cases hb : b = 0
    · exact two_9_0 a b w hb
    · exact two_9_n a b w (by simpa using hb) hb
  · exact two_10 a b w
  · exact two_11 a b w
  · exact two_12 a b w
  · exact two_13 a b w
  · cases ha : (a != 0) <;> cases hb : (b != 0)
    · exact two_14_ff a b w ha hb
    · exact two_14_ft a b w ha hb
    · exact two_14_tf a b w ha hb
    · exact two_14_tt a b w ha hb
  · cases ha : (a != 0) <;> cases hb : (b != 0)
    · exact two_15_ff a b w ha hb
    · exact two_15_ft a b w ha hb
    · exact two_15_tf a b w ha hb
    · exact two_15_tt a b w ha hb
end Go.Proofs.YtmcgeaodmnchaaaDoor

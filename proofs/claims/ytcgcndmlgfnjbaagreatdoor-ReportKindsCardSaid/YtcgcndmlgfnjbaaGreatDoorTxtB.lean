/- The texts of all whole numbers: the walks. -/
import Derived.Test.YtcgcndmlgfnjbaaGreatDoorTxtA
import Derived.Test.YtcgcndmlgfnjbaaGreatDoorNumRef
namespace Go.Proofs.YtcgcndmlgfnjbaaGreatDoor
open Go Go.RowKit
set_option linter.unusedVariables false
set_option maxHeartbeats 400000 in
theorem textZ_c (n : Int) (hn : I64 n) (w : World) (hE : Env w) :
    Calls Tryz.prog 49 #[.int .i64 n] w fun e w' => e = .returned (.string (str (Lib.itoa n))) ∧ Below w.heap.size w w' := by
  have HE := Lib.hid hE
  have HN := Lib.hid hn
  clear hE hn
  go_enter Tryz.func49, Tryz.ntmps49
  go_wp2_with (go_at_call 70; refine (Tryz.strconv_Itoa n HN.out.1 HN.out.2 w HE.out.tab).mono ?_; rintro e w' ⟨rfl, k, os, rfl⟩)
  go_ret
  exact ⟨rfl, belowGrow _ _ _⟩
theorem itoa_pos (n : Int) (h : 10 ≤ n) : Lib.itoa n = Lib.itoa (n / 10) ++ Lib.itoa (n % 10) := by
  unfold Lib.itoa
  rw [if_neg (by omega), if_neg (by omega), if_neg (by omega), Lib.decDigits, dif_neg (by omega), Lib.decDigits.eq_def ((n % 10).toNat), dif_pos (by omega)]
  congr 2
  · congr 1; omega
  · congr 2; omega
theorem itoa_neg1 (n : Int) (h : n < 0) (h1 : -10 < n) : Lib.itoa n = 45 :: Lib.itoa (-n) := by
  unfold Lib.itoa
  rw [if_pos h, if_neg (by omega)]
  congr 2; omega
theorem itoa_neg (n : Int) (h : n ≤ -10) : Lib.itoa n = Lib.itoa (n.tdiv 10) ++ Lib.itoa (-(n.tmod 10)) := by
  have e1 : n.tdiv 10 = -((-n) / 10) := by
    rw [← Int.neg_neg n, Int.neg_tdiv, Int.tdiv_eq_ediv_of_nonneg (by omega)]; simp
  have e2 : n.tmod 10 = -((-n) % 10) := by
    rw [← Int.neg_neg n, Int.neg_tmod, Int.tmod_eq_emod_of_nonneg (by omega)]; simp
  rw [e1, e2]
  unfold Lib.itoa
  rw [if_pos (by omega), if_pos (by omega), if_neg (by omega), Lib.decDigits, dif_neg (by omega), Lib.decDigits.eq_def ((- -(-n % 10)).toNat), dif_pos (by omega)]
  simp only [List.cons_append]
  congr 3
  · congr 1; omega
  · congr 2; omega
theorem decDigitsZ_len : ∀ (k u : Nat), u < 10 ^ (k + 1) → (Lib.decDigits u).length ≤ k + 1
  | 0, u, h => by rw [Lib.decDigits, dif_pos (by simpa using h)]; simp
  | k + 1, u, h => by
    rw [Lib.decDigits]
    split
    · simp
    · have := decDigitsZ_len k (u / 10) (by rw [Nat.pow_succ] at h; omega)
      simp; omega
theorem itoaZ_len (n : Int) (h : I64 n) : (Lib.itoa n).length ≤ 20 := by
  have := h.1; have := h.2
  have e : (10 : Nat) ^ (18 + 1) = 10000000000000000000 := by decide +kernel
  unfold Lib.itoa
  split
  · have := decDigitsZ_len 18 n.natAbs (by omega)
    simp; omega
  · have := decDigitsZ_len 18 n.toNat (by omega)
    omega
theorem str_itoaZ_le (n : Int) (h : I64 n) : (str (Lib.itoa n)).size ≤ 20 := by rw [str_size]; exact itoaZ_len n h
set_option maxHeartbeats 400000 in
theorem rtextZ_k (k : Nat) : ∀ (n : Int) (w : World), n.natAbs ≤ k → I64 n →
    Calls Tryz.prog 34 #[.int .i64 n] w fun e w' => e = .returned (.string (str (Lib.itoa n))) ∧ Below w.heap.size w w' := by
  induction k with
  | zero => intro n w hk hn; exact rtext_small n (by omega) (by omega) w
  | succ k ih =>
    intro n w hk hn
    have hn1 := hn.1; have hn2 := hn.2
    by_cases h0 : 0 ≤ n
    · by_cases h1 : n < 10
      · exact rtext_small n h0 h1 w
      · have hd : decide (0 ≤ n) = true := by simpa using h0
        have hd1 : decide (n < 10) = false := by simpa using h1
        have hit := Lib.hid (itoa_pos n (by omega))
        have z1 := str_itoaZ_le (n / 10) ⟨by omega, by omega⟩
        have z2 := str_itoaZ_le (n % 10) ⟨by omega, by omega⟩
        have ih1 := Lib.hid (ih (n / 10) w (by omega) ⟨by omega, by omega⟩)
        have ih2 := Lib.hid (fun w' => ih (n % 10) w' (by omega) ⟨by omega, by omega⟩)
        clear ih
        go_enter Tryz.func34, Tryz.ntmps34
        go_wp2_with fail
        refine ih1.out.mono ?_
        rintro e w1 ⟨rfl, hb1⟩
        go_wp2_with fail
        refine (ih2.out _).mono ?_
        rintro e w2 ⟨rfl, hb2⟩
        go_wp2_with fail
        go_ret
        exact ⟨ret_str (by rw [hit.out, str_app]), hb1.trans (hb2.mono hb1.size)⟩
    · have hd : decide (0 ≤ n) = false := by simpa using h0
      have hd1 : ¬ (0 < n) := by omega
      by_cases h1 : -10 < n
      · have hq : n.tdiv 10 = 0 := by
          have e := Int.neg_tdiv (-n) 10; rw [Int.neg_neg, Int.tdiv_eq_ediv_of_nonneg (a := -n) (by omega)] at e; omega
        have hr : n.tmod 10 = n := by
          have e := Int.neg_tmod (-n) 10; rw [Int.neg_neg, Int.tmod_eq_emod_of_nonneg (a := -n) (by omega)] at e; omega
        have hit := Lib.hid (itoa_neg1 n (by omega) h1)
        have z1 := str_itoaZ_le (-n) ⟨by omega, by omega⟩
        have ih1 := Lib.hid (rtext_small (-n) (by omega) (by omega) w)
        have hw0 : wrap64 0 = 0 := by decide +kernel
        have hw1 : wrap64 (-n) = -n := wrap64_id _ ⟨by omega, by omega⟩
        clear ih
        go_enter Tryz.func34, Tryz.ntmps34
        go_wp2_with fail
        refine ih1.out.mono ?_
        rintro e w1 ⟨rfl, hb1⟩
        go_wp2_with fail
        go_ret
        exact ⟨ret_str (by rw [hit.out, str_cons]), hb1⟩
      · have e1 : n.tdiv 10 = -((-n) / 10) := by
          rw [← Int.neg_neg n, Int.neg_tdiv, Int.tdiv_eq_ediv_of_nonneg (by omega)]; simp
        have e2 : n.tmod 10 = -((-n) % 10) := by
          rw [← Int.neg_neg n, Int.neg_tmod, Int.tmod_eq_emod_of_nonneg (by omega)]; simp
        have hit := Lib.hid (itoa_neg n (by omega))
        have z1 := str_itoaZ_le (n.tdiv 10) ⟨by omega, by omega⟩
        have z2 := str_itoaZ_le (-(n.tmod 10)) ⟨by omega, by omega⟩
        have ih1 := Lib.hid (ih (n.tdiv 10) w (by omega) ⟨by omega, by omega⟩)
        have ih2 := Lib.hid (fun w' => ih (-(n.tmod 10)) w' (by omega) ⟨by omega, by omega⟩)
        have hq0 : (n.tdiv 10 == 0) = false := by rw [beq_eq_false_iff_ne]; omega
        have hw1 : wrap64 (n.tdiv 10) = n.tdiv 10 := wrap64_id _ ⟨by omega, by omega⟩
        have hw2 : wrap64 (-(n.tmod 10)) = -(n.tmod 10) := wrap64_id _ ⟨by omega, by omega⟩
        clear ih e1 e2
        go_enter Tryz.func34, Tryz.ntmps34
        go_wp2_with fail
        refine ih1.out.mono ?_
        rintro e w1 ⟨rfl, hb1⟩
        go_wp2_with fail
        refine (ih2.out _).mono ?_
        rintro e w2 ⟨rfl, hb2⟩
        go_wp2_with fail
        go_ret
        exact ⟨ret_str (by rw [hit.out, str_app]), hb1.trans (hb2.mono hb1.size)⟩
theorem rtextZ_c (n : Int) (hn : I64 n) (w : World) :
    Calls Tryz.prog 34 #[.int .i64 n] w fun e w' => e = .returned (.string (str (Lib.itoa n))) ∧ Below w.heap.size w w' :=
  rtextZ_k n.natAbs n w (Nat.le_refl _) hn
end Go.Proofs.YtcgcndmlgfnjbaaGreatDoor

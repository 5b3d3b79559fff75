/- The texts of numbers: the walks. -/
import Derived.Test.YtcgcndmlgfnjbaaGreatDoorHlpA
import Derived.Test.YtcgcndmlgfnjbaaGreatDoorEnv0
import Derived.WalkKit
import Derived.WalkSpells
import Derived.WalkLawsBesides
import Derived.Lib.Hide
import Derived.Lib.LaidTab
import Derived.Lib.ItoaLen
namespace Go.Proofs.YtcgcndmlgfnjbaaGreatDoor
open Go Go.RowKit
set_option linter.unusedVariables false
theorem str_snoc (a b : List UInt8) : str a ++ str b = str (a ++ b) := (ByteArray.mk_append_mk a b)
theorem dec_len : ∀ (k u : Nat), u < 10 ^ (k + 1) → (Lib.decDigits u).length ≤ k + 1 := by
  intro k
  induction k with
  | zero => intro u h; rw [Lib.decDigits, dif_pos (by omega)]; simp
  | succ k ih =>
    intro u h
    rw [Lib.decDigits]
    split
    · simp
    · have := ih (u / 10) (by rw [Nat.div_lt_iff_lt_mul (by decide)]; rw [Nat.pow_succ] at h; exact h)
      simp only [List.length_append, List.length_cons, List.length_nil]; omega
theorem itoa_len (n : Int) (h0 : 0 ≤ n) (h1 : n < 10000000000) : (Lib.itoa n).length ≤ 10 := by
  unfold Lib.itoa
  rw [if_neg (by omega)]
  exact dec_len 9 _ (by omega)
theorem belowGrow (w : World) (k : Nat) (os : Array Obj) : Below w.heap.size w (Sort.grow (w.drewN k) os) := by
  refine ⟨rfl, rfl, rfl, ?_, fun i hi => ?_⟩
  · simp [Sort.grow, World.drewN]
  · simp only [Sort.grow, World.drewN]
    exact Array.getElem?_append_left hi
theorem str_app (a b : List UInt8) : str (a ++ b) = str a ++ str b := (ByteArray.mk_append_mk a b).symm
theorem str_cons (a : UInt8) (b : List UInt8) : str (a :: b) = ⟨#[a]⟩ ++ str b := (ByteArray.mk_append_mk [a] b).symm
set_option maxHeartbeats 400000 in
theorem text_c (n : Int) (h0 : 0 ≤ n) (h1 : n ≤ 4294967296) (w : World) (hE : Env w) :
    Calls Tryz.prog 49 #[.int .i64 n] w fun e w' => e = .returned (.string (str (Lib.itoa n))) ∧ Below w.heap.size w w' := by
  have HE := Lib.hid hE
  have HN : Hid (-9223372036854775808 ≤ n ∧ n ≤ 9223372036854775807) := by show _ ∧ _; omega
  clear hE h0 h1
  go_enter Tryz.func49, Tryz.ntmps49
  go_wp2_with (go_at_call 70; refine (Tryz.strconv_Itoa n HN.out.1 HN.out.2 w HE.out.tab).mono ?_; rintro e w' ⟨rfl, k, os, rfl⟩)
  go_ret
  exact ⟨rfl, belowGrow _ _ _⟩
set_option maxHeartbeats 400000 in
theorem rtext_small (n : Int) (h0 : 0 ≤ n) (h1 : n < 10) (w : World) :
    Calls Tryz.prog 34 #[.int .i64 n] w fun e w' => e = .returned (.string (str (Lib.itoa n))) ∧ Below w.heap.size w w' := by
  have hd : decide (0 ≤ n) = true := by simpa using h0
  have hd1 : decide (n < 10) = true := by simpa using h1
  have hcv : ∀ u : World, (convert 68 9 (.slice (some ⟨w.heap.size, 0, none⟩) 1 1)).run Tryz.prog (w.alloc (.cells #[.int .u8 (48 + n)] 5)) = .ok (.string (str (Lib.itoa n))) (w.alloc (.cells #[.int .u8 (48 + n)] 5)) := by
    intro u
    have h := run_convert_bytes_back (P := Tryz.prog) (w.alloc (.cells #[.int .u8 (48 + n)] 5)) 68 9 5 ⟨w.heap.size, 0, none⟩ 1 (Lib.itoa n) Tryz.underlying68 Tryz.underlying5 Tryz.underlying9
    have hl : Lib.itoa n = [UInt8.ofNat (48 + n.toNat)] := by
      rw [Lib.itoa, if_neg (by omega), Lib.decDigits, dif_pos (by omega)]
    rw [hl] at h ⊢
    refine h ?_
    intro j hj
    obtain rfl : j = 0 := by simpa using hj
    have : (48 + n.toNat) % 256 = 48 + n.toNat := Nat.mod_eq_of_lt (by omega)
    simp [go_sem, this]
    omega
  have hcv := hcv w
  go_enter Tryz.func34, Tryz.ntmps34
  go_wp2_with fail
  go_ret
  exact ⟨rfl, (Below.refl _ _).alloc (Nat.le_refl _) _⟩
theorem itoa_step (n : Int) (h : 10 ≤ n) : Lib.itoa n = Lib.itoa (n / 10) ++ Lib.itoa (n % 10) := by
  unfold Lib.itoa
  rw [if_neg (by omega), if_neg (by omega), if_neg (by omega), Lib.decDigits, dif_neg (by omega), Lib.decDigits.eq_def ((n % 10).toNat), dif_pos (by omega)]
  congr 2
  · congr 1; omega
  · congr 2; omega
theorem str_itoa_le (n : Int) (h0 : 0 ≤ n) (h1 : n ≤ 4294967296) : (str (Lib.itoa n)).size ≤ 20 := by
  rw [str_size]
  have := itoa_len n h0 (by omega)
  omega
set_option maxHeartbeats 400000 in
theorem rtext_k (k : Nat) : ∀ (n : Int) (w : World), n.natAbs ≤ k → 0 ≤ n → n ≤ 4294967296 →
    Calls Tryz.prog 34 #[.int .i64 n] w fun e w' => e = .returned (.string (str (Lib.itoa n))) ∧ Below w.heap.size w w' := by
  induction k with
  | zero => intro n w hk h0 hn; exact rtext_small n (by omega) (by omega) w
  | succ k ih =>
    intro n w hk h0 hn
    by_cases h1 : n < 10
    · exact rtext_small n h0 h1 w
    · have hd : decide (0 ≤ n) = true := by simpa using h0
      have hd1 : decide (n < 10) = false := by simpa using h1
      have hit := Lib.hid (itoa_step n (by omega))
      have z1 := str_itoa_le (n / 10) (by omega) (by omega)
      have z2 := str_itoa_le (n % 10) (by omega) (by omega)
      have ih1 := Lib.hid (ih (n / 10) w (by omega) (by omega) (by omega))
      have ih2 := Lib.hid (fun w' => ih (n % 10) w' (by omega) (by omega) (by omega))
      clear ih
      go_enter Tryz.func34, Tryz.ntmps34
      go_wp2_with fail
      refine ih1.out.mono ?_
      rintro e w1 ⟨rfl, hb1⟩
      go_wp2_with fail
      refine (ih2.out _).mono ?_
      rintro e w2 ⟨rfl, hb2⟩
      go_wp2_with fail
      go_ret
      exact ⟨ret_str (by rw [hit.out, str_app]), hb1.trans (hb2.mono hb1.size)⟩
theorem rtext_c (n : Int) (h0 : 0 ≤ n) (hn : n ≤ 4294967296) (w : World) :
    Calls Tryz.prog 34 #[.int .i64 n] w fun e w' => e = .returned (.string (str (Lib.itoa n))) ∧ Below w.heap.size w w' :=
  rtext_k n.natAbs n w (Nat.le_refl _) h0 hn
end Go.Proofs.YtcgcndmlgfnjbaaGreatDoor

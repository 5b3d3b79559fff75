/- How many bytes of a text's beginning are so: blanks, digits, letters and digits, all but a line's end: the walks. -/
import Derived.Test.YtknfimagjkndnaaDoorScanName
import Derived.Test.YtknfimagjkndnaaDoorRScanPlain
import Derived.WalkKit
import Derived.WalkSpells
import Derived.WalkLawsBesides
import Derived.BigQuiet
import Derived.Deep.QuietTactic
namespace Go.Proofs.YtknfimagjkndnaaDoor
open Go Go.RowKit
set_option linter.unusedVariables false
theorem blank_int (c : UInt8) : blankE c = (((((c.toNat : Int) == 32) || ((c.toNat : Int) == 9)) || ((c.toNat : Int) == 10)) || ((c.toNat : Int) == 13)) := by
  rw [Bool.eq_iff_iff]; simp [blankE]; omega
theorem blank_c (c : UInt8) (w : World) : Calls Tryd.prog 25 #[.int .u8 c.toNat] w fun e w' => e = .returned (.bool (blankE c)) ∧ w = w' := by
  have hb : (c.toNat : Int) < 256 := by have := c.toNat_lt; omega
  have HV := blank_int c
  cases h1 : ((c.toNat : Int) == 32) <;> cases h2 : ((c.toNat : Int) == 9) <;> cases h3 : ((c.toNat : Int) == 10) <;> cases h4 : ((c.toNat : Int) == 13)
  all_goals
    rw [h1, h2, h3, h4] at HV
    have HV2 := Lib.hid HV
    clear HV
    go_enter Tryd.func25, Tryd.ntmps25
    go_wp2
    go_ret
    exact ⟨ret_bool (by rw [HV2.out]; rfl), rfl⟩
def nlE (c : UInt8) : Bool := !decide (c.toNat = 10)
theorem nl_c (c : UInt8) (w : World) : Calls Tryd.prog 27 #[.int .u8 c.toNat] w fun e w' => e = .returned (.bool (nlE c)) ∧ w = w' := by
  have hb : (c.toNat : Int) < 256 := by have := c.toNat_lt; omega
  have HV : nlE c = ((c.toNat : Int) != 10) := by
    rw [Bool.eq_iff_iff]; simp [nlE]; omega
  cases h1 : ((c.toNat : Int) != 10)
  all_goals
    rw [h1] at HV
    have HV2 := Lib.hid HV
    clear HV
    go_enter Tryd.func27, Tryd.ntmps27
    go_wp2
    go_ret
    exact ⟨ret_bool HV2.out.symm, rfl⟩
theorem tld_c (c : UInt8) (w : World) : Calls Tryd.prog 41 #[.int .u8 c.toNat] w fun e w' => e = .returned (.bool (ldE c)) ∧ w = w' := by
  have HV := Lib.hid (show ldE c = (letterE c || digitE c) from rfl)
  cases h1 : letterE c
  all_goals
    have HV2 := HV.out
    rw [h1] at HV2
    have HV3 := Lib.hid HV2
    clear HV2 HV
    go_enter Tryd.func41, Tryd.ntmps41
    go_wp2_with (first | (go_at_call 33; refine (letter_c _ _).mono ?_; rintro e w' ⟨rfl, rfl⟩) | (go_at_call 35; refine (digit_c _ _).mono ?_; rintro e w' ⟨rfl, rfl⟩))
    go_ret
    exact ⟨ret_bool (by rw [HV3.out]; rfl), rfl⟩
set_option maxHeartbeats 400000 in
theorem run_blank (s : ByteArray) (hs : s.size ≤ 9223372036854775807) (w : World) :
    Calls Tryd.prog 24 #[.string s, .func (.func 25) #[] #[]] w fun e w' => e = .returned (.int .i64 (s.data.toList.takeWhile blankE).length) ∧ w = w' := by
  go_enter Tryd.func24, Tryd.ntmps24
  go_wp2_with fail
  go_loop [5] (fun n => ∃ k : Nat, k ≤ s.size ∧ n = .int .i64 k ∧ ∀ j (h : j < k) (h' : j < s.size), blankE s[j] = true) (fun n => s.size - (intOf n).toNat)
  case atStart => exact ⟨0, Nat.zero_le _, rfl, fun j h => absurd h (by omega)⟩
  case round =>
    obtain ⟨k, hk, rfl, hall⟩ := hrel
    have HA := Lib.hid hall
    clear hall
    by_cases hlt : k < s.size
    · cases hd : blankE (s[k]'hlt)
      · have HS := Lib.hid (tw_stop (p := blankE) s.data.toList k (by simpa using hlt) (fun j h => HA.out j h (by omega)) hd)
        go_wp2_with (go_at_call 25; refine (blank_c (s[k]'hlt) _).mono ?_; rintro e w' ⟨rfl, rfl⟩)
        go_ret
        exact ⟨ret_int (by rw [HS.out]), rfl⟩
      · go_wp2_with (go_at_call 25; refine (blank_c (s[k]'hlt) _).mono ?_; rintro e w' ⟨rfl, rfl⟩)
        go_round
        case rel =>
          refine ⟨k + 1, by omega, by go_num, fun j h h' => ?_⟩
          by_cases hj : j < k
          · exact HA.out j hj h'
          · obtain rfl : j = k := by omega
            exact hd
        case measure => simp [intOf]; omega
    · obtain rfl : k = s.size := by omega
      have HS := Lib.hid (tw_full (p := blankE) s.data.toList (fun j h => HA.out j (by simpa using h) (by simpa using h)))
      go_wp2_with fail
      go_ret
      exact ⟨ret_int (by rw [HS.out]; simp), rfl⟩
set_option maxHeartbeats 400000 in
theorem run_nl (s : ByteArray) (hs : s.size ≤ 9223372036854775807) (w : World) :
    Calls Tryd.prog 24 #[.string s, .func (.func 27) #[] #[]] w fun e w' => e = .returned (.int .i64 (s.data.toList.takeWhile nlE).length) ∧ w = w' := by
  go_enter Tryd.func24, Tryd.ntmps24
  go_wp2_with fail
  go_loop [5] (fun n => ∃ k : Nat, k ≤ s.size ∧ n = .int .i64 k ∧ ∀ j (h : j < k) (h' : j < s.size), nlE s[j] = true) (fun n => s.size - (intOf n).toNat)
  case atStart => exact ⟨0, Nat.zero_le _, rfl, fun j h => absurd h (by omega)⟩
  case round =>
    obtain ⟨k, hk, rfl, hall⟩ := hrel
    have HA := Lib.hid hall
    clear hall
    by_cases hlt : k < s.size
    · cases hd : nlE (s[k]'hlt)
      · have HS := Lib.hid (tw_stop (p := nlE) s.data.toList k (by simpa using hlt) (fun j h => HA.out j h (by omega)) hd)
        go_wp2_with (go_at_call 27; refine (nl_c (s[k]'hlt) _).mono ?_; rintro e w' ⟨rfl, rfl⟩)
        go_ret
        exact ⟨ret_int (by rw [HS.out]), rfl⟩
      · go_wp2_with (go_at_call 27; refine (nl_c (s[k]'hlt) _).mono ?_; rintro e w' ⟨rfl, rfl⟩)
        go_round
        case rel =>
          refine ⟨k + 1, by omega, by go_num, fun j h h' => ?_⟩
          by_cases hj : j < k
          · exact HA.out j hj h'
          · obtain rfl : j = k := by omega
            exact hd
        case measure => simp [intOf]; omega
    · obtain rfl : k = s.size := by omega
      have HS := Lib.hid (tw_full (p := nlE) s.data.toList (fun j h => HA.out j (by simpa using h) (by simpa using h)))
      go_wp2_with fail
      go_ret
      exact ⟨ret_int (by rw [HS.out]; simp), rfl⟩
set_option maxHeartbeats 400000 in
theorem run_dig (s : ByteArray) (hs : s.size ≤ 9223372036854775807) (w : World) :
    Calls Tryd.prog 24 #[.string s, .func (.func 35) #[] #[]] w fun e w' => e = .returned (.int .i64 (s.data.toList.takeWhile digitE).length) ∧ w = w' := by
  go_enter Tryd.func24, Tryd.ntmps24
  go_wp2_with fail
  go_loop [5] (fun n => ∃ k : Nat, k ≤ s.size ∧ n = .int .i64 k ∧ ∀ j (h : j < k) (h' : j < s.size), digitE s[j] = true) (fun n => s.size - (intOf n).toNat)
  case atStart => exact ⟨0, Nat.zero_le _, rfl, fun j h => absurd h (by omega)⟩
  case round =>
    obtain ⟨k, hk, rfl, hall⟩ := hrel
    have HA := Lib.hid hall
    clear hall
    by_cases hlt : k < s.size
    · cases hd : digitE (s[k]'hlt)
      · have HS := Lib.hid (tw_stop (p := digitE) s.data.toList k (by simpa using hlt) (fun j h => HA.out j h (by omega)) hd)
        go_wp2_with (go_at_call 35; refine (digit_c (s[k]'hlt) _).mono ?_; rintro e w' ⟨rfl, rfl⟩)
        go_ret
        exact ⟨ret_int (by rw [HS.out]), rfl⟩
      · go_wp2_with (go_at_call 35; refine (digit_c (s[k]'hlt) _).mono ?_; rintro e w' ⟨rfl, rfl⟩)
        go_round
        case rel =>
          refine ⟨k + 1, by omega, by go_num, fun j h h' => ?_⟩
          by_cases hj : j < k
          · exact HA.out j hj h'
          · obtain rfl : j = k := by omega
            exact hd
        case measure => simp [intOf]; omega
    · obtain rfl : k = s.size := by omega
      have HS := Lib.hid (tw_full (p := digitE) s.data.toList (fun j h => HA.out j (by simpa using h) (by simpa using h)))
      go_wp2_with fail
      go_ret
      exact ⟨ret_int (by rw [HS.out]; simp), rfl⟩
set_option maxHeartbeats 400000 in
theorem run_tld (s : ByteArray) (hs : s.size ≤ 9223372036854775807) (w : World) :
    Calls Tryd.prog 24 #[.string s, .func (.func 41) #[] #[]] w fun e w' => e = .returned (.int .i64 (s.data.toList.takeWhile ldE).length) ∧ w = w' := by
  go_enter Tryd.func24, Tryd.ntmps24
  go_wp2_with fail
  go_loop [5] (fun n => ∃ k : Nat, k ≤ s.size ∧ n = .int .i64 k ∧ ∀ j (h : j < k) (h' : j < s.size), ldE s[j] = true) (fun n => s.size - (intOf n).toNat)
  case atStart => exact ⟨0, Nat.zero_le _, rfl, fun j h => absurd h (by omega)⟩
  case round =>
    obtain ⟨k, hk, rfl, hall⟩ := hrel
    have HA := Lib.hid hall
    clear hall
    by_cases hlt : k < s.size
    · cases hd : ldE (s[k]'hlt)
      · have HS := Lib.hid (tw_stop (p := ldE) s.data.toList k (by simpa using hlt) (fun j h => HA.out j h (by omega)) hd)
        go_wp2_with (go_at_call 41; refine (tld_c (s[k]'hlt) _).mono ?_; rintro e w' ⟨rfl, rfl⟩)
        go_ret
        exact ⟨ret_int (by rw [HS.out]), rfl⟩
      · go_wp2_with (go_at_call 41; refine (tld_c (s[k]'hlt) _).mono ?_; rintro e w' ⟨rfl, rfl⟩)
        go_round
        case rel =>
          refine ⟨k + 1, by omega, by go_num, fun j h h' => ?_⟩
          by_cases hj : j < k
          · exact HA.out j hj h'
          · obtain rfl : j = k := by omega
            exact hd
        case measure => simp [intOf]; omega
    · obtain rfl : k = s.size := by omega
      have HS := Lib.hid (tw_full (p := ldE) s.data.toList (fun j h => HA.out j (by simpa using h) (by simpa using h)))
      go_wp2_with fail
      go_ret
      exact ⟨ret_int (by rw [HS.out]; simp), rfl⟩
end Go.Proofs.YtknfimagjkndnaaDoor

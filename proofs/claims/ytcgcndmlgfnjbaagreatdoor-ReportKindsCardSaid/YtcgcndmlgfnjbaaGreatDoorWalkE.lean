/- The reference's reading of a number: the walk. -/
import Derived.Test.YtcgcndmlgfnjbaaGreatDoorNumRef
import Derived.Test.YtcgcndmlgfnjbaaGreatDoorShelf
import Derived.WalkKit
import Derived.WalkSpells
import Derived.WalkLawsBesides
import Derived.Lib.Hide
namespace Go.Proofs.YtcgcndmlgfnjbaaGreatDoor
open Go.RowKit
set_option linter.unusedVariables false
set_option maxRecDepth 100000 in
set_option maxHeartbeats 1000000 in
theorem rparse_empty (s : ByteArray) (w : World) (h0 : s.size = 0) :
    Calls Tryz.prog 82 #[.string s] w (NumPost s w) := by
  have HF := Lib.hid (num_none (isF_empty h0) h0.symm)
  go_enter Tryz.func82, Tryz.ntmps82
  go_wp2
  go_loop [5, 6, 7, 8] (fun n o i d => i = .int .i64 0 ∧ n = .int .i64 0 ∧ o = .bool false) (fun _ _ i _ => 0)
  case atStart => exact ⟨rfl, rfl, rfl⟩
  case round =>
    obtain ⟨rfl, rfl, rfl⟩ := hrel
    go_wp2
    go_ret2
    exact num_ret HF.out
set_option maxRecDepth 100000 in
set_option maxHeartbeats 1000000 in
theorem rparse_pos (s : ByteArray) (w : World) (hs : s.size ≤ 9223372036854775807) (h0 : 0 < s.size) (h1 : (((s[0]'h0).toNat : Int) == 45) = false) :
    Calls Tryz.prog 82 #[.string s] w (NumPost s w) := by
  have HF := Lib.hid (isF_pos h0 (by simpa using h1))
  go_enter Tryz.func82, Tryz.ntmps82
  go_wp2
  go_loop [5, 6, 7, 8] (fun n o i d => ∃ (k : Nat) (m : Int) (b : Bool), k ≤ s.size ∧ i = .int .i64 k ∧ n = .int .i64 m ∧ o = .bool b ∧ RInv s 0 m b k) (fun _ _ i _ => s.size - (intOf i).toNat)
  case atStart => exact ⟨0, 0, false, Nat.zero_le _, rfl, rfl, rfl, RInv.start s 0 (by omega)⟩
  case round =>
    obtain ⟨k, m, b, hk, rfl, rfl, rfl, hr⟩ := hrel
    have hfk := hr.fk
    have HR := Lib.hid hr
    clear hr
    by_cases hlt : k < s.size
    · have hb255 : ((s[k]'hlt).toNat : Int) < 256 := by have := (s[k]'hlt).toNat_lt; omega
      by_cases hc : ((s[k]'hlt).toNat : Int) < 48
      · have HC := Lib.hid hc
        have hc1 : decide (((s[k]'hlt).toNat : Int) < 48) = true := by simpa using hc
        go_wp2
        go_ret2
        exact num_ret (num_bad HF.out hlt hfk (.inl HC.out))
      · by_cases hc2 : (57 : Int) < ((s[k]'hlt).toNat : Int)
        · have HC := Lib.hid hc2
          go_wp2
          go_ret2
          exact num_ret (num_bad HF.out hlt hfk (.inr HC.out))
        · have hlo : (48 : Int) ≤ ((s[k]'hlt).toNat : Int) := by omega
          have hhi : ((s[k]'hlt).toNat : Int) ≤ 57 := by omega
          clear hc hc2
          have HLO := Lib.hid hlo
          have HHI := Lib.hid hhi
          by_cases hk0 : k = 0
          · by_cases hz : ((s[k]'hlt).toNat : Int) = 48 ∧ 1 < s.size
            · have hz1 : (((s[k]'hlt).toNat : Int) == 48) = true := by simpa using hz.1
              have hz2 : 1 < s.size := hz.2
              have HZ := Lib.hid hz
              clear hz
              subst hk0
              go_wp2
              go_ret2
              exact num_ret (num_lead HF.out hlt HZ.out.1 HZ.out.2)
            · have HZ := Lib.hid (fun (_ : k = 0) => hz)
              by_cases hz2 : 1 < s.size
              · have hz1 : (((s[k]'hlt).toNat : Int) == 48) = false := by
                  rw [beq_eq_false_iff_ne]; exact fun e => hz ⟨e, hz2⟩
                clear hz
                have HK := Lib.hid hk0
                subst hk0
                cases b
                all_goals
                  go_wp2
                  go_round
                  case rel => exact ⟨_, _, _, by omega, by go_num, rfl, by simp, HR.out.step_p hlt HLO.out HHI.out HZ.out⟩
                  case measure => simp [intOf] <;> omega
              · clear hz
                subst hk0
                cases b
                all_goals cases hq : (((s[0]'hlt).toNat : Int) == 48)
                all_goals
                  go_wp2
                  go_round
                  case rel => exact ⟨_, _, _, by omega, by go_num, rfl, by simp, HR.out.step_p hlt HLO.out HHI.out HZ.out⟩
                  case measure => simp [intOf] <;> omega
          · have hk1 : ((k : Int) == 0) = false := by simp; omega
            have HZ := Lib.hid (fun (e : k = 0) => absurd e hk0 : k = 0 → ¬ (((s[k]'hlt).toNat : Int) = 48 ∧ 1 < s.size))
            clear hk0
            cases b
            all_goals
              go_wp2
              go_round
              case rel => exact ⟨_, _, _, by omega, by go_num, rfl, by simp, HR.out.step_p hlt HLO.out HHI.out HZ.out⟩
              case measure => simp [intOf] <;> omega
    · have hke : k = s.size := by omega
      subst hke
      by_cases hse : 0 = s.size
      · have hse1 : ((0 : Int) == (s.size : Int)) = true := by simp; omega
        go_wp2
        go_ret2
        exact num_ret (num_none HF.out hse)
      · have hse1 : ((0 : Int) == (s.size : Int)) = false := by rw [beq_eq_false_iff_ne]; omega
        have HE := Lib.hid (num_end HF.out (by omega) HR.out)
        cases b
        all_goals
          go_wp2
          go_ret2
          exact num_ret HE.out
set_option maxRecDepth 100000 in
set_option maxHeartbeats 1000000 in
theorem rparse_neg (s : ByteArray) (w : World) (hs : s.size ≤ 9223372036854775807) (h0 : 0 < s.size) (h1 : (((s[0]'h0).toNat : Int) == 45) = true) :
    Calls Tryz.prog 82 #[.string s] w (NumPost s w) := by
  have HF := Lib.hid (isF_neg h0 (by simpa using h1))
  go_enter Tryz.func82, Tryz.ntmps82
  go_wp2
  go_loop [5, 6, 7, 8] (fun n o i d => ∃ (k : Nat) (m : Int) (b : Bool), k ≤ s.size ∧ i = .int .i64 k ∧ n = .int .i64 m ∧ o = .bool b ∧ RInv s 1 m b k) (fun _ _ i _ => s.size - (intOf i).toNat)
  case atStart => exact ⟨1, 0, false, h0, rfl, rfl, rfl, RInv.start s 1 (by omega)⟩
  case round =>
    obtain ⟨k, m, b, hk, rfl, rfl, rfl, hr⟩ := hrel
    have hfk := hr.fk
    have HR := Lib.hid hr
    clear hr
    by_cases hlt : k < s.size
    · have hb255 : ((s[k]'hlt).toNat : Int) < 256 := by have := (s[k]'hlt).toNat_lt; omega
      by_cases hc : ((s[k]'hlt).toNat : Int) < 48
      · have HC := Lib.hid hc
        have hc1 : decide (((s[k]'hlt).toNat : Int) < 48) = true := by simpa using hc
        go_wp2
        go_ret2
        exact num_ret (num_bad HF.out hlt hfk (.inl HC.out))
      · by_cases hc2 : (57 : Int) < ((s[k]'hlt).toNat : Int)
        · have HC := Lib.hid hc2
          go_wp2
          go_ret2
          exact num_ret (num_bad HF.out hlt hfk (.inr HC.out))
        · have hlo : (48 : Int) ≤ ((s[k]'hlt).toNat : Int) := by omega
          have hhi : ((s[k]'hlt).toNat : Int) ≤ 57 := by omega
          clear hc hc2
          have HLO := Lib.hid hlo
          have HHI := Lib.hid hhi
          by_cases hk0 : k = 1
          · by_cases hz : ((s[k]'hlt).toNat : Int) = 48 ∧ 1 < s.size
            · have hz1 : (((s[k]'hlt).toNat : Int) == 48) = true := by simpa using hz.1
              have hz2 : 1 < s.size := hz.2
              have HZ := Lib.hid hz
              clear hz
              subst hk0
              go_wp2
              go_ret2
              exact num_ret (num_lead HF.out hlt HZ.out.1 HZ.out.2)
            · have HZ := Lib.hid (fun (_ : k = 1) => hz)
              by_cases hz2 : 1 < s.size
              · have hz1 : (((s[k]'hlt).toNat : Int) == 48) = false := by
                  rw [beq_eq_false_iff_ne]; exact fun e => hz ⟨e, hz2⟩
                clear hz
                have HK := Lib.hid hk0
                subst hk0
                cases b
                all_goals
                  go_wp2
                  go_round
                  case rel => exact ⟨_, _, _, by omega, by go_num, rfl, by simp, HR.out.step_n hlt HLO.out HHI.out HZ.out⟩
                  case measure => simp [intOf] <;> omega
              · omega
          · have hk1 : ((k : Int) == 1) = false := by simp; omega
            have HZ := Lib.hid (fun (e : k = 1) => absurd e hk0 : k = 1 → ¬ (((s[k]'hlt).toNat : Int) = 48 ∧ 1 < s.size))
            clear hk0
            cases b
            all_goals
              go_wp2
              go_round
              case rel => exact ⟨_, _, _, by omega, by go_num, rfl, by simp, HR.out.step_n hlt HLO.out HHI.out HZ.out⟩
              case measure => simp [intOf] <;> omega
    · have hke : k = s.size := by omega
      subst hke
      by_cases hse : 1 = s.size
      · have hse1 : ((1 : Int) == (s.size : Int)) = true := by simp; omega
        go_wp2
        go_ret2
        exact num_ret (num_none HF.out hse)
      · have hse1 : ((1 : Int) == (s.size : Int)) = false := by rw [beq_eq_false_iff_ne]; omega
        have HE := Lib.hid (num_end HF.out (by omega) HR.out)
        cases b
        all_goals
          go_wp2
          go_ret2
          exact num_ret HE.out
theorem rparse_c (s : ByteArray) (w : World) (hs : s.size ≤ 9223372036854775807) :
    Calls Tryz.prog 82 #[.string s] w (NumPost s w) := by
  by_cases h0 : 0 < s.size
  · cases h1 : (((s[0]'h0).toNat : Int) == 45)
    · exact rparse_pos s w hs h0 h1
    · exact rparse_neg s w hs h0 h1
  · exact rparse_empty s w (by omega)
end Go.Proofs.YtcgcndmlgfnjbaaGreatDoor

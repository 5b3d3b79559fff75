/- Whether a pick may stand in a schedule: both sides' walks. -/
import Derived.Test.YtcgcndmlgfnjbaaGreatDoorSchMem
import Derived.BigQuiet
import Derived.Deep.QuietTactic
import Derived.Deep.RegionHeld3
namespace Go.Proofs.YtcgcndmlgfnjbaaGreatDoor
open Go Go.RowKit
set_option linter.unusedVariables false
theorem inE_int (n m : Int) : inE n m = (decide (0 ≤ n) && decide (n ≤ m)) := rfl
theorem within_c (n m : Int) (w : World) : Calls Tryz.prog 43 #[.int .i64 n, .int .i64 m] w fun e w' => e = .returned (.bool (inE n m)) ∧ w = w' := by
  have HV := inE_int n m
  cases h1 : decide (0 ≤ n) <;> cases h2 : decide (n ≤ m)
  all_goals
    rw [h1, h2] at HV
    have HV2 := Lib.hid HV
    clear HV
    go_enter Tryz.func43, Tryz.ntmps43
    go_wp2
    go_ret
    exact ⟨ret_bool (by rw [HV2.out]; rfl), rfl⟩
theorem rin_c (n m : Int) (w : World) : Calls Tryz.prog 48 #[.int .i64 n, .int .i64 m] w fun e w' => e = .returned (.bool (inE n m)) ∧ w = w' := by
  have HV := inE_int n m
  cases h1 : decide (0 ≤ n) <;> cases h2 : decide (n ≤ m)
  all_goals
    rw [h1, h2] at HV
    have HV2 := Lib.hid HV
    clear HV
    go_enter Tryz.func48, Tryz.ntmps48
    go_wp2
    go_ret
    exact ⟨ret_bool (by rw [HV2.out]; rfl), rfl⟩
theorem oddz_c (n : Int) (w : World) : Calls Tryz.prog 44 #[.int .i64 n] w fun e w' => e = .returned (.bool (!inE n 9999)) ∧ w = w' := by
  have HC := Lib.hid (fun u => within_c n 9999 u)
  generalize inE n 9999 = b at HC
  go_enter Tryz.func44, Tryz.ntmps44
  go_wp2_with (go_at_call 43; refine (HC.out _).mono ?_; rintro e w' ⟨rfl, rfl⟩)
  go_ret
  exact ⟨rfl, rfl⟩
def allIn (l : List Int) : Bool := l.all (fun n => inE n 9999)
set_option maxRecDepth 100000 in
set_option maxHeartbeats 4000000 in
theorem indexZ_c (l : List Int) (hl : l.length ≤ 4611686018427387904) (v : Value) (w : World) (hv : Zs w v l) :
    Calls Tryz.prog 69 #[v, .func (.func 44) #[] #[]] w fun e w' => w = w' ∧ ∃ z : Int, e = .returned (.int .i64 z) ∧ (decide (0 ≤ z) = !allIn l) := by
  obtain ⟨A0, c0, rfl, hc0⟩ := hv.shape
  have HV := Lib.hid hv
  clear hv
  go_enter Tryz.func69, Tryz.ntmps69
  go_wp2_with fail
  go_loopw [8] (fun k wr => ∃ j : Nat, j ≤ l.length ∧ k = .int .i64 j ∧ wr = w ∧ ∀ j' (h : j' < l.length), j' < j → inE (l[j']) 9999 = true) (fun k _ => l.length - (intOf k).toNat)
  case atStart => exact ⟨0, Nat.zero_le _, rfl, rfl, fun j' _ h => absurd h (by omega)⟩
  case round =>
    obtain ⟨j, hj, rfl, rfl, hno⟩ := hrel
    have HNO := Lib.hid hno
    clear hno
    by_cases hjl : j < l.length
    · obtain ⟨b, off, c, hE0, hcc, hbt, hat⟩ := HV.out.at_ (by omega)
      cases hE0
      have hx0 := hat j hjl
      have HCJ := Lib.hid (fun u => oddz_c (l[j]) u)
      clear hat
      have hjl2 : (j : Int) < (l.length : Int) := by omega
      cases his : inE (l[j]) 9999
      · have HR : Hid (allIn l = false) := by
          show _ = _
          unfold allIn
          rw [Bool.eq_false_iff]
          intro h
          rw [List.all_eq_true] at h
          rw [h _ (List.getElem_mem hjl)] at his; cases his
        rw [his] at HCJ
        clear his
        generalize l[j] = x at hx0 HCJ
        go_wp2_with (go_at_call 44; refine (HCJ.out _).mono ?_; rintro e w2 ⟨rfl, rfl⟩)
        go_ret
        exact ⟨rfl, j, rfl, by rw [HR.out]; simp⟩
      · have HF : Hid (∀ j' (h : j' < l.length), j' < j + 1 → inE (l[j']) 9999 = true) := fun j' h hlt => by
          by_cases hjj : j' < j
          · exact HNO.out j' h hjj
          · obtain rfl : j' = j := by omega
            exact his
        rw [his] at HCJ
        clear his
        generalize l[j] = x at hx0 HCJ
        go_wp2_with (go_at_call 44; refine (HCJ.out _).mono ?_; rintro e w2 ⟨rfl, rfl⟩)
        go_roundw
        case rel => exact ⟨j + 1, by omega, by go_num, by trivial, HF.out⟩
        case measure => simp [intOf]; omega
    · have hje : j = l.length := by omega
      have HY : Hid (allIn l = true) := by
        show _ = _
        unfold allIn
        rw [List.all_eq_true]
        intro x hx
        obtain ⟨j', hj', rfl⟩ := List.mem_iff_getElem.1 hx
        exact HNO.out j' hj' (by omega)
      go_wp2_with fail
      go_ret
      exact ⟨rfl, -1, rfl, by rw [HY.out]; rfl⟩
theorem containsZ_c (l : List Int) (hl : l.length ≤ 4611686018427387904) (v : Value) (w : World) (hv : Zs w v l) :
    Calls Tryz.prog 45 #[v, .func (.func 44) #[] #[]] w fun e w' => e = .returned (.bool (!allIn l)) ∧ w = w' := by
  obtain ⟨A0, c0, rfl, hc0⟩ := hv.shape
  have HC := Lib.hid (indexZ_c l hl _ w hv)
  clear hv
  go_enter Tryz.func45, Tryz.ntmps45
  go_wp2_with (go_at_call 69; refine (HC.out).mono ?_; rintro e w1 ⟨rfl, z, rfl, hz⟩)
  go_ret
  first | exact ⟨ret_bool hz, rfl⟩ | exact ⟨rfl, rfl⟩
theorem right_one {p : Pk} (h : p.kind = 1) : rightK p = (inE p.t 99 && (p.i == 0) && ((p.cut.length : Int) == 0)) := by
  unfold rightK; rw [if_pos h]
  cases p.cut with
  | nil => rw [Bool.eq_iff_iff]; simp
  | cons a r => rw [Bool.eq_iff_iff]; simp; omega
theorem right_two {p : Pk} (h : p.kind = 2) : rightK p = (inE p.t 99 && inE p.i 99 && ((p.cut.length : Int) == 0)) := by
  unfold rightK; rw [if_neg (by omega), if_pos h]
  cases p.cut with
  | nil => rw [Bool.eq_iff_iff]; simp
  | cons a r => rw [Bool.eq_iff_iff]; simp; omega
theorem right_three {p : Pk} (h : p.kind = 3) : rightK p = ((p.t == 0) && (p.i == 0) && decide ((p.cut.length : Int) ≤ 20) && allIn p.cut) := by
  have e : decide (p.cut.length ≤ 20) = decide ((p.cut.length : Int) ≤ 20) := by rw [decide_eq_decide]; omega
  unfold rightK allIn; rw [if_neg (by omega), if_neg (by omega), if_pos h, e]
  rw [Bool.eq_iff_iff]; simp
theorem right_else {p : Pk} (h1 : ¬ p.kind = 1) (h2 : ¬ p.kind = 2) (h3 : ¬ p.kind = 3) : rightK p = false := by
  unfold rightK; rw [if_neg h1, if_neg h2, if_neg h3]
set_option maxRecDepth 100000 in
set_option maxHeartbeats 8000000 in
theorem pRight_c (p : Pk) (v : Value) (w : World) (hl : p.cut.length ≤ 4611686018427387904) (hv : Zs w v p.cut) :
    Calls Tryz.prog 25 #[pkV p v] w fun e w' => e = .returned (.bool (rightK p)) ∧ Below w.heap.size w w' := by
  obtain ⟨A0, c0, rfl, hc0⟩ := hv.shape
  have hB := Lib.hid (al w (.cells #[.int .i64 p.kind, .int .i64 p.t, .int .i64 p.i, .slice A0 p.cut.length c0] 48))
  unfold pkV
  by_cases k1 : p.kind = 1
  · have hR := right_one k1
    have kk : (p.kind == 1) = true := by simpa using k1
    have hW : ∀ u, Calls Tryz.prog 43 #[.int .i64 p.t, .int .i64 99] u fun e w' => e = .returned (.bool (inE p.t 99)) ∧ u = w' := fun u => within_c _ _ u
    clear hv
    cases h1 : inE p.t 99 <;> cases h2 : (p.i == 0) <;> cases h3 : ((p.cut.length : Int) == 0)
    all_goals
      rw [h1, h2, h3] at hR
      rw [h1] at hW
      have HR := Lib.hid hR
      have HW := Lib.hid hW
      clear hR hW h1
      go_enter Tryz.func25, Tryz.ntmps25
      go_wp2_with (go_at_call 43; refine (HW.out _).mono ?_; rintro e w' ⟨rfl, rfl⟩)
      go_ret
      exact ⟨ret_bool (by rw [HR.out]; rfl), al _ _⟩
  · by_cases k2 : p.kind = 2
    · have hR := right_two k2
      have hW : ∀ u, Calls Tryz.prog 43 #[.int .i64 p.t, .int .i64 99] u fun e w' => e = .returned (.bool (inE p.t 99)) ∧ u = w' := fun u => within_c _ _ u
      have hX : ∀ u, Calls Tryz.prog 43 #[.int .i64 p.i, .int .i64 99] u fun e w' => e = .returned (.bool (inE p.i 99)) ∧ u = w' := fun u => within_c _ _ u
      clear hv
      obtain ⟨pk, pt, pi, pc⟩ := p
      simp only at *
      cases h1 : inE pt 99 <;> cases h2 : inE pi 99 <;> cases h3 : ((pc.length : Int) == 0)
      all_goals
        rw [h1, h2, h3] at hR
        rw [h1] at hW
        rw [h2] at hX
        have HR := Lib.hid hR
        have HW := Lib.hid hW
        have HX := Lib.hid hX
        clear hR hW hX h1 h2
        go_enter Tryz.func25, Tryz.ntmps25
        go_wp2_with (first | (go_at_call 43; (with_reducible refine (HW.out _).mono ?_); rintro e w' ⟨rfl, rfl⟩) | (go_at_call 43; (with_reducible refine (HX.out _).mono ?_); rintro e w' ⟨rfl, rfl⟩))
        go_ret
        exact ⟨ret_bool (by rw [HR.out]; rfl), al _ _⟩
    · by_cases k3 : p.kind = 3
      · have hR := right_three k3
        have hC : ∀ u, Zs u (.slice A0 p.cut.length c0) p.cut → Calls Tryz.prog 45 #[.slice A0 p.cut.length c0, .func (.func 44) #[] #[]] u fun e w' => e = .returned (.bool (!allIn p.cut)) ∧ u = w' := fun u hu => containsZ_c p.cut hl _ u hu
        have HZ := Lib.hid (SlN.below hv hB.out)
        clear hv
        obtain ⟨pk, pt, pi, pc⟩ := p
        simp only at *
        subst k3
        cases h1 : (pt == 0) <;> cases h2 : (pi == 0) <;> cases h3 : decide ((pc.length : Int) ≤ 20) <;> cases h4 : allIn pc
        all_goals
          rw [h1, h2, h3, h4] at hR
          rw [h4] at hC
          have HR := Lib.hid hR
          have HC := Lib.hid hC
          clear hR hC h4
          go_enter Tryz.func25, Tryz.ntmps25
          go_wp2_with (go_at_call 45; refine (HC.out _ HZ.out).mono ?_; rintro e w' ⟨rfl, rfl⟩)
          go_ret
          exact ⟨ret_bool (by rw [HR.out]; rfl), al _ _⟩
      · have HR := Lib.hid (right_else k1 k2 k3)
        have j1 : (p.kind == 1) = false := by simpa using k1
        have j2 : (p.kind == 2) = false := by simpa using k2
        have j3 : (p.kind == 3) = false := by simpa using k3
        clear hv
        go_enter Tryz.func25, Tryz.ntmps25
        go_wp2_with fail
        go_ret
        exact ⟨ret_bool (by rw [HR.out]), al _ _⟩
end Go.Proofs.YtcgcndmlgfnjbaaGreatDoor

/- Whether a pick may stand in a schedule: the reference's walk. -/
import Derived.Test.YtcgcndmlgfnjbaaGreatDoorSchA
namespace Go.Proofs.YtcgcndmlgfnjbaaGreatDoor
open Go Go.RowKit
set_option linter.unusedVariables false
theorem right_a {p : Pk} (h : p.kind = 1) : rightK p = (((p.cut.length : Int) == 0) && inE p.t 99 && (p.i == 0)) := by
  rw [right_one h]; cases inE p.t 99 <;> cases (p.i == 0) <;> cases ((p.cut.length : Int) == 0) <;> rfl
theorem right_b {p : Pk} (h : p.kind = 2) : rightK p = (((p.cut.length : Int) == 0) && inE p.t 99 && inE p.i 99) := by
  rw [right_two h]; cases inE p.t 99 <;> cases inE p.i 99 <;> cases ((p.cut.length : Int) == 0) <;> rfl
theorem right_c3 {p : Pk} (h : p.kind = 3) : rightK p = (allIn p.cut && (p.t == 0) && (p.i == 0) && decide ((p.cut.length : Int) ≤ 20)) := by
  rw [right_three h]; cases (p.t == 0) <;> cases (p.i == 0) <;> cases decide ((p.cut.length : Int) ≤ 20) <;> cases allIn p.cut <;> rfl
theorem allIn_not {l : List Int} {j : Nat} (hj : j < l.length) (h : inE l[j] 9999 = false) : allIn l = false := by
  unfold allIn
  rw [Bool.eq_false_iff]
  intro h2
  rw [List.all_eq_true] at h2
  rw [h2 _ (List.getElem_mem hj)] at h; cases h
theorem allIn_yes {l : List Int} (h : ∀ j (hj : j < l.length), inE l[j] 9999 = true) : allIn l = true := by
  unfold allIn
  rw [List.all_eq_true]
  intro x hx
  obtain ⟨j', hj', rfl⟩ := List.mem_iff_getElem.1 hx
  exact h j' hj'
set_option maxRecDepth 100000 in
set_option maxHeartbeats 8000000 in
theorem rRight_c (p : Pk) (v : Value) (w : World) (hl : p.cut.length ≤ 4611686018427387904) (hv : Zs w v p.cut) :
    Calls Tryz.prog 30 #[pkV p v] w fun e w' => e = .returned (.bool (rightK p)) ∧ Below w.heap.size w w' := by
  obtain ⟨A0, c0, rfl, hc0⟩ := hv.shape
  have HZ := Lib.hid (SlN.below hv (al w (.cells #[.int .i64 p.kind, .int .i64 p.t, .int .i64 p.i, .slice A0 p.cut.length c0] 48)))
  clear hv
  unfold pkV
  by_cases k3 : p.kind = 3
  · have hR := right_c3 k3
    obtain ⟨pk, pt, pi, pc⟩ := p
    simp only at *
    subst k3
    have hcut : (w.alloc (.cells #[.int .i64 3, .int .i64 pt, .int .i64 pi, .slice A0 pc.length c0] 48)).cell? ⟨w.heap.size, 3, none⟩ = some (.slice A0 pc.length c0) := cells_new _ _ _ _ _ rfl
    have ht0 : (w.alloc (.cells #[.int .i64 3, .int .i64 pt, .int .i64 pi, .slice A0 pc.length c0] 48)).cell? ⟨w.heap.size, 1, none⟩ = some (.int .i64 pt) := cells_new _ _ _ _ _ rfl
    have hi0 : (w.alloc (.cells #[.int .i64 3, .int .i64 pt, .int .i64 pi, .slice A0 pc.length c0] 48)).cell? ⟨w.heap.size, 2, none⟩ = some (.int .i64 pi) := cells_new _ _ _ _ _ rfl
    go_enter Tryz.func30, Tryz.ntmps30
    go_wp2_with fail
    have HB := Lib.hid (al w (.cells #[.int .i64 3, .int .i64 pt, .int .i64 pi, .slice A0 pc.length c0] 48))
    generalize hwd : w.alloc (.cells #[.int .i64 3, .int .i64 pt, .int .i64 pi, .slice A0 pc.length c0] 48) = wd at *
    have HR := Lib.hid hR
    clear hwd hR
    go_loopw [3] (fun k wr => ∃ j : Nat, j ≤ pc.length ∧ k = .int .i64 j ∧ wr = wd ∧ ∀ j' (h : j' < pc.length), j' < j → inE (pc[j']) 9999 = true) (fun k _ => pc.length - (intOf k).toNat)
    case atStart => exact ⟨0, Nat.zero_le _, rfl, rfl, fun j' _ h => absurd h (by omega)⟩
    case round =>
      obtain ⟨j, hj, rfl, rfl, hno⟩ := hrel
      have HNO := Lib.hid hno
      clear hno
      by_cases hjl : j < pc.length
      · obtain ⟨b, off, c, hE0, hcc, hbt, hat⟩ := Zs.at_ (l := pc) HZ.out (by omega)
        cases hE0
        have hx0 := hat j hjl
        have HCJ := Lib.hid (fun u => rin_c (pc[j]) 9999 u)
        clear hat
        have hjl2 : (j : Int) < (pc.length : Int) := by omega
        cases his : inE (pc[j]) 9999
        · have HR2 := Lib.hid (allIn_not hjl his)
          rw [his] at HCJ
          clear his
          generalize pc[j] = x at hx0 HCJ
          go_wp2_with (go_at_call 48; refine (HCJ.out _).mono ?_; rintro e w2 ⟨rfl, rfl⟩)
          go_ret
          exact ⟨ret_bool (by rw [HR.out, HR2.out]; rfl), HB.out⟩
        · have HF : Hid (∀ j' (h : j' < pc.length), j' < j + 1 → inE (pc[j']) 9999 = true) := fun j' h hlt => by
            by_cases hjj : j' < j
            · exact HNO.out j' h hjj
            · obtain rfl : j' = j := by omega
              exact his
          rw [his] at HCJ
          clear his
          generalize pc[j] = x at hx0 HCJ
          go_wp2_with (go_at_call 48; refine (HCJ.out _).mono ?_; rintro e w2 ⟨rfl, rfl⟩)
          go_roundw
          case rel => exact ⟨j + 1, by omega, by go_num, by trivial, HF.out⟩
          case measure => simp [intOf]; omega
      · have HY := Lib.hid (allIn_yes (l := pc) (fun j' hj' => HNO.out j' hj' (by omega)))
        have hR2 := HR.out
        rw [HY.out] at hR2
        clear HR
        cases h1 : (pt == 0) <;> cases h2 : (pi == 0) <;> cases h3 : decide ((pc.length : Int) ≤ 20)
        all_goals
          rw [h1, h2, h3] at hR2
          have HR3 := Lib.hid hR2
          clear hR2
          go_wp2_with fail
          go_ret
          exact ⟨ret_bool (by rw [HR3.out]; rfl), HB.out⟩
  · have kk : (p.kind == 3) = false := by simpa using k3
    have hW : ∀ u, Calls Tryz.prog 48 #[.int .i64 p.t, .int .i64 99] u fun e w' => e = .returned (.bool (inE p.t 99)) ∧ u = w' := fun u => rin_c _ _ u
    have hX : ∀ u, Calls Tryz.prog 48 #[.int .i64 p.i, .int .i64 99] u fun e w' => e = .returned (.bool (inE p.i 99)) ∧ u = w' := fun u => rin_c _ _ u
    clear HZ
    by_cases k1 : p.kind = 1
    · have hR := right_a k1
      obtain ⟨pk, pt, pi, pc⟩ := p
      simp only at *
      subst k1
      cases h1 : ((pc.length : Int) == 0) <;> cases h2 : inE pt 99 <;> cases h3 : (pi == 0)
      all_goals
        rw [h1, h2, h3] at hR
        rw [h2] at hW
        have HR := Lib.hid hR
        have HW := Lib.hid hW
        clear hR hW hX h2
        go_enter Tryz.func30, Tryz.ntmps30
        go_wp2_with (go_at_call 48; refine (HW.out _).mono ?_; rintro e w' ⟨rfl, rfl⟩)
        go_ret
        exact ⟨ret_bool (by rw [HR.out]; rfl), al _ _⟩
    · by_cases k2 : p.kind = 2
      · have hR := right_b k2
        obtain ⟨pk, pt, pi, pc⟩ := p
        simp only at *
        subst k2
        cases h1 : ((pc.length : Int) == 0) <;> cases h2 : inE pt 99 <;> cases h3 : inE pi 99
        all_goals
          rw [h1, h2, h3] at hR
          rw [h2] at hW
          rw [h3] at hX
          have HR := Lib.hid hR
          have HW := Lib.hid hW
          have HX := Lib.hid hX
          clear hR hW hX h2 h3
          go_enter Tryz.func30, Tryz.ntmps30
          go_wp2_with (first | (go_at_call 48; (with_reducible refine (HW.out _).mono ?_); rintro e w' ⟨rfl, rfl⟩) | (go_at_call 48; (with_reducible refine (HX.out _).mono ?_); rintro e w' ⟨rfl, rfl⟩))
          go_ret
          exact ⟨ret_bool (by rw [HR.out]; rfl), al _ _⟩
      · have hR := right_else k1 k2 k3
        have j1 : (p.kind == 1) = false := by simpa using k1
        have j2 : (p.kind == 2) = false := by simpa using k2
        obtain ⟨pk, pt, pi, pc⟩ := p
        simp only at *
        cases h1 : ((pc.length : Int) == 0) <;> cases h2 : inE pt 99
        all_goals
          rw [h2] at hW
          have HR := Lib.hid hR
          have HW := Lib.hid hW
          clear hR hW hX h2
          go_enter Tryz.func30, Tryz.ntmps30
          go_wp2_with (go_at_call 48; refine (HW.out _).mono ?_; rintro e w' ⟨rfl, rfl⟩)
          go_ret
          exact ⟨ret_bool (by rw [HR.out]), al _ _⟩
end Go.Proofs.YtcgcndmlgfnjbaaGreatDoor

/- Whether two rows of picks are alike: both sides' walks. -/
import Derived.Test.YtcgcndmlgfnjbaaGreatDoorSchE
namespace Go.Proofs.YtcgcndmlgfnjbaaGreatDoor
open Go Go.RowKit
set_option linter.unusedVariables false
theorem drewN_two (w : World) (n m : Nat) : ∃ q, (w.drewN n).drewN m = w.drewN q := ⟨n + m, by simp [World.drewN, Nat.add_assoc]⟩
theorem quiet_two {w wr : World} (h : ∃ q, wr = w.drewN q) (n : Nat) : ∃ q, wr.drewN n = w.drewN q := by
  obtain ⟨q, rfl⟩ := h; exact drewN_two _ _ _
theorem quiet_below {w wr : World} (h : ∃ q, wr = w.drewN q) : Below w.heap.size w wr := by
  obtain ⟨q, rfl⟩ := h; exact bdrN (Below.refl _ _) _
theorem dec_list {α : Type} [DecidableEq α] {a b : List α} (hl : a.length = b.length) (h : ∀ j (hj : j < a.length), a[j] = b[j]'(by omega)) : decide (a = b) = true := by
  rw [decide_eq_true_eq]
  exact List.ext_getElem hl (fun i h1 h2 => h i h1)
theorem dec_not {α : Type} [DecidableEq α] {a b : List α} (hl : a.length = b.length) (j : Nat) (hj : j < a.length) (h : ¬ a[j] = b[j]'(by omega)) : decide (a = b) = false := by
  rw [decide_eq_false_iff_not]
  intro e
  subst e
  exact h rfl
theorem decl_len {α : Type} [DecidableEq α] {a b : List α} (hl : ¬ a.length = b.length) : decide (a = b) = false := by
  rw [decide_eq_false_iff_not]
  intro e
  subst e
  exact hl rfl
set_option maxRecDepth 100000 in
set_option maxHeartbeats 4000000 in
theorem rInts_c (a b : List Int) (ha : a.length ≤ 4611686018427387904) (hb : b.length ≤ 4611686018427387904) (va vb : Value) (w : World) (hA : Zs w va a) (hB : Zs w vb b) :
    Calls Tryz.prog 47 #[va, vb] w fun e w' => e = .returned (.bool (decide (a = b))) ∧ ∃ q, w' = w.drewN q := by
  obtain ⟨A1, c1, rfl, hc1⟩ := hA.shape
  obtain ⟨A2, c2, rfl, hc2⟩ := hB.shape
  by_cases hl : a.length = b.length
  · have hle : ((a.length : Int) == (b.length : Int)) = true := by rw [beq_iff_eq]; omega
    have hln : ((a.length : Int) != (b.length : Int)) = false := by unfold bne; rw [hle]; rfl
    have HA := Lib.hid hA
    have HB := Lib.hid hB
    clear hA hB
    go_enter Tryz.func47, Tryz.ntmps47
    go_wp2_with fail
    go_loopw [5] (fun k wr => (∃ q, wr = w.drewN q) ∧ ∃ j : Nat, j ≤ a.length ∧ k = .int .i64 j ∧ ∀ j' (h : j' < a.length), j' < j → a[j'] = (b[j']'(by omega))) (fun k _ => a.length - (intOf k).toNat)
    case atStart => exact ⟨⟨0, rfl⟩, 0, Nat.zero_le _, rfl, fun j' _ h => absurd h (by omega)⟩
    case round =>
      obtain ⟨hq, j, hj, rfl, hall⟩ := hrel
      have HQ := Lib.hid hq
      have hbw := quiet_below hq
      clear hq
      have HALL := Lib.hid hall
      clear hall
      have hj0 : (0 : Int) ≤ (j : Int) := Int.natCast_nonneg _
      by_cases hjl : j < a.length
      · obtain ⟨b1, o1, k1, hE1, hk1, hl1, hat1⟩ := Zs.at_ (l := a) HA.out (by omega)
        obtain ⟨b2, o2, k2, hE2, hk2, hl2, hat2⟩ := Zs.at_ (l := b) HB.out (by omega)
        cases hE1
        cases hE2
        have hx0 := (hbw.cell (p := ⟨_, _, none⟩) hl1).trans (hat1 j hjl)
        have hy0 := (hbw.cell (p := ⟨_, _, none⟩) hl2).trans (hat2 j (by omega))
        have HF : Hid (¬ a[j] = (b[j]'(by omega)) → decide (a = b) = false) := fun h => dec_not hl j hjl h
        have HT : Hid (a[j] = (b[j]'(by omega)) → ∀ j' (h : j' < a.length), j' = j → a[j'] = (b[j']'(by omega))) := fun h j' hj' e => by subst e; exact h
        have hj1 : (j : Int) < (a.length : Int) := by omega
        have hj2 : (j : Int) < (b.length : Int) := by omega
        clear hat1 hat2 hbw
        generalize a[j] = x at hx0 HF HT
        generalize b[j]'(by omega) = y at hy0 HF HT
        cases h0 : (x == y)
        · have h0' : (x != y) = true := by unfold bne; rw [h0]; rfl
          have HF2 := Lib.hid (HF.out (by simpa using h0))
          go_wp2_with fail
          go_quiet (fail)
          go_wp2_with fail
          go_ret
          exact ⟨ret_bool HF2.out.symm, quiet_two HQ.out _⟩
        · have h0' : (x != y) = false := by unfold bne; rw [h0]; rfl
          have HT2 := Lib.hid (HT.out (by simpa using h0))
          go_wp2_with fail
          go_quiet (fail)
          go_wp2_with fail
          go_roundw
          case rel =>
            refine ⟨quiet_two HQ.out _, j + 1, by omega, by go_num, fun j' h hlt => ?_⟩
            by_cases hjj : j' < j
            · exact HALL.out j' h hjj
            · exact HT2.out j' h (by omega)
          case measure => simp [intOf]; omega
      · have HY := Lib.hid (dec_list hl (fun i hi => HALL.out i hi (by omega)))
        go_wp2_with fail
        go_ret
        exact ⟨ret_bool HY.out.symm, HQ.out⟩
  · have hle : ((a.length : Int) == (b.length : Int)) = false := by rw [beq_eq_false_iff_ne]; omega
    have hln : ((a.length : Int) != (b.length : Int)) = true := by unfold bne; rw [hle]; rfl
    have HN := Lib.hid (decl_len hl)
    go_enter Tryz.func47, Tryz.ntmps47
    go_wp2_with fail
    go_ret
    exact ⟨ret_bool HN.out.symm, 0, rfl⟩
theorem pk_eq {x y : Pk} (h0 : (x.kind == y.kind) = true) (h1 : (x.t == y.t) = true) (h2 : (x.i == y.i) = true) (h3 : decide (x.cut = y.cut) = true) : x = y := by
  obtain ⟨a, b, c, d⟩ := x
  obtain ⟨e, f, g, h⟩ := y
  simp only [beq_iff_eq, decide_eq_true_eq] at h0 h1 h2 h3
  rw [h0, h1, h2, h3]
theorem pk_ne0 {x y : Pk} (h : (x.kind == y.kind) = false) : ¬ x = y := fun e => by subst e; simp at h
theorem pk_ne1 {x y : Pk} (h : (x.t == y.t) = false) : ¬ x = y := fun e => by subst e; simp at h
theorem pk_ne2 {x y : Pk} (h : (x.i == y.i) = false) : ¬ x = y := fun e => by subst e; simp at h
theorem pk_ne3 {x y : Pk} (h : decide (x.cut = y.cut) = false) : ¬ x = y := fun e => by subst e; simp at h
set_option maxRecDepth 100000 in
set_option maxHeartbeats 8000000 in
theorem rPicks_c (a b : List Pk) (ha : a.length ≤ 100000000) (hb : b.length ≤ 100000000) (hna : ∀ x ∈ a, x.cut.length ≤ 4611686018427387904) (hnb : ∀ x ∈ b, x.cut.length ≤ 4611686018427387904) (va vb : Value) (w : World) (hA : Pks w va a) (hB : Pks w vb b) :
    Calls Tryz.prog 40 #[va, vb] w fun e w' => e = .returned (.bool (decide (a = b))) ∧ ∃ q, w' = w.drewN q := by
  obtain ⟨A1, c1, rfl, hc1⟩ := hA.shape
  obtain ⟨A2, c2, rfl, hc2⟩ := hB.shape
  by_cases hl : a.length = b.length
  · have hle : ((a.length : Int) == (b.length : Int)) = true := by rw [beq_iff_eq]; omega
    have hln : ((a.length : Int) != (b.length : Int)) = false := by unfold bne; rw [hle]; rfl
    have HA := Lib.hid hA
    have HB := Lib.hid hB
    have HNA := Lib.hid hna
    have HNB := Lib.hid hnb
    clear hA hB hna hnb
    go_enter Tryz.func40, Tryz.ntmps40
    go_wp2_with fail
    go_loopw [5] (fun k wr => (∃ q, wr = w.drewN q) ∧ ∃ j : Nat, j ≤ a.length ∧ k = .int .i64 j ∧ ∀ j' (h : j' < a.length), j' < j → a[j'] = (b[j']'(by omega))) (fun k _ => a.length - (intOf k).toNat)
    case atStart => exact ⟨⟨0, rfl⟩, 0, Nat.zero_le _, rfl, fun j' _ h => absurd h (by omega)⟩
    case round =>
      obtain ⟨hq, j, hj, rfl, hall⟩ := hrel
      have HQ := Lib.hid hq
      have hbw := quiet_below hq
      clear hq
      have HALL := Lib.hid hall
      clear hall
      have hj0 : (0 : Int) ≤ (j : Int) := Int.natCast_nonneg _
      by_cases hjl : j < a.length
      · obtain ⟨b1, o1, k1, hE1, hk1, hl1, hat1⟩ := Pks.at_ (l := a) HA.out (by omega)
        obtain ⟨b2, o2, k2, hE2, hk2, hl2, hat2⟩ := Pks.at_ (l := b) HB.out (by omega)
        cases hE1
        cases hE2
        obtain ⟨P1, n1, x1, hz1⟩ := hat1 j hjl
        obtain ⟨P2, n2, y1, hz2⟩ := hat2 j (by omega)
        have hx0 := (hbw.cell (p := ⟨_, _, none⟩) hl1).trans x1.kind
        have hx1 := (hbw.cell (p := ⟨_, _, none⟩) hl1).trans x1.t
        have hx2 := (hbw.cell (p := ⟨_, _, none⟩) hl1).trans x1.i
        have hx3 := (hbw.cell (p := ⟨_, _, none⟩) hl1).trans x1.cut
        have hy0 := (hbw.cell (p := ⟨_, _, none⟩) hl2).trans y1.kind
        have hy1 := (hbw.cell (p := ⟨_, _, none⟩) hl2).trans y1.t
        have hy2 := (hbw.cell (p := ⟨_, _, none⟩) hl2).trans y1.i
        have hy3 := (hbw.cell (p := ⟨_, _, none⟩) hl2).trans y1.cut
        have HI : Hid (∀ n, Calls Tryz.prog 47 #[.slice P1 (a[j]).cut.length n1, .slice P2 ((b[j]'(by omega))).cut.length n2] (wr.drewN n) fun e w' => e = .returned (.bool (decide ((a[j]).cut = (b[j]'(by omega)).cut))) ∧ ∃ m, w' = wr.drewN m) := fun n => by
          refine (rInts_c _ _ (HNA.out _ (List.getElem_mem hjl)) (HNB.out _ (List.getElem_mem (by omega))) _ _ (wr.drewN n) (SlN.below hz1 (bdrN hbw _)) (SlN.below hz2 (bdrN hbw _))).mono ?_
          rintro e w' ⟨he, m, rfl⟩
          exact ⟨he, drewN_two _ _ _⟩
        have HF : Hid (¬ a[j] = (b[j]'(by omega)) → decide (a = b) = false) := fun h => dec_not hl j hjl h
        have HT : Hid (a[j] = (b[j]'(by omega)) → ∀ j' (h : j' < a.length), j' = j → a[j'] = (b[j']'(by omega))) := fun h j' hj' e => by subst e; exact h
        have hj1 : (j : Int) < (a.length : Int) := by omega
        have hj2 : (j : Int) < (b.length : Int) := by omega
        clear hat1 hat2 x1 y1 hz1 hz2 hbw
        generalize a[j] = x at hx0 hx1 hx2 hx3 HF HT HI
        generalize b[j]'(by omega) = y at hy0 hy1 hy2 hy3 HF HT HI
        cases h0 : (x.kind == y.kind)
        · have h0' : (x.kind != y.kind) = true := by unfold bne; rw [h0]; rfl
          have HF2 := Lib.hid (HF.out (pk_ne0 h0))
          clear HI
          go_wp2_with fail
          go_quiet (fail)
          go_wp2_with fail
          go_ret
          exact ⟨ret_bool HF2.out.symm, quiet_two HQ.out _⟩
        · have h0' : (x.kind != y.kind) = false := by unfold bne; rw [h0]; rfl
          cases h1 : (x.t == y.t)
          · have h1' : (x.t != y.t) = true := by unfold bne; rw [h1]; rfl
            have HF2 := Lib.hid (HF.out (pk_ne1 h1))
            clear HI
            go_wp2_with fail
            go_quiet (fail)
            go_wp2_with fail
            go_ret
            exact ⟨ret_bool HF2.out.symm, quiet_two HQ.out _⟩
          · have h1' : (x.t != y.t) = false := by unfold bne; rw [h1]; rfl
            cases h2 : (x.i == y.i)
            · have h2' : (x.i != y.i) = true := by unfold bne; rw [h2]; rfl
              have HF2 := Lib.hid (HF.out (pk_ne2 h2))
              clear HI
              go_wp2_with fail
              go_quiet (fail)
              go_wp2_with fail
              go_ret
              exact ⟨ret_bool HF2.out.symm, quiet_two HQ.out _⟩
            · have h2' : (x.i != y.i) = false := by unfold bne; rw [h2]; rfl
              have hI := HI.out
              clear HI
              cases h3 : decide (x.cut = y.cut)
              · rw [h3] at hI
                have HI := Lib.hid hI
                have HF2 := Lib.hid (HF.out (pk_ne3 h3))
                clear hI h3 HF HT
                go_wp2_with fail
                go_quiet (first | (go_at_call 47; exact HI.out _))
                go_wp2_with fail
                go_ret
                exact ⟨ret_bool HF2.out.symm, quiet_two HQ.out _⟩
              · rw [h3] at hI
                have HI := Lib.hid hI
                have HT2 := Lib.hid (HT.out (pk_eq h0 h1 h2 h3))
                clear hI h3 HF HT
                go_wp2_with fail
                go_quiet (first | (go_at_call 47; exact HI.out _))
                go_wp2_with fail
                go_roundw
                case rel =>
                  refine ⟨quiet_two HQ.out _, j + 1, by omega, by go_num, fun j' h hlt => ?_⟩
                  by_cases hjj : j' < j
                  · exact HALL.out j' h hjj
                  · exact HT2.out j' h (by omega)
                case measure => simp [intOf]; omega
      · have HY := Lib.hid (dec_list hl (fun i hi => HALL.out i hi (by omega)))
        go_wp2_with fail
        go_ret
        exact ⟨ret_bool HY.out.symm, HQ.out⟩
  · have hle : ((a.length : Int) == (b.length : Int)) = false := by rw [beq_eq_false_iff_ne]; omega
    have hln : ((a.length : Int) != (b.length : Int)) = true := by unfold bne; rw [hle]; rfl
    have HN := Lib.hid (decl_len hl)
    go_enter Tryz.func40, Tryz.ntmps40
    go_wp2_with fail
    go_ret
    exact ⟨ret_bool HN.out.symm, 0, rfl⟩
end Go.Proofs.YtcgcndmlgfnjbaaGreatDoor

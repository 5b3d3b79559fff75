/- Whether two rows of picks are alike: the program's walk. -/
import Derived.Test.YtcgcndmlgfnjbaaGreatDoorSchG
namespace Go.Proofs.YtcgcndmlgfnjbaaGreatDoor
open Go Go.RowKit
set_option linter.unusedVariables false
theorem take_step {α : Type} {a b : List α} {j : Nat} (h1 : j < a.length) (h2 : j < b.length) (h : a.take j = b.take j) (e : a[j] = b[j]) : a.take (j + 1) = b.take (j + 1) := by
  rw [List.take_succ_eq_append_getElem h1, List.take_succ_eq_append_getElem h2, h, e]
theorem dec_take {α : Type} [DecidableEq α] {a b : List α} (hl : a.length = b.length) (h : a.take a.length = b.take a.length) : decide (a = b) = true := by
  rw [decide_eq_true_eq]
  rw [List.take_length] at h
  rw [h, hl, List.take_length]
theorem getD_at (a : List Int) (j : Nat) (h : j < a.length) : a.getD j 0 = a[j] := by
  rw [List.getD_eq_getElem?_getD, List.getElem?_eq_getElem h]; rfl
theorem pEqual_c (a b : List Int) (ha : a.length ≤ 4611686018427387904) (hb : b.length ≤ 4611686018427387904) (va vb : Value) (w : World) (hA : Zs w va a) (hB : Zs w vb b) :
    Calls Tryz.prog 59 #[va, vb] w fun e w' => e = .returned (.bool (decide (a = b))) ∧ ∃ q, w' = w.drewN q := by
  obtain ⟨A1, c1, rfl, hc1⟩ := hA.shape
  obtain ⟨A2, c2, rfl, hc2⟩ := hB.shape
  by_cases hl : a.length = b.length
  · by_cases h0 : a.length = 0
    · have h1 : b.length = 0 := by omega
      have ea : a = [] := List.eq_nil_of_length_eq_zero h0
      have eb : b = [] := List.eq_nil_of_length_eq_zero h1
      subst ea eb
      refine (Tryz.slices_Equal_int_empty A1 A2 c1 0 c2 w (by decide)).mono ?_
      rintro e w' ⟨he, rfl⟩
      exact ⟨by rw [he]; rfl, 0, rfl⟩
    · obtain ⟨b1, o1, k1, hE1, hk1, hl1, hat1⟩ := Zs.at_ (l := a) hA (by omega)
      obtain ⟨b2, o2, k2, hE2, hk2, hl2, hat2⟩ := Zs.at_ (l := b) hB (by omega)
      cases hE1
      cases hE2
      refine (Tryz.slices_Equal_int b1 o1 a.length c1 b2 o2 b.length c2 a b w (Nat.le_refl _) (Nat.le_refl _) (by omega) (by omega) (fun j hj => by rw [getD_at a j hj]; exact hat1 j hj) (fun j hj => by rw [getD_at b j hj]; exact hat2 j hj)).mono ?_
      rintro e w' ⟨he, hw⟩
      refine ⟨?_, hw⟩
      rw [he, List.take_length, List.take_length]
      congr 2
      rw [Bool.eq_iff_iff]
      simp
  · refine (Tryz.slices_Equal_int_lens A1 A2 a.length c1 b.length c2 w hl).mono ?_
    rintro e w' ⟨he, rfl⟩
    exact ⟨by rw [he, decl_len hl], 0, rfl⟩
set_option maxRecDepth 100000 in
set_option maxHeartbeats 8000000 in
theorem same1_c (x y : Pk) (hx : x.cut.length ≤ 4611686018427387904) (hy : y.cut.length ≤ 4611686018427387904) (v u : Value) (w : World) (hv : Zs w v x.cut) (hu : Zs w u y.cut) :
    Calls Tryz.prog 58 #[pkV x v, pkV y u] w fun e w' => e = .returned (.bool (decide (x = y))) ∧ Below w.heap.size w w' := by
  obtain ⟨A1, c1, rfl, hc1⟩ := hv.shape
  obtain ⟨A2, c2, rfl, hc2⟩ := hu.shape
  have hI : ∀ W, Below w.heap.size w W → Calls Tryz.prog 59 #[.slice A1 x.cut.length c1, .slice A2 y.cut.length c2] W fun e w' => e = .returned (.bool (decide (x.cut = y.cut))) ∧ ∃ q, w' = W.drewN q := fun W hW => pEqual_c _ _ hx hy _ _ W (SlN.below hv hW) (SlN.below hu hW)
  clear hv hu
  unfold pkV
  have HR : Hid (∀ b, decide (x = y) = b → Ending.returned (.bool b) = .returned (.bool (decide (x = y)))) := fun b h => by rw [h]
  have HF0 : Hid ((x.kind == y.kind) = false → decide (x = y) = false) := fun h => by simpa using pk_ne0 h
  have HF1 : Hid ((x.t == y.t) = false → decide (x = y) = false) := fun h => by simpa using pk_ne1 h
  have HF2 : Hid ((x.i == y.i) = false → decide (x = y) = false) := fun h => by simpa using pk_ne2 h
  have HF3 : Hid (decide (x.cut = y.cut) = false → decide (x = y) = false) := fun h => by simpa using pk_ne3 h
  have HT : Hid ((x.kind == y.kind) = true → (x.t == y.t) = true → (x.i == y.i) = true → decide (x.cut = y.cut) = true → decide (x = y) = true) := fun a b c d => by simpa using pk_eq a b c d
  generalize decide (x = y) = res at HR HF0 HF1 HF2 HF3 HT ⊢
  cases h0 : (x.kind == y.kind)
  · have HX := Lib.hid (HF0.out h0)
    clear hI HT HF1 HF2 HF3
    go_enter Tryz.func58, Tryz.ntmps58
    go_wp2_with fail
    go_ret
    exact ⟨HR.out _ HX.out, bt (al _ _) (al _ _)⟩
  · cases h1 : (x.t == y.t)
    · have HX := Lib.hid (HF1.out h1)
      clear hI HT HF1 HF2 HF3
      go_enter Tryz.func58, Tryz.ntmps58
      go_wp2_with fail
      go_ret
      exact ⟨HR.out _ HX.out, bt (al _ _) (al _ _)⟩
    · cases h2 : (x.i == y.i)
      · have HX := Lib.hid (HF2.out h2)
        clear hI HT HF1 HF2 HF3
        go_enter Tryz.func58, Tryz.ntmps58
        go_wp2_with fail
        go_ret
        exact ⟨HR.out _ HX.out, bt (al _ _) (al _ _)⟩
      · cases h3 : decide (x.cut = y.cut)
        · have HX := Lib.hid (HF3.out h3)
          rw [h3] at hI
          have HI := Lib.hid hI
          clear hI HT HF1 HF2 HF3 h3
          go_enter Tryz.func58, Tryz.ntmps58
          go_wp2_with (go_at_call 59; refine (HI.out _ (bt (al _ _) (al _ _))).mono ?_; rintro e w' ⟨rfl, q, rfl⟩)
          go_ret
          exact ⟨HR.out _ HX.out, bdrN (bt (al _ _) (al _ _)) _⟩
        · have HX := Lib.hid (HT.out h0 h1 h2 h3)
          rw [h3] at hI
          have HI := Lib.hid hI
          clear hI HT HF1 HF2 HF3 h3
          go_enter Tryz.func58, Tryz.ntmps58
          go_wp2_with (go_at_call 59; refine (HI.out _ (bt (al _ _) (al _ _))).mono ?_; rintro e w' ⟨rfl, q, rfl⟩)
          go_ret
          exact ⟨HR.out _ HX.out, bdrN (bt (al _ _) (al _ _)) _⟩
set_option maxRecDepth 100000 in
set_option maxHeartbeats 8000000 in
theorem equalP_c (a b : List Pk) (ha : a.length ≤ 100000000) (hb : b.length ≤ 100000000) (hna : ∀ x ∈ a, x.cut.length ≤ 4611686018427387904) (hnb : ∀ x ∈ b, x.cut.length ≤ 4611686018427387904) (va vb : Value) (w : World) (hA : Pks w va a) (hB : Pks w vb b) :
    Calls Tryz.prog 57 #[va, vb, .func (.func 58) #[] #[]] w fun e w' => e = .returned (.bool (decide (a = b))) ∧ Below w.heap.size w w' := by
  obtain ⟨A1, c1, rfl, hc1⟩ := hA.shape
  obtain ⟨A2, c2, rfl, hc2⟩ := hB.shape
  by_cases hl : a.length = b.length
  · have hle : ((a.length : Int) == (b.length : Int)) = true := by rw [beq_iff_eq]; omega
    have hln : ((a.length : Int) != (b.length : Int)) = false := by unfold bne; rw [hle]; rfl
    have HA := Lib.hid hA
    have HB := Lib.hid hB
    have HNA := Lib.hid hna
    have HNB := Lib.hid hnb
    have HL := Lib.hid hl
    clear hA hB hna hnb hl
    go_enter Tryz.func57, Tryz.ntmps57
    go_wp2_with fail
    go_loopw [17] (fun k wr => Below w.heap.size w wr ∧ ∃ j : Nat, j ≤ a.length ∧ k = .int .i64 j ∧ a.take j = b.take j) (fun k _ => a.length - (intOf k).toNat)
    case atStart => exact ⟨Below.refl _ _, 0, Nat.zero_le _, rfl, rfl⟩
    case round =>
      obtain ⟨hbw, j, hj, rfl, hall⟩ := hrel
      have HBW := Lib.hid hbw
      have HALL := Lib.hid hall
      clear hall
      have hl := HL.out
      have hj0 : (0 : Int) ≤ (j : Int) := Int.natCast_nonneg _
      by_cases hjl : j < a.length
      · obtain ⟨b1, o1, k1, hE1, hk1, hl1, hat1⟩ := Pks.at_ (l := a) HA.out (by omega)
        obtain ⟨b2, o2, k2, hE2, hk2, hl2, hat2⟩ := Pks.at_ (l := b) HB.out (by omega)
        cases hE1
        cases hE2
        obtain ⟨P1, n1, x1, hz1⟩ := hat1 j hjl
        obtain ⟨P2, n2, y1, hz2⟩ := hat2 j (by omega)
        have hlt1 := Nat.lt_of_lt_of_le hl1 hbw.size
        have hlt2 := Nat.lt_of_lt_of_le hl2 hbw.size
        have hx0 := (hbw.cell (p := ⟨_, _, none⟩) hl1).trans x1.kind
        have hx1 := (hbw.cell (p := ⟨_, _, none⟩) hl1).trans x1.t
        have hx2 := (hbw.cell (p := ⟨_, _, none⟩) hl1).trans x1.i
        have hx3 := (hbw.cell (p := ⟨_, _, none⟩) hl1).trans x1.cut
        have hy0 := (hbw.cell (p := ⟨_, _, none⟩) hl2).trans y1.kind
        have hy1 := (hbw.cell (p := ⟨_, _, none⟩) hl2).trans y1.t
        have hy2 := (hbw.cell (p := ⟨_, _, none⟩) hl2).trans y1.i
        have hy3 := (hbw.cell (p := ⟨_, _, none⟩) hl2).trans y1.cut
        have hC : ∀ W, Below wr.heap.size wr W → Calls Tryz.prog 58 #[pkV a[j] (.slice P1 (a[j]).cut.length n1), pkV (b[j]'(by omega)) (.slice P2 ((b[j]'(by omega))).cut.length n2)] W fun e w' => e = .returned (.bool (decide (a[j] = (b[j]'(by omega))))) ∧ Below W.heap.size W w' := fun W hW =>
          same1_c _ _ (HNA.out _ (List.getElem_mem hjl)) (HNB.out _ (List.getElem_mem (by omega))) _ _ W (SlN.below (SlN.below hz1 hbw) hW) (SlN.below (SlN.below hz2 hbw) hW)
        have HF : Hid (¬ a[j] = (b[j]'(by omega)) → decide (a = b) = false) := fun h => dec_not hl j hjl h
        have HT : Hid (a[j] = (b[j]'(by omega)) → a.take (j + 1) = b.take (j + 1)) := fun h => take_step hjl (by omega) HALL.out h
        have hj1 : (j : Int) < (a.length : Int) := by omega
        have hj2 : (j : Int) < (b.length : Int) := by omega
        clear hat1 hat2 x1 y1 hz1 hz2 hbw
        generalize a[j] = x at hx0 hx1 hx2 hx3 HF HT hC
        generalize b[j]'_ = y at hy0 hy1 hy2 hy3 HF HT hC
        clear hl
        unfold pkV at hC
        cases h3 : decide (x = y)
        · rw [h3] at hC
          have HC := Lib.hid hC
          have HF2 := Lib.hid (HF.out (by simpa using h3))
          clear hC h3 HF HT
          go_wp2_with (go_at_call 58; refine (HC.out _ (bt (al _ _) (al _ _))).mono ?_; rintro e w3 ⟨rfl, hb3⟩)
          go_ret
          exact ⟨ret_bool HF2.out.symm, bt HBW.out (bt (bt (al _ _) (al _ _)) hb3)⟩
        · rw [h3] at hC
          have HC := Lib.hid hC
          have HT2 := Lib.hid (HT.out (by simpa using h3))
          clear hC h3 HF HT
          go_wp2_with (go_at_call 58; refine (HC.out _ (bt (al _ _) (al _ _))).mono ?_; rintro e w3 ⟨rfl, hb3⟩)
          go_roundw
          case rel =>
            exact ⟨bt HBW.out (bt (bt (al _ _) (al _ _)) hb3), j + 1, by omega, by go_num, HT2.out⟩
          case measure => simp [intOf]; omega
      · obtain rfl : j = a.length := by omega
        have HY := Lib.hid (dec_take hl HALL.out)
        clear hl
        go_wp2_with fail
        go_ret
        exact ⟨ret_bool HY.out.symm, HBW.out⟩
  · have hle : ((a.length : Int) == (b.length : Int)) = false := by rw [beq_eq_false_iff_ne]; omega
    have hln : ((a.length : Int) != (b.length : Int)) = true := by unfold bne; rw [hle]; rfl
    have HN := Lib.hid (decl_len hl)
    go_enter Tryz.func57, Tryz.ntmps57
    go_wp2_with fail
    go_ret
    exact ⟨ret_bool HN.out.symm, Below.refl _ _⟩
theorem pSame_c (a b : List Pk) (ha : a.length ≤ 100000000) (hb : b.length ≤ 100000000) (hna : ∀ x ∈ a, x.cut.length ≤ 4611686018427387904) (hnb : ∀ x ∈ b, x.cut.length ≤ 4611686018427387904) (va vb : Value) (w : World) (hA : Pks w va a) (hB : Pks w vb b) :
    Calls Tryz.prog 39 #[va, vb] w fun e w' => e = .returned (.bool (decide (a = b))) ∧ Below w.heap.size w w' := by
  have HC := Lib.hid (equalP_c a b ha hb hna hnb va vb w hA hB)
  obtain ⟨A1, c1, rfl, hc1⟩ := hA.shape
  obtain ⟨A2, c2, rfl, hc2⟩ := hB.shape
  clear hA hB
  go_enter Tryz.func39, Tryz.ntmps39
  go_wp2_with (go_at_call 57; refine (HC.out).mono ?_; rintro e w3 ⟨rfl, hb3⟩)
  go_ret
  exact ⟨rfl, hb3⟩
end Go.Proofs.YtcgcndmlgfnjbaaGreatDoor

/- Whether a verdict may be: the program's walk. -/
import Derived.Test.YtcgcndmlgfnjbaaGreatDoorRepC1
import Derived.Test.YtcgcndmlgfnjbaaGreatDoorSchE
import Derived.Deep.QuietTactic
import Derived.BigQuiet
namespace Go.Proofs.YtcgcndmlgfnjbaaGreatDoor
open Go Go.RowKit
set_option linter.unusedVariables false
set_option maxRecDepth 100000 in
set_option maxHeartbeats 4000000 in
theorem oddq_c (p : Pk) (v : Value) (w : World) (hl : p.cut.length ≤ 4611686018427387904) (hv : Zs w v p.cut) :
    Calls Tryz.prog 24 #[pkV p v] w fun e w' => e = .returned (.bool (!rightK p)) ∧ Below w.heap.size w w' := by
  have HC : Hid (∀ u, Zs u v p.cut → Calls Tryz.prog 25 #[pkV p v] u fun e w' => e = .returned (.bool (rightK p)) ∧ Below u.heap.size u w') := fun u hu => pRight_c p v u hl hu
  have HZ := Lib.hid (SlN.below hv (al w (.cells #[.int .i64 p.kind, .int .i64 p.t, .int .i64 p.i, v] 48)))
  generalize rightK p = b at HC
  unfold pkV at HC ⊢
  obtain ⟨A0, c0, rfl, hc0⟩ := hv.shape
  clear hv
  go_enter Tryz.func24, Tryz.ntmps24
  go_wp2_with (go_at_call 25; refine (HC.out _ HZ.out).mono ?_; rintro e w' ⟨rfl, hb⟩)
  go_ret
  exact ⟨rfl, bt (al _ _) hb⟩
set_option maxRecDepth 100000 in
set_option maxHeartbeats 4000000 in
theorem indexQ_c (l : List Pk) (hl : l.length ≤ 100000000) (hn : ∀ x ∈ l, x.cut.length ≤ 4611686018427387904) (v : Value) (w : World) (hv : Pks w v l) :
    Calls Tryz.prog 46 #[v, .func (.func 24) #[] #[]] w fun e w' => Below w.heap.size w w' ∧ ∃ z : Int, e = .returned (.int .i64 z) ∧ (decide (0 ≤ z) = !l.all rightK) := by
  obtain ⟨A0, c0, rfl, hc0⟩ := hv.shape
  have HV := Lib.hid hv
  have HN := Lib.hid hn
  clear hv hn
  go_enter Tryz.func46, Tryz.ntmps46
  go_wp2_with fail
  go_loopw [8] (fun k wr => ∃ j : Nat, j ≤ l.length ∧ k = .int .i64 j ∧ Below w.heap.size w wr ∧ ∀ j' (h : j' < l.length), j' < j → rightK (l[j']) = true) (fun k _ => l.length - (intOf k).toNat)
  case atStart => exact ⟨0, Nat.zero_le _, rfl, Below.refl _ _, fun j' _ h => absurd h (by omega)⟩
  case round =>
    obtain ⟨j, hj, rfl, hb, hno⟩ := hrel
    have HNO := Lib.hid hno
    have HB := Lib.hid hb
    clear hno
    by_cases hjl : j < l.length
    · obtain ⟨b, off, c, hE0, hcc, hbt, hat⟩ := Pks.at_ (l := l) HV.out (by omega)
      cases hE0
      obtain ⟨A1, n1, x1, hz1⟩ := hat j hjl
      have hx0 := (hb.cell (p := ⟨_, _, none⟩) hbt).trans x1.kind
      have hx1 := (hb.cell (p := ⟨_, _, none⟩) hbt).trans x1.t
      have hx2 := (hb.cell (p := ⟨_, _, none⟩) hbt).trans x1.i
      have hx3 := (hb.cell (p := ⟨_, _, none⟩) hbt).trans x1.cut
      have HCJ := Lib.hid (oddq_c (l[j]) _ wr (HN.out _ (List.getElem_mem hjl)) (SlN.below hz1 hb))
      clear hb hat x1 hz1
      have hjl2 : (j : Int) < (l.length : Int) := by omega
      cases his : rightK (l[j])
      · have HR := Lib.hid (all_not hjl his)
        rw [his] at HCJ
        clear his
        generalize l[j] = x at hx0 hx1 hx2 hx3 HCJ
        unfold pkV at HCJ
        go_wp2_with (go_at_call 24; refine (HCJ.out).mono ?_; rintro e w2 ⟨rfl, hb2⟩)
        go_ret
        exact ⟨bt HB.out hb2, j, rfl, by rw [HR.out]; simp⟩
      · have HF : Hid (∀ j' (h : j' < l.length), j' < j + 1 → rightK (l[j']) = true) := fun j' h hlt => by
          by_cases hjj : j' < j
          · exact HNO.out j' h hjj
          · obtain rfl : j' = j := by omega
            exact his
        rw [his] at HCJ
        clear his
        generalize l[j] = x at hx0 hx1 hx2 hx3 HCJ
        unfold pkV at HCJ
        go_wp2_with (go_at_call 24; refine (HCJ.out).mono ?_; rintro e w2 ⟨rfl, hb2⟩)
        go_roundw
        case rel => exact ⟨j + 1, by omega, by go_num, bt HB.out hb2, HF.out⟩
        case measure => simp [intOf]; omega
    · have HY : Hid (l.all rightK = true) := by
        show _ = _
        rw [List.all_eq_true]
        intro x hx
        obtain ⟨j', hj', rfl⟩ := List.mem_iff_getElem.1 hx
        exact HNO.out j' hj' (by omega)
      go_wp2_with fail
      go_ret
      exact ⟨HB.out, -1, rfl, by rw [HY.out]; rfl⟩
theorem containsQ_c (l : List Pk) (hl : l.length ≤ 100000000) (hn : ∀ x ∈ l, x.cut.length ≤ 4611686018427387904) (v : Value) (w : World) (hv : Pks w v l) :
    Calls Tryz.prog 27 #[v, .func (.func 24) #[] #[]] w fun e w' => e = .returned (.bool (!l.all rightK)) ∧ Below w.heap.size w w' := by
  obtain ⟨A0, c0, rfl, hc0⟩ := hv.shape
  have HC := Lib.hid (indexQ_c l hl hn _ w hv)
  clear hv hn
  go_enter Tryz.func27, Tryz.ntmps27
  go_wp2_with (go_at_call 46; refine (HC.out).mono ?_; rintro e w1 ⟨hb1, z, rfl, hz⟩)
  go_ret
  first | exact ⟨ret_bool hz, hb1⟩ | exact ⟨rfl, hb1⟩
/-- a verdict in a block of the call's own -/
structure VdBox (w : World) (b : Nat) (v : Vd) (cv sv : Value) : Prop where
  at_ : VdAt w b v cv sv
  frz : ∀ j, w.frozen? ⟨b, j, none⟩ = false
theorem VdBox.below {w w' : World} {b : Nat} {v : Vd} {cv sv : Value} (h : VdBox w b v cv sv) (hb : Below w.heap.size w w') : VdBox w' b v cv sv :=
  ⟨h.at_.below hb, fun j => (hb.frozen (p := ⟨b, j, none⟩) h.at_.lt).trans (h.frz j)⟩
theorem vdBox_new (w : World) (v : Vd) (cv sv : Value) : VdBox (w.alloc (.cells (vdA v cv sv) 28)) w.heap.size v cv sv :=
  ⟨vdAt_new w v cv sv _, fun j => by simp⟩
theorem VdAt.other {w : World} {b g o : Nat} {v : Vd} {cv sv u : Value} (h : VdAt w b v cv sv) (hne : ¬ b = g) : VdAt (w.setCell ⟨g, o, none⟩ u) b v cv sv := by
  have e := fun j x (hc : w.cell? ⟨b, j, none⟩ = some x) => (show (w.setCell ⟨g, o, none⟩ u).cell? ⟨b, j, none⟩ = some x by simp [World.cell?_setCell_other, hc])
  exact ⟨e _ _ h.c0, e _ _ h.c1, e _ _ h.c2, e _ _ h.c3, e _ _ h.c4, e _ _ h.c5, e _ _ h.c6, e _ _ h.c7, e _ _ h.c8, e _ _ h.c9⟩
theorem VdAt.drew {w : World} {b : Nat} {v : Vd} {cv sv : Value} (h : VdAt w b v cv sv) : VdAt w.drew b v cv sv := h.below (bdr (Below.refl _ _))
theorem VdAt.set1 {w : World} {b : Nat} {k e p pa en : Int} {bad : En} {sc : List Pk} {cv sv : Value} (h : VdAt w b ⟨k, e, p, pa, en, bad, sc⟩ cv sv) (x : Int) : VdAt (w.setCell ⟨b, 1, none⟩ (.int .i64 x)) b ⟨k, x, p, pa, en, bad, sc⟩ cv sv := by
  obtain ⟨h0, h1, h2, h3, h4, h5, h6, h7, h8, h9⟩ := h
  exact ⟨by simpa [World.cell?_setCell_other] using h0, by simp [World.cell?_setCell_same', h1], by simpa [World.cell?_setCell_other] using h2, by simpa [World.cell?_setCell_other] using h3, by simpa [World.cell?_setCell_other] using h4, by simpa [World.cell?_setCell_other] using h5, by simpa [World.cell?_setCell_other] using h6, by simpa [World.cell?_setCell_other] using h7, by simpa [World.cell?_setCell_other] using h8, by simpa [World.cell?_setCell_other] using h9⟩
theorem VdAt.set2 {w : World} {b : Nat} {k e p pa en : Int} {bad : En} {sc : List Pk} {cv sv : Value} (h : VdAt w b ⟨k, e, p, pa, en, bad, sc⟩ cv sv) (x : Int) : VdAt (w.setCell ⟨b, 2, none⟩ (.int .i64 x)) b ⟨k, e, x, pa, en, bad, sc⟩ cv sv := by
  obtain ⟨h0, h1, h2, h3, h4, h5, h6, h7, h8, h9⟩ := h
  exact ⟨by simpa [World.cell?_setCell_other] using h0, by simpa [World.cell?_setCell_other] using h1, by simp [World.cell?_setCell_same', h2], by simpa [World.cell?_setCell_other] using h3, by simpa [World.cell?_setCell_other] using h4, by simpa [World.cell?_setCell_other] using h5, by simpa [World.cell?_setCell_other] using h6, by simpa [World.cell?_setCell_other] using h7, by simpa [World.cell?_setCell_other] using h8, by simpa [World.cell?_setCell_other] using h9⟩
theorem VdAt.set3 {w : World} {b : Nat} {k e p pa en : Int} {bk bw bc : Int} {bl : List Int} {sc : List Pk} {cv sv : Value} (h : VdAt w b ⟨k, e, p, pa, en, ⟨bk, bw, bc, bl⟩, sc⟩ cv sv) (x : Int) : VdAt (w.setCell ⟨b, 3, none⟩ (.int .i64 x)) b ⟨k, e, p, x, en, ⟨bk, bw, bc, bl⟩, sc⟩ cv sv := by
  obtain ⟨h0, h1, h2, h3, h4, h5, h6, h7, h8, h9⟩ := h
  exact ⟨by simpa [World.cell?_setCell_other] using h0, by simpa [World.cell?_setCell_other] using h1, by simpa [World.cell?_setCell_other] using h2, by simp [World.cell?_setCell_same', h3], by simpa [World.cell?_setCell_other] using h4, by simpa [World.cell?_setCell_other] using h5, by simpa [World.cell?_setCell_other] using h6, by simpa [World.cell?_setCell_other] using h7, by simpa [World.cell?_setCell_other] using h8, by simpa [World.cell?_setCell_other] using h9⟩
theorem VdAt.set4 {w : World} {b : Nat} {k e p pa en : Int} {bk bw bc : Int} {bl : List Int} {sc : List Pk} {cv sv : Value} (h : VdAt w b ⟨k, e, p, pa, en, ⟨bk, bw, bc, bl⟩, sc⟩ cv sv) (x : Int) : VdAt (w.setCell ⟨b, 4, none⟩ (.int .i64 x)) b ⟨k, e, p, pa, x, ⟨bk, bw, bc, bl⟩, sc⟩ cv sv := by
  obtain ⟨h0, h1, h2, h3, h4, h5, h6, h7, h8, h9⟩ := h
  exact ⟨by simpa [World.cell?_setCell_other] using h0, by simpa [World.cell?_setCell_other] using h1, by simpa [World.cell?_setCell_other] using h2, by simpa [World.cell?_setCell_other] using h3, by simp [World.cell?_setCell_same', h4], by simpa [World.cell?_setCell_other] using h5, by simpa [World.cell?_setCell_other] using h6, by simpa [World.cell?_setCell_other] using h7, by simpa [World.cell?_setCell_other] using h8, by simpa [World.cell?_setCell_other] using h9⟩
theorem VdAt.set5 {w : World} {b : Nat} {k e p pa en : Int} {bk bw bc : Int} {bl : List Int} {sc : List Pk} {cv sv : Value} (h : VdAt w b ⟨k, e, p, pa, en, ⟨bk, bw, bc, bl⟩, sc⟩ cv sv) (x : Int) : VdAt (w.setCell ⟨b, 5, none⟩ (.int .i64 x)) b ⟨k, e, p, pa, en, ⟨x, bw, bc, bl⟩, sc⟩ cv sv := by
  obtain ⟨h0, h1, h2, h3, h4, h5, h6, h7, h8, h9⟩ := h
  exact ⟨by simpa [World.cell?_setCell_other] using h0, by simpa [World.cell?_setCell_other] using h1, by simpa [World.cell?_setCell_other] using h2, by simpa [World.cell?_setCell_other] using h3, by simpa [World.cell?_setCell_other] using h4, by simp [World.cell?_setCell_same', h5], by simpa [World.cell?_setCell_other] using h6, by simpa [World.cell?_setCell_other] using h7, by simpa [World.cell?_setCell_other] using h8, by simpa [World.cell?_setCell_other] using h9⟩
theorem VdAt.set6 {w : World} {b : Nat} {k e p pa en : Int} {bk bw bc : Int} {bl : List Int} {sc : List Pk} {cv sv : Value} (h : VdAt w b ⟨k, e, p, pa, en, ⟨bk, bw, bc, bl⟩, sc⟩ cv sv) (x : Int) : VdAt (w.setCell ⟨b, 6, none⟩ (.int .i64 x)) b ⟨k, e, p, pa, en, ⟨bk, x, bc, bl⟩, sc⟩ cv sv := by
  obtain ⟨h0, h1, h2, h3, h4, h5, h6, h7, h8, h9⟩ := h
  exact ⟨by simpa [World.cell?_setCell_other] using h0, by simpa [World.cell?_setCell_other] using h1, by simpa [World.cell?_setCell_other] using h2, by simpa [World.cell?_setCell_other] using h3, by simpa [World.cell?_setCell_other] using h4, by simpa [World.cell?_setCell_other] using h5, by simp [World.cell?_setCell_same', h6], by simpa [World.cell?_setCell_other] using h7, by simpa [World.cell?_setCell_other] using h8, by simpa [World.cell?_setCell_other] using h9⟩
theorem VdAt.set7 {w : World} {b : Nat} {k e p pa en : Int} {bk bw bc : Int} {bl : List Int} {sc : List Pk} {cv sv : Value} (h : VdAt w b ⟨k, e, p, pa, en, ⟨bk, bw, bc, bl⟩, sc⟩ cv sv) (x : Int) : VdAt (w.setCell ⟨b, 7, none⟩ (.int .i64 x)) b ⟨k, e, p, pa, en, ⟨bk, bw, x, bl⟩, sc⟩ cv sv := by
  obtain ⟨h0, h1, h2, h3, h4, h5, h6, h7, h8, h9⟩ := h
  exact ⟨by simpa [World.cell?_setCell_other] using h0, by simpa [World.cell?_setCell_other] using h1, by simpa [World.cell?_setCell_other] using h2, by simpa [World.cell?_setCell_other] using h3, by simpa [World.cell?_setCell_other] using h4, by simpa [World.cell?_setCell_other] using h5, by simpa [World.cell?_setCell_other] using h6, by simp [World.cell?_setCell_same', h7], by simpa [World.cell?_setCell_other] using h8, by simpa [World.cell?_setCell_other] using h9⟩
theorem VdAt.set8 {w : World} {b : Nat} {k e p pa en : Int} {bk bw bc : Int} {bl : List Int} {sc : List Pk} {cv sv : Value} (h : VdAt w b ⟨k, e, p, pa, en, ⟨bk, bw, bc, bl⟩, sc⟩ cv sv) (l : List Int) (x : Value) : VdAt (w.setCell ⟨b, 8, none⟩ x) b ⟨k, e, p, pa, en, ⟨bk, bw, bc, l⟩, sc⟩ x sv := by
  obtain ⟨h0, h1, h2, h3, h4, h5, h6, h7, h8, h9⟩ := h
  exact ⟨by simpa [World.cell?_setCell_other] using h0, by simpa [World.cell?_setCell_other] using h1, by simpa [World.cell?_setCell_other] using h2, by simpa [World.cell?_setCell_other] using h3, by simpa [World.cell?_setCell_other] using h4, by simpa [World.cell?_setCell_other] using h5, by simpa [World.cell?_setCell_other] using h6, by simpa [World.cell?_setCell_other] using h7, by simp [World.cell?_setCell_same', h8], by simpa [World.cell?_setCell_other] using h9⟩
theorem VdAt.set9 {w : World} {b : Nat} {k e p pa en : Int} {bk bw bc : Int} {bl : List Int} {sc : List Pk} {cv sv : Value} (h : VdAt w b ⟨k, e, p, pa, en, ⟨bk, bw, bc, bl⟩, sc⟩ cv sv) (l : List Pk) (x : Value) : VdAt (w.setCell ⟨b, 9, none⟩ x) b ⟨k, e, p, pa, en, ⟨bk, bw, bc, bl⟩, l⟩ cv x := by
  obtain ⟨h0, h1, h2, h3, h4, h5, h6, h7, h8, h9⟩ := h
  exact ⟨by simpa [World.cell?_setCell_other] using h0, by simpa [World.cell?_setCell_other] using h1, by simpa [World.cell?_setCell_other] using h2, by simpa [World.cell?_setCell_other] using h3, by simpa [World.cell?_setCell_other] using h4, by simpa [World.cell?_setCell_other] using h5, by simpa [World.cell?_setCell_other] using h6, by simpa [World.cell?_setCell_other] using h7, by simpa [World.cell?_setCell_other] using h8, by simp [World.cell?_setCell_same', h9]⟩
set_option maxRecDepth 100000 in
set_option maxHeartbeats 8000000 in
theorem pRightV_one (ve vp vpa ven : Int) (vb : En) (vs : List Pk) (cv sv : Value) (w : World) (hA : VdOk w ⟨1, ve, vp, vpa, ven, vb, vs⟩ cv sv) :
    Calls Tryz.prog 10 #[vdV ⟨1, ve, vp, vpa, ven, vb, vs⟩ cv sv] w fun e w' => e = .returned (.bool (rightV ⟨1, ve, vp, vpa, ven, vb, vs⟩)) ∧ Below w.heap.size w w' := by
  have hS := fun u (hu : Below w.heap.size w u) (b : Vd) (cb sb : Value) (hb : VdOk u b cb sb) => pSameV_c ⟨1, ve, vp, vpa, ven, vb, vs⟩ b cv sv cb sb u (hA.below hu) hb
  obtain ⟨A1, k1, hc1, _⟩ := hA.cells.shape
  obtain ⟨A2, k2, hc2, _⟩ := hA.sched.shape
  simp only at hc1 hc2
  subst hc1 hc2
  have HS := Lib.hid hS
  have HOK := Lib.hid hA
  clear hS hA
  have H1 := Lib.hid ((vdBox_new w ⟨1, ve, vp, vpa, ven, vb, vs⟩ (.slice A1 vb.cells.length k1) (.slice A2 vs.length k2)).below (al _ (.cells (vdA ⟨1, 0, 0, 0, 0, zeroE, []⟩ (.slice none 0 0) (.slice none 0 0)) 28)))
  have h2 := vdBox_new (w.alloc (.cells (vdA ⟨1, ve, vp, vpa, ven, vb, vs⟩ (.slice A1 vb.cells.length k1) (.slice A2 vs.length k2)) 28)) ⟨1, 0, 0, 0, 0, zeroE, []⟩ (.slice none 0 0) (.slice none 0 0)
  rw [World.size_alloc] at h2
  have H2 := Lib.hid h2
  have HB0 : Hid (Below w.heap.size w ((w.alloc (.cells (vdA ⟨1, ve, vp, vpa, ven, vb, vs⟩ (.slice A1 vb.cells.length k1) (.slice A2 vs.length k2)) 28)).alloc (.cells (vdA ⟨1, 0, 0, 0, 0, zeroE, []⟩ (.slice none 0 0) (.slice none 0 0)) 28))) := balloc (al w _) _
  clear h2
  unfold vdV vdA zeroE at *
  simp only at H1 H2 HB0 HS ⊢
  have hV : rightV ⟨1, ve, vp, vpa, ven, vb, vs⟩ = (decide ((⟨1, ve, vp, vpa, ven, vb, vs⟩ : Vd) = ⟨1, ve, vp, 0, 0, ⟨0, 0, 0, []⟩, []⟩) && between ve 1 99 && between vp 0 100000) := rfl
  have HZ : Hid (∀ u, VdOk u ⟨1, ve, vp, 0, 0, ⟨0, 0, 0, []⟩, []⟩ (.slice none 0 0) (.slice none 0 0)) := fun u => ⟨zs_nil _, pks_nil _, by show (0 : Nat) ≤ _; omega, by show (0 : Nat) ≤ _; omega, by simp⟩
  have hW1 := within_r ve 1 99
  have hW2 := within_r vp 0 100000
  go_enter Tryz.func10, Tryz.ntmps10
  go_upto_region 4 with fail
  generalize World.alloc _ _ = U at H1 H2 HB0 ⊢
  have p0 := H1.out.at_.c0; have p1 := H1.out.at_.c1; have p2 := H1.out.at_.c2
  have q1 := H2.out.at_.c1; have q2 := H2.out.at_.c2
  have f1 := H2.out.frz 1; have f2 := H2.out.frz 2
  have HK : Hid (VdAt ((U.setCell ⟨w.heap.size + 1, 1, none⟩ (.int .i64 ve)).setCell ⟨w.heap.size + 1, 2, none⟩ (.int .i64 vp)).drew w.heap.size ⟨1, ve, vp, vpa, ven, vb, vs⟩ (.slice A1 vb.cells.length k1) (.slice A2 vs.length k2) ∧ VdAt ((U.setCell ⟨w.heap.size + 1, 1, none⟩ (.int .i64 ve)).setCell ⟨w.heap.size + 1, 2, none⟩ (.int .i64 vp)).drew (w.heap.size + 1) ⟨1, ve, vp, 0, 0, ⟨0, 0, 0, []⟩, []⟩ (.slice none 0 0) (.slice none 0 0) ∧ Below w.heap.size w ((U.setCell ⟨w.heap.size + 1, 1, none⟩ (.int .i64 ve)).setCell ⟨w.heap.size + 1, 2, none⟩ (.int .i64 vp)).drew) :=
    ⟨((H1.out.at_.other (by omega)).other (by omega)).drew, ((H2.out.at_.set1 ve).set2 vp).drew, bdr (below_set (below_set HB0.out (by simp) _) (by simp) _)⟩
  go_region
  clear p0 p1 p2 q1 q2 f1 f2 H1 H2 HB0
  generalize World.drew _ = X at HK ⊢
  obtain ⟨g1, g2, HB⟩ := HK.out
  obtain ⟨p0, p1, p2, p3, p4, p5, p6, p7, p8, p9⟩ := g1
  obtain ⟨q0, q1, q2, q3, q4, q5, q6, q7, q8, q9⟩ := g2
  have HC := Lib.hid (HS.out X HB ⟨1, ve, vp, 0, 0, ⟨0, 0, 0, []⟩, []⟩ (.slice none 0 0) (.slice none 0 0) (HZ.out X))
  have HB := Lib.hid HB
  have HK2 : Hid (∀ u, Below X.heap.size X u → u.cell? ⟨w.heap.size, 1, none⟩ = some (.int .i64 ve) ∧ u.cell? ⟨w.heap.size, 2, none⟩ = some (.int .i64 vp)) := fun u hu => ⟨(HK.out.1.below hu).c1, (HK.out.1.below hu).c2⟩
  clear HS HK
  generalize decide ((_ : Vd) = _) = d at hV HC
  generalize between ve 1 99 = b1 at hV hW1
  generalize between vp 0 100000 = b2 at hV hW2
  have HV := Lib.hid hV
  have HW1 := Lib.hid hW1
  have HW2 := Lib.hid hW2
  clear hV hW1 hW2
  cases d <;> cases b1 <;> cases b2
  all_goals
    go_wp2_with (first
      | (go_at_call 14; (with_reducible refine (HC.out).mono ?_); rintro e w2 ⟨rfl, hb2⟩; obtain ⟨c1', c2'⟩ := HK2.out _ hb2)
      | (go_at_call 23; (with_reducible refine (HW1.out _).mono ?_); rintro e w3 ⟨rfl, rfl⟩)
      | (go_at_call 23; (with_reducible refine (HW2.out _).mono ?_); rintro e w4 ⟨rfl, rfl⟩))
    go_ret
    exact ⟨ret_bool (by rw [HV.out]; rfl), bt HB.out hb2⟩
set_option maxRecDepth 100000 in
set_option maxHeartbeats 8000000 in
theorem pRightV_two (ve vp vpa ven : Int) (vb : En) (vs : List Pk) (cv sv : Value) (w : World) (hA : VdOk w ⟨2, ve, vp, vpa, ven, vb, vs⟩ cv sv) :
    Calls Tryz.prog 10 #[vdV ⟨2, ve, vp, vpa, ven, vb, vs⟩ cv sv] w fun e w' => e = .returned (.bool (rightV ⟨2, ve, vp, vpa, ven, vb, vs⟩)) ∧ Below w.heap.size w w' := by
  have hS := fun u (hu : Below w.heap.size w u) (b : Vd) (cb sb : Value) (hb : VdOk u b cb sb) => pSameV_c ⟨2, ve, vp, vpa, ven, vb, vs⟩ b cv sv cb sb u (hA.below hu) hb
  obtain ⟨A1, k1, hc1, _⟩ := hA.cells.shape
  obtain ⟨A2, k2, hc2, _⟩ := hA.sched.shape
  simp only at hc1 hc2
  subst hc1 hc2
  have HS := Lib.hid hS
  have HOK := Lib.hid hA
  clear hS hA
  have H1 := Lib.hid ((vdBox_new w ⟨2, ve, vp, vpa, ven, vb, vs⟩ (.slice A1 vb.cells.length k1) (.slice A2 vs.length k2)).below (al _ (.cells (vdA ⟨2, 0, 0, 0, 0, zeroE, []⟩ (.slice none 0 0) (.slice none 0 0)) 28)))
  have h2 := vdBox_new (w.alloc (.cells (vdA ⟨2, ve, vp, vpa, ven, vb, vs⟩ (.slice A1 vb.cells.length k1) (.slice A2 vs.length k2)) 28)) ⟨2, 0, 0, 0, 0, zeroE, []⟩ (.slice none 0 0) (.slice none 0 0)
  rw [World.size_alloc] at h2
  have H2 := Lib.hid h2
  have HB0 : Hid (Below w.heap.size w ((w.alloc (.cells (vdA ⟨2, ve, vp, vpa, ven, vb, vs⟩ (.slice A1 vb.cells.length k1) (.slice A2 vs.length k2)) 28)).alloc (.cells (vdA ⟨2, 0, 0, 0, 0, zeroE, []⟩ (.slice none 0 0) (.slice none 0 0)) 28))) := balloc (al w _) _
  clear h2
  unfold vdV vdA zeroE at *
  simp only at H1 H2 HB0 HS ⊢
  have hV : rightV ⟨2, ve, vp, vpa, ven, vb, vs⟩ = (decide ((⟨2, ve, vp, vpa, ven, vb, vs⟩ : Vd) = ⟨2, 0, 0, vpa, ven, ⟨0, 0, 0, []⟩, []⟩) && between vpa 1 1099511627776 && between ven 1 1099511627776) := rfl
  have HZ : Hid (∀ u, VdOk u ⟨2, 0, 0, vpa, ven, ⟨0, 0, 0, []⟩, []⟩ (.slice none 0 0) (.slice none 0 0)) := fun u => ⟨zs_nil _, pks_nil _, by show (0 : Nat) ≤ _; omega, by show (0 : Nat) ≤ _; omega, by simp⟩
  have hW1 := within_r vpa 1 1099511627776
  have hW2 := within_r ven 1 1099511627776
  go_enter Tryz.func10, Tryz.ntmps10
  go_upto_region 7 with fail
  generalize World.alloc _ _ = U at H1 H2 HB0 ⊢
  have p0 := H1.out.at_.c0; have p1 := H1.out.at_.c3; have p2 := H1.out.at_.c4
  have q1 := H2.out.at_.c3; have q2 := H2.out.at_.c4
  have f1 := H2.out.frz 3; have f2 := H2.out.frz 4
  have HK : Hid (VdAt ((U.setCell ⟨w.heap.size + 1, 3, none⟩ (.int .i64 vpa)).setCell ⟨w.heap.size + 1, 4, none⟩ (.int .i64 ven)).drew w.heap.size ⟨2, ve, vp, vpa, ven, vb, vs⟩ (.slice A1 vb.cells.length k1) (.slice A2 vs.length k2) ∧ VdAt ((U.setCell ⟨w.heap.size + 1, 3, none⟩ (.int .i64 vpa)).setCell ⟨w.heap.size + 1, 4, none⟩ (.int .i64 ven)).drew (w.heap.size + 1) ⟨2, 0, 0, vpa, ven, ⟨0, 0, 0, []⟩, []⟩ (.slice none 0 0) (.slice none 0 0) ∧ Below w.heap.size w ((U.setCell ⟨w.heap.size + 1, 3, none⟩ (.int .i64 vpa)).setCell ⟨w.heap.size + 1, 4, none⟩ (.int .i64 ven)).drew) :=
    ⟨((H1.out.at_.other (by omega)).other (by omega)).drew, ((H2.out.at_.set3 vpa).set4 ven).drew, bdr (below_set (below_set HB0.out (by simp) _) (by simp) _)⟩
  go_region
  clear p0 p1 p2 q1 q2 f1 f2 H1 H2 HB0
  generalize World.drew _ = X at HK ⊢
  obtain ⟨g1, g2, HB⟩ := HK.out
  obtain ⟨p0, p1, p2, p3, p4, p5, p6, p7, p8, p9⟩ := g1
  obtain ⟨q0, q1, q2, q3, q4, q5, q6, q7, q8, q9⟩ := g2
  have HC := Lib.hid (HS.out X HB ⟨2, 0, 0, vpa, ven, ⟨0, 0, 0, []⟩, []⟩ (.slice none 0 0) (.slice none 0 0) (HZ.out X))
  have HB := Lib.hid HB
  have HK2 : Hid (∀ u, Below X.heap.size X u → u.cell? ⟨w.heap.size, 3, none⟩ = some (.int .i64 vpa) ∧ u.cell? ⟨w.heap.size, 4, none⟩ = some (.int .i64 ven)) := fun u hu => ⟨(HK.out.1.below hu).c3, (HK.out.1.below hu).c4⟩
  clear HS HK
  generalize decide ((_ : Vd) = _) = d at hV HC
  generalize between vpa 1 1099511627776 = b1 at hV hW1
  generalize between ven 1 1099511627776 = b2 at hV hW2
  have HV := Lib.hid hV
  have HW1 := Lib.hid hW1
  have HW2 := Lib.hid hW2
  clear hV hW1 hW2
  cases d <;> cases b1 <;> cases b2
  all_goals
    go_wp2_with (first
      | (go_at_call 14; (with_reducible refine (HC.out).mono ?_); rintro e w2 ⟨rfl, hb2⟩; obtain ⟨c1', c2'⟩ := HK2.out _ hb2)
      | (go_at_call 23; (with_reducible refine (HW1.out _).mono ?_); rintro e w3 ⟨rfl, rfl⟩)
      | (go_at_call 23; (with_reducible refine (HW2.out _).mono ?_); rintro e w4 ⟨rfl, rfl⟩))
    go_ret
    exact ⟨ret_bool (by rw [HV.out]; rfl), bt HB.out hb2⟩
set_option maxRecDepth 100000 in
set_option maxHeartbeats 8000000 in
theorem pRightV_three (ve vp vpa ven : Int) (bk bw bc : Int) (bl : List Int) (vs : List Pk) (cv sv : Value) (w : World) (hA : VdOk w ⟨3, ve, vp, vpa, ven, ⟨bk, bw, bc, bl⟩, vs⟩ cv sv) :
    Calls Tryz.prog 10 #[vdV ⟨3, ve, vp, vpa, ven, ⟨bk, bw, bc, bl⟩, vs⟩ cv sv] w fun e w' => e = .returned (.bool (rightV ⟨3, ve, vp, vpa, ven, ⟨bk, bw, bc, bl⟩, vs⟩)) ∧ Below w.heap.size w w' := by
  have hS := fun u (hu : Below w.heap.size w u) (b : Vd) (cb sb : Value) (hb : VdOk u b cb sb) => pSameV_c ⟨3, ve, vp, vpa, ven, ⟨bk, bw, bc, bl⟩, vs⟩ b cv sv cb sb u (hA.below hu) hb
  obtain ⟨A1, k1, hc1, _⟩ := hA.cells.shape
  obtain ⟨A2, k2, hc2, _⟩ := hA.sched.shape
  simp only at hc1 hc2
  subst hc1 hc2
  have HS := Lib.hid hS
  have HOK := Lib.hid hA
  clear hS hA
  have H1 := Lib.hid ((vdBox_new w ⟨3, ve, vp, vpa, ven, ⟨bk, bw, bc, bl⟩, vs⟩ (.slice A1 bl.length k1) (.slice A2 vs.length k2)).below (al _ (.cells (vdA ⟨3, 0, 0, 0, 0, zeroE, []⟩ (.slice none 0 0) (.slice none 0 0)) 28)))
  have h2 := vdBox_new (w.alloc (.cells (vdA ⟨3, ve, vp, vpa, ven, ⟨bk, bw, bc, bl⟩, vs⟩ (.slice A1 bl.length k1) (.slice A2 vs.length k2)) 28)) ⟨3, 0, 0, 0, 0, zeroE, []⟩ (.slice none 0 0) (.slice none 0 0)
  rw [World.size_alloc] at h2
  have H2 := Lib.hid h2
  have HB0 : Hid (Below w.heap.size w ((w.alloc (.cells (vdA ⟨3, ve, vp, vpa, ven, ⟨bk, bw, bc, bl⟩, vs⟩ (.slice A1 bl.length k1) (.slice A2 vs.length k2)) 28)).alloc (.cells (vdA ⟨3, 0, 0, 0, 0, zeroE, []⟩ (.slice none 0 0) (.slice none 0 0)) 28))) := balloc (al w _) _
  clear h2
  unfold vdV vdA zeroE at *
  simp only at H1 H2 HB0 HS ⊢
  have hlen : decide (bl.length ≤ 20) = decide ((bl.length : Int) ≤ 20) := by rw [decide_eq_decide]; omega
  have hV : rightV ⟨3, ve, vp, vpa, ven, ⟨bk, bw, bc, bl⟩, vs⟩ = (decide ((⟨3, ve, vp, vpa, ven, ⟨bk, bw, bc, bl⟩, vs⟩ : Vd) = ⟨3, 0, 0, 0, 0, ⟨bk, bw, bc, bl⟩, vs⟩) && (badE ⟨bk, bw, bc, bl⟩ && between bw 0 99 && between bc 0 99 && decide ((bl.length : Int) ≤ 20)) && vs.all rightK) := by
    rw [← hlen]
    show (decide ((⟨3, ve, vp, vpa, ven, ⟨bk, bw, bc, bl⟩, vs⟩ : Vd) = ⟨3, 0, 0, 0, 0, ⟨bk, bw, bc, bl⟩, vs⟩) && badE ⟨bk, bw, bc, bl⟩ && between bw 0 99 && between bc 0 99 && decide (bl.length ≤ 20) && vs.all rightK) = _
    simp only [Bool.and_assoc]
  have hls := HOK.out.ls
  have hlc := HOK.out.lc
  simp only at hls hlc
  have HZ : Hid (∀ u, Below w.heap.size w u → VdOk u ⟨3, 0, 0, 0, 0, ⟨bk, bw, bc, bl⟩, vs⟩ (.slice A1 bl.length k1) (.slice A2 vs.length k2)) := fun u hu => ⟨(HOK.out.below hu).cells, (HOK.out.below hu).sched, HOK.out.lc, HOK.out.ls, HOK.out.lp⟩
  have hW1 := within_r bw 0 99
  have hW2 := within_r bc 0 99
  have hBd := pBad_c ⟨bk, bw, bc, bl⟩ (.slice A1 bl.length k1)
  have hCF : ∀ u, Below w.heap.size w u → Calls Tryz.prog 27 #[.slice A2 vs.length k2, .func (.func 24) #[] #[]] u fun e w' => e = .returned (.bool (!vs.all rightK)) ∧ Below u.heap.size u w' := fun u hu => containsQ_c vs (HOK.out.ls) (fun x hx => by have := HOK.out.lp x hx; omega) _ u (HOK.out.below hu).sched
  unfold enV at hBd
  simp only at hBd
  go_enter Tryz.func10, Tryz.ntmps10
  go_upto_region 10 with fail
  generalize World.alloc _ _ = U at H1 H2 HB0 ⊢
  have p0 := H1.out.at_.c0; have p5 := H1.out.at_.c5; have p6 := H1.out.at_.c6; have p7 := H1.out.at_.c7; have p8 := H1.out.at_.c8; have p9 := H1.out.at_.c9
  have q5 := H2.out.at_.c5; have q6 := H2.out.at_.c6; have q7 := H2.out.at_.c7; have q8 := H2.out.at_.c8; have q9 := H2.out.at_.c9
  have f5 := H2.out.frz 5; have f6 := H2.out.frz 6; have f7 := H2.out.frz 7; have f8 := H2.out.frz 8; have f9 := H2.out.frz 9
  have HK : Hid (VdAt (((((U.setCell ⟨w.heap.size + 1, 5, none⟩ (.int .i64 bk)).setCell ⟨w.heap.size + 1, 6, none⟩ (.int .i64 bw)).setCell ⟨w.heap.size + 1, 7, none⟩ (.int .i64 bc)).setCell ⟨w.heap.size + 1, 8, none⟩ (.slice A1 bl.length k1)).setCell ⟨w.heap.size + 1, 9, none⟩ (.slice A2 vs.length k2)).drew w.heap.size ⟨3, ve, vp, vpa, ven, ⟨bk, bw, bc, bl⟩, vs⟩ (.slice A1 bl.length k1) (.slice A2 vs.length k2) ∧ VdAt (((((U.setCell ⟨w.heap.size + 1, 5, none⟩ (.int .i64 bk)).setCell ⟨w.heap.size + 1, 6, none⟩ (.int .i64 bw)).setCell ⟨w.heap.size + 1, 7, none⟩ (.int .i64 bc)).setCell ⟨w.heap.size + 1, 8, none⟩ (.slice A1 bl.length k1)).setCell ⟨w.heap.size + 1, 9, none⟩ (.slice A2 vs.length k2)).drew (w.heap.size + 1) ⟨3, 0, 0, 0, 0, ⟨bk, bw, bc, bl⟩, vs⟩ (.slice A1 bl.length k1) (.slice A2 vs.length k2) ∧ Below w.heap.size w (((((U.setCell ⟨w.heap.size + 1, 5, none⟩ (.int .i64 bk)).setCell ⟨w.heap.size + 1, 6, none⟩ (.int .i64 bw)).setCell ⟨w.heap.size + 1, 7, none⟩ (.int .i64 bc)).setCell ⟨w.heap.size + 1, 8, none⟩ (.slice A1 bl.length k1)).setCell ⟨w.heap.size + 1, 9, none⟩ (.slice A2 vs.length k2)).drew) :=
    ⟨(((((H1.out.at_.other (by omega)).other (by omega)).other (by omega)).other (by omega)).other (by omega)).drew, (((((H2.out.at_.set5 bk).set6 bw).set7 bc).set8 bl _).set9 vs _).drew, bdr (below_set (below_set (below_set (below_set (below_set HB0.out (by simp) _) (by simp) _) (by simp) _) (by simp) _) (by simp) _)⟩
  go_region
  clear p0 p5 p6 p7 p8 p9 q5 q6 q7 q8 q9 f5 f6 f7 f8 f9 H1 H2 HB0
  generalize World.drew _ = X at HK ⊢
  obtain ⟨g1, g2, HB⟩ := HK.out
  have HC : Hid (∀ u, Below X.heap.size X u → Calls _ _ _ u _) := fun u hu => HS.out u (bt HB hu) ⟨3, 0, 0, 0, 0, ⟨bk, bw, bc, bl⟩, vs⟩ (.slice A1 bl.length k1) (.slice A2 vs.length k2) (HZ.out u (bt HB hu))
  have HB := Lib.hid HB
  have HAT : Hid (∀ u, Below X.heap.size X u → VdAt u w.heap.size ⟨3, ve, vp, vpa, ven, ⟨bk, bw, bc, bl⟩, vs⟩ (.slice A1 bl.length k1) (.slice A2 vs.length k2) ∧ VdAt u (w.heap.size + 1) ⟨3, 0, 0, 0, 0, ⟨bk, bw, bc, bl⟩, vs⟩ (.slice A1 bl.length k1) (.slice A2 vs.length k2)) := fun u hu => ⟨g1.below hu, g2.below hu⟩
  have HCF : Hid (∀ u, Below X.heap.size X u → Calls _ _ _ u _) := fun u hu => hCF u (bt HB.out hu)
  clear HS HK hCF g1 g2
  generalize decide ((_ : Vd) = _) = d at hV HC
  generalize between bw 0 99 = b2 at hV hW1
  generalize between bc 0 99 = b3 at hV hW2
  generalize badE _ = b1 at hV hBd
  generalize vs.all rightK = sb at hV HCF
  have HV := Lib.hid hV
  have HW1 := Lib.hid hW1
  have HW2 := Lib.hid hW2
  have HBD := Lib.hid hBd
  clear hV hW1 hW2 hBd
  obtain ⟨⟨p0, p1, p2, p3, p4, p5, p6, p7, p8, p9⟩, _⟩ := HAT.out X (Below.refl _ _)
  go_upto_region 12 with fail
  go_cut [5] from 61 to 82 (fun x wx => x = .bool (b1 && b2 && b3 && decide ((bl.length : Int) ≤ 20)) ∧ Below X.heap.size X wx)
  case first =>
    cases hb4 : decide ((bl.length : Int) ≤ 20) <;> cases b1 <;> cases b2 <;> cases b3
    all_goals
      go_wp2_with (first
        | (go_at_call 26; (with_reducible refine (HBD.out _).mono ?_); rintro e w2 ⟨rfl, hb2⟩; obtain ⟨⟨c0', c1', c2', c3', c4', c5', c6', c7', c8', c9'⟩, _⟩ := HAT.out _ hb2)
        | (go_at_call 23; (with_reducible refine (HW1.out _).mono ?_); rintro e w3 ⟨rfl, rfl⟩)
        | (go_at_call 23; (with_reducible refine (HW2.out _).mono ?_); rintro e w4 ⟨rfl, rfl⟩))
      go_meet
      exact ⟨by first | rfl | (rw [hb4]; rfl), hb2⟩
  case rest =>
    obtain ⟨rfl, hbx⟩ := hcut
    generalize (b1 && b2 && b3 && decide ((bl.length : Int) ≤ 20)) = be at HV ⊢
    obtain ⟨⟨r0, r1, r2, r3, r4, r5, r6, r7, r8, r9⟩, ⟨s0, s1, s2, s3, s4, s5, s6, s7, s8, s9⟩⟩ := HAT.out wc hbx
    clear p0 p1 p2 p3 p4 p5 p6 p7 p8 p9
    cases d <;> cases be
    all_goals
      go_wp2_with (first
        | (go_at_call 14; (with_reducible refine (HC.out _ hbx).mono ?_); rintro e w2 ⟨rfl, hb2⟩; obtain ⟨⟨c0', c1', c2', c3', c4', c5', c6', c7', c8', c9'⟩, _⟩ := HAT.out _ (bt hbx hb2))
        | (go_at_call 27; (with_reducible refine (HCF.out _ (bt hbx hb2)).mono ?_); rintro e w3 ⟨rfl, hb3⟩))
      go_ret
      first
        | exact ⟨ret_bool (by rw [HV.out]; cases sb <;> rfl), bt HB.out (bt hbx (bt hb2 hb3))⟩
        | exact ⟨ret_bool (by rw [HV.out]; cases sb <;> rfl), bt HB.out (bt hbx hb2)⟩
set_option maxRecDepth 100000 in
set_option maxHeartbeats 8000000 in
theorem pRightV_four (ve vp vpa ven : Int) (vb : En) (vs : List Pk) (cv sv : Value) (w : World) (hA : VdOk w ⟨4, ve, vp, vpa, ven, vb, vs⟩ cv sv) :
    Calls Tryz.prog 10 #[vdV ⟨4, ve, vp, vpa, ven, vb, vs⟩ cv sv] w fun e w' => e = .returned (.bool (rightV ⟨4, ve, vp, vpa, ven, vb, vs⟩)) ∧ Below w.heap.size w w' := by
  have hS := fun u (hu : Below w.heap.size w u) (b : Vd) (cb sb : Value) (hb : VdOk u b cb sb) => pSameV_c ⟨4, ve, vp, vpa, ven, vb, vs⟩ b cv sv cb sb u (hA.below hu) hb
  obtain ⟨A1, k1, hc1, _⟩ := hA.cells.shape
  obtain ⟨A2, k2, hc2, _⟩ := hA.sched.shape
  simp only at hc1 hc2
  subst hc1 hc2
  have HS := Lib.hid hS
  have HOK := Lib.hid hA
  clear hS hA
  have H1 := Lib.hid ((vdBox_new w ⟨4, ve, vp, vpa, ven, vb, vs⟩ (.slice A1 vb.cells.length k1) (.slice A2 vs.length k2)).below (al _ (.cells (vdA ⟨4, 0, 0, 0, 0, zeroE, []⟩ (.slice none 0 0) (.slice none 0 0)) 28)))
  have h2 := vdBox_new (w.alloc (.cells (vdA ⟨4, ve, vp, vpa, ven, vb, vs⟩ (.slice A1 vb.cells.length k1) (.slice A2 vs.length k2)) 28)) ⟨4, 0, 0, 0, 0, zeroE, []⟩ (.slice none 0 0) (.slice none 0 0)
  rw [World.size_alloc] at h2
  have H2 := Lib.hid h2
  have HB0 : Hid (Below w.heap.size w ((w.alloc (.cells (vdA ⟨4, ve, vp, vpa, ven, vb, vs⟩ (.slice A1 vb.cells.length k1) (.slice A2 vs.length k2)) 28)).alloc (.cells (vdA ⟨4, 0, 0, 0, 0, zeroE, []⟩ (.slice none 0 0) (.slice none 0 0)) 28))) := balloc (al w _) _
  clear h2
  unfold vdV vdA zeroE at *
  simp only at H1 H2 HB0 HS ⊢
  have hV : rightV ⟨4, ve, vp, vpa, ven, vb, vs⟩ = decide ((⟨4, ve, vp, vpa, ven, vb, vs⟩ : Vd) = ⟨4, 0, 0, 0, 0, ⟨0, 0, 0, []⟩, []⟩) := rfl
  have HZ : Hid (∀ u, VdOk u ⟨4, 0, 0, 0, 0, ⟨0, 0, 0, []⟩, []⟩ (.slice none 0 0) (.slice none 0 0)) := fun u => ⟨zs_nil _, pks_nil _, by show (0 : Nat) ≤ _; omega, by show (0 : Nat) ≤ _; omega, by simp⟩
  go_enter Tryz.func10, Tryz.ntmps10
  go_upto_region 15 with fail
  generalize World.alloc _ _ = X at H1 H2 HB0 ⊢
  obtain ⟨p0, p1, p2, p3, p4, p5, p6, p7, p8, p9⟩ := H1.out.at_
  obtain ⟨q0, q1, q2, q3, q4, q5, q6, q7, q8, q9⟩ := H2.out.at_
  have HC := Lib.hid (HS.out X HB0.out ⟨4, 0, 0, 0, 0, ⟨0, 0, 0, []⟩, []⟩ (.slice none 0 0) (.slice none 0 0) (HZ.out X))
  clear HS H1 H2
  generalize decide ((_ : Vd) = _) = d at hV HC
  have HV := Lib.hid hV
  clear hV
  go_wp2_with (first
    | (go_at_call 14; (with_reducible refine (HC.out).mono ?_); rintro e w2 ⟨rfl, hb2⟩))
  go_ret
  exact ⟨ret_bool HV.out.symm, bt HB0.out hb2⟩
set_option maxRecDepth 100000 in
set_option maxHeartbeats 8000000 in
theorem pRightV_else (vk ve vp vpa ven : Int) (vb : En) (vs : List Pk) (h1 : (vk == 1) = false) (h2' : (vk == 2) = false) (h3 : (vk == 3) = false) (h4 : (vk == 4) = false) (cv sv : Value) (w : World) (hA : VdOk w ⟨vk, ve, vp, vpa, ven, vb, vs⟩ cv sv) :
    Calls Tryz.prog 10 #[vdV ⟨vk, ve, vp, vpa, ven, vb, vs⟩ cv sv] w fun e w' => e = .returned (.bool (rightV ⟨vk, ve, vp, vpa, ven, vb, vs⟩)) ∧ Below w.heap.size w w' := by
  have hS := fun u (hu : Below w.heap.size w u) (b : Vd) (cb sb : Value) (hb : VdOk u b cb sb) => pSameV_c ⟨vk, ve, vp, vpa, ven, vb, vs⟩ b cv sv cb sb u (hA.below hu) hb
  obtain ⟨A1, k1, hc1, _⟩ := hA.cells.shape
  obtain ⟨A2, k2, hc2, _⟩ := hA.sched.shape
  simp only at hc1 hc2
  subst hc1 hc2
  have HS := Lib.hid hS
  have HOK := Lib.hid hA
  clear hS hA
  have H1 := Lib.hid ((vdBox_new w ⟨vk, ve, vp, vpa, ven, vb, vs⟩ (.slice A1 vb.cells.length k1) (.slice A2 vs.length k2)).below (al _ (.cells (vdA ⟨vk, 0, 0, 0, 0, zeroE, []⟩ (.slice none 0 0) (.slice none 0 0)) 28)))
  have h2 := vdBox_new (w.alloc (.cells (vdA ⟨vk, ve, vp, vpa, ven, vb, vs⟩ (.slice A1 vb.cells.length k1) (.slice A2 vs.length k2)) 28)) ⟨vk, 0, 0, 0, 0, zeroE, []⟩ (.slice none 0 0) (.slice none 0 0)
  rw [World.size_alloc] at h2
  have H2 := Lib.hid h2
  have HB0 : Hid (Below w.heap.size w ((w.alloc (.cells (vdA ⟨vk, ve, vp, vpa, ven, vb, vs⟩ (.slice A1 vb.cells.length k1) (.slice A2 vs.length k2)) 28)).alloc (.cells (vdA ⟨vk, 0, 0, 0, 0, zeroE, []⟩ (.slice none 0 0) (.slice none 0 0)) 28))) := balloc (al w _) _
  clear h2
  unfold vdV vdA zeroE at *
  simp only at H1 H2 HB0 HS ⊢
  have HV : Hid (rightV ⟨vk, ve, vp, vpa, ven, vb, vs⟩ = false) := by
    show _ = _
    have e1 : ¬ vk = 1 := by simpa using h1
    have e2 : ¬ vk = 2 := by simpa using h2'
    have e3 : ¬ vk = 3 := by simpa using h3
    have e4 : ¬ vk = 4 := by simpa using h4
    unfold rightV
    rw [if_neg e1, if_neg e2, if_neg e3, if_neg e4]
  go_enter Tryz.func10, Tryz.ntmps10
  go_wp2_with fail
  go_ret
  exact ⟨ret_bool HV.out.symm, HB0.out⟩
/-- whether a verdict may be: the program's answer -/
theorem pRightV_c (v : Vd) (cv sv : Value) (w : World) (hA : VdOk w v cv sv) :
    Calls Tryz.prog 10 #[vdV v cv sv] w fun e w' => e = .returned (.bool (rightV v)) ∧ Below w.heap.size w w' := by
  obtain ⟨vk, ve, vp, vpa, ven, vb, vs⟩ := v
  by_cases k1 : vk = 1
  · subst k1; exact pRightV_one ve vp vpa ven vb vs cv sv w hA
  · by_cases k2 : vk = 2
    · subst k2; exact pRightV_two ve vp vpa ven vb vs cv sv w hA
    · by_cases k3 : vk = 3
      · subst k3
        obtain ⟨bk, bw, bc, bl⟩ := vb
        exact pRightV_three ve vp vpa ven bk bw bc bl vs cv sv w hA
      · by_cases k4 : vk = 4
        · subst k4; exact pRightV_four ve vp vpa ven vb vs cv sv w hA
        · exact pRightV_else vk ve vp vpa ven vb vs (by simpa using k1) (by simpa using k2) (by simpa using k3) (by simpa using k4) cv sv w hA
end Go.Proofs.YtcgcndmlgfnjbaaGreatDoor
/- Whether a verdict may be: the reference's walk. -/
namespace Go.Proofs.YtcgcndmlgfnjbaaGreatDoor
open Go Go.RowKit
set_option linter.unusedVariables false
def noErr (v : Vd) : Bool := (v.e == 0) && (v.pos == 0)
def noPth (v : Vd) : Bool := (v.paths == 0) && (v.ends == 0)
def noEnd (v : Vd) : Bool := decide (v.bad = zeroE) && ((v.sched.length : Int) == 0)
theorem len_zero {α : Type} (l : List α) : ((l.length : Int) == 0) = decide (l.length = 0) := by rw [Bool.eq_iff_iff]; simp
theorem bare_one (v : Vd) (h : v.kind = 1) : decide (v = ⟨1, v.e, v.pos, 0, 0, zeroE, []⟩) = (noPth v && noEnd v) := by
  obtain ⟨a, b, c, d, e, f, g⟩ := v
  simp only at h; subst h
  unfold noPth noEnd
  rw [Bool.eq_iff_iff]; simp [and_assoc]
theorem bare_two (v : Vd) (h : v.kind = 2) : decide (v = ⟨2, 0, 0, v.paths, v.ends, zeroE, []⟩) = (noErr v && noEnd v) := by
  obtain ⟨a, b, c, d, e, f, g⟩ := v
  simp only at h; subst h
  unfold noErr noEnd
  rw [Bool.eq_iff_iff]; simp [and_assoc]
theorem bare_three (v : Vd) (h : v.kind = 3) : decide (v = ⟨3, 0, 0, 0, 0, v.bad, v.sched⟩) = (noErr v && noPth v) := by
  obtain ⟨a, b, c, d, e, f, g⟩ := v
  simp only at h; subst h
  unfold noErr noPth
  rw [Bool.eq_iff_iff]; simp [and_assoc]
theorem bare_four (v : Vd) (h : v.kind = 4) : decide (v = ⟨4, 0, 0, 0, 0, zeroE, []⟩) = (noErr v && noPth v && noEnd v) := by
  obtain ⟨a, b, c, d, e, f, g⟩ := v
  simp only at h; subst h
  unfold noErr noPth noEnd
  rw [Bool.eq_iff_iff]; simp [and_assoc]
set_option maxRecDepth 100000 in
set_option maxHeartbeats 8000000 in
theorem rRightV_c (v : Vd) (cv sv : Value) (w : World) (hA : VdOk w v cv sv) :
    Calls Tryz.prog 11 #[vdV v cv sv] w fun e w' => e = .returned (.bool (rightV v)) ∧ Below w.heap.size w w' := by
  have hS := fun u (hu : Below w.heap.size w u) => rSameE_c v.bad zeroE (by have := hA.lc; omega) (by show (0 : Nat) ≤ _; omega) cv (.slice none 0 0) u (SlN.below hA.cells hu) (zs_nil _)
  obtain ⟨A1, k1, rfl, _⟩ := hA.cells.shape
  obtain ⟨A2, k2, rfl, _⟩ := hA.sched.shape
  have HOK := Lib.hid hA
  have hls := hA.ls
  have hlc := hA.lc
  have B1 := Lib.hid (bare_one v); have B2 := Lib.hid (bare_two v); have B3 := Lib.hid (bare_three v); have B4 := Lib.hid (bare_four v)
  have HS := Lib.hid hS
  have W1 := Lib.hid (in_r v.e 1 99); have W2 := Lib.hid (in_r v.pos 0 100000)
  have W3 := Lib.hid (in_r v.paths 1 1099511627776); have W4 := Lib.hid (in_r v.ends 1 1099511627776)
  have W5 := Lib.hid (in_r v.bad.what 0 99); have W6 := Lib.hid (in_r v.bad.crashes 0 99)
  have HBD := Lib.hid (rBad_c v.bad (.slice A1 v.bad.cells.length k1))
  clear hS hA
  have H1 := Lib.hid (vdBox_new w v (.slice A1 v.bad.cells.length k1) (.slice A2 v.sched.length k2))
  have HB0 : Hid (Below w.heap.size w (w.alloc (.cells (vdA v (.slice A1 v.bad.cells.length k1) (.slice A2 v.sched.length k2)) 28))) := al w _
  unfold enV at HS HBD
  unfold vdV vdA at *
  unfold zeroE at HS
  simp only at HS
  go_enter Tryz.func11, Tryz.ntmps11
  go_upto_region 1 with fail
  generalize World.alloc _ _ = X at H1 HB0 ⊢
  have HAT : Hid (∀ u, Below X.heap.size X u → VdAt u w.heap.size v (.slice A1 v.bad.cells.length k1) (.slice A2 v.sched.length k2)) := fun u hu => H1.out.at_.below hu
  obtain ⟨p0, p1, p2, p3, p4, p5, p6, p7, p8, p9⟩ := H1.out.at_
  clear H1
  have e1 : noErr v = ((v.e == 0) && (v.pos == 0)) := rfl
  have e2 : noPth v = ((v.paths == 0) && (v.ends == 0)) := rfl
  generalize noErr v = nE at B2 B3 B4 e1
  generalize noPth v = nP at B1 B3 B4 e2
  have E1 := Lib.hid e1; have E2 := Lib.hid e2
  clear e1 e2
  go_cut [3, 4] from 7 to 22 (fun a b wx => Below X.heap.size X wx ∧ a = .bool nE ∧ b = .bool nP)
  case first =>
    cases h1 : (v.e == 0) <;> cases h2 : (v.pos == 0) <;> cases h3 : (v.paths == 0) <;> cases h4 : (v.ends == 0)
    all_goals
      have h := E1.out; rw [h1, h2] at h; have hE1 := Lib.hid h; clear h
      have h := E2.out; rw [h3, h4] at h; have hE2 := Lib.hid h; clear h
      go_quiet (fail)
      go_wp2_with fail
      go_meet
      exact ⟨bdrN (Below.refl _ _) _, by rw [hE1.out]; rfl, by rw [hE2.out]; rfl⟩
  case rest =>
  obtain ⟨hbx, rfl, rfl⟩ := hcut
  have HBX := Lib.hid hbx
  clear p0 p1 p2 p3 p4 p5 p6 p7 p8 p9 hbx
  obtain ⟨p0, p1, p2, p3, p4, p5, p6, p7, p8, p9⟩ := HAT.out wc HBX.out
  have e3 : noEnd v = (decide (v.bad = zeroE) && ((v.sched.length : Int) == 0)) := rfl
  generalize noEnd v = nN at B1 B2 B4 e3
  unfold zeroE at e3
  generalize decide (v.bad = (⟨0, 0, 0, []⟩ : En)) = dz at e3 HS
  have E3 := Lib.hid e3
  clear e3 E1 E2
  have HSY := Lib.hid (HS.out wc (bt HB0.out HBX.out))
  go_upto_region 2 with fail
  go_cut [5] from 23 to 32 (fun x wx => x = .bool nN ∧ Below X.heap.size X wx)
  case first =>
    cases dz <;> cases h5 : ((v.sched.length : Int) == 0)
    all_goals
      have h := E3.out; rw [h5] at h; have hE3 := Lib.hid h; clear h
      go_wp2_with (go_at_call 28; (with_reducible refine (HSY.out).mono ?_); rintro e w2 ⟨rfl, hb2⟩; obtain ⟨c0', c1', c2', c3', c4', c5', c6', c7', c8', c9'⟩ := HAT.out _ (bt HBX.out hb2))
      go_meet
      exact ⟨by rw [hE3.out]; rfl, bt HBX.out hb2⟩
  case rest =>
  obtain ⟨rfl, hbx2⟩ := hcut
  have HB2 := Lib.hid hbx2
  clear p0 p1 p2 p3 p4 p5 p6 p7 p8 p9 hbx2 E3 HSY HBX
  obtain ⟨p0, p1, p2, p3, p4, p5, p6, p7, p8, p9⟩ := HAT.out wc HB2.out
  clear HS
  have hk1 : Hid ((v.kind == 1) = true → rightV v = (nP && nN && between v.e 1 99 && between v.pos 0 100000)) := fun h => by
    have h : v.kind = 1 := by simpa using h
    have e := B1.out h
    unfold rightV bareV
    rw [if_pos h, if_pos h, e]
  have hk2 : Hid ((v.kind == 2) = true → rightV v = (nE && nN && between v.paths 1 1099511627776 && between v.ends 1 1099511627776)) := fun h => by
    have h : v.kind = 2 := by simpa using h
    have e := B2.out h
    unfold rightV bareV
    rw [if_neg (by omega), if_pos h, if_neg (by omega), if_pos h, e]
  have hk3 : Hid ((v.kind == 3) = true → rightV v = ((nE && nP) && badE v.bad && between v.bad.what 0 99 && between v.bad.crashes 0 99 && decide ((v.bad.cells.length : Int) ≤ 20) && v.sched.all rightK)) := fun h => by
    have h : v.kind = 3 := by simpa using h
    have e := B3.out h
    have hlen : decide (v.bad.cells.length ≤ 20) = decide ((v.bad.cells.length : Int) ≤ 20) := by rw [decide_eq_decide]; omega
    unfold rightV bareV
    rw [if_neg (by omega), if_neg (by omega), if_pos h, if_neg (by omega), if_neg (by omega), if_pos h, e, hlen]
  have hk4 : Hid ((v.kind == 4) = true → rightV v = (nE && nP && nN)) := fun h => by
    have h : v.kind = 4 := by simpa using h
    have e := B4.out h
    unfold rightV bareV
    rw [if_neg (by omega), if_neg (by omega), if_neg (by omega), if_pos h, if_neg (by omega), if_neg (by omega), if_neg (by omega), h, e]
  have hk5 : Hid ((v.kind == 1) = false → (v.kind == 2) = false → (v.kind == 3) = false → (v.kind == 4) = false → rightV v = false) := fun h1 h2 h3 h4 => by
    have e1 : ¬ v.kind = 1 := by simpa using h1
    have e2 : ¬ v.kind = 2 := by simpa using h2
    have e3 : ¬ v.kind = 3 := by simpa using h3
    have e4 : ¬ v.kind = 4 := by simpa using h4
    unfold rightV
    rw [if_neg e1, if_neg e2, if_neg e3, if_neg e4]
  clear B1 B2 B3 B4
  generalize between v.e 1 99 = b1 at W1 hk1
  generalize between v.pos 0 100000 = b2 at W2 hk1
  generalize between v.paths 1 1099511627776 = b3 at W3 hk2
  generalize between v.ends 1 1099511627776 = b4 at W4 hk2
  generalize between v.bad.what 0 99 = b5 at W5 hk3
  generalize between v.bad.crashes 0 99 = b6 at W6 hk3
  generalize badE v.bad = b7 at HBD hk3
  cases h1 : (v.kind == 1)
  case true =>
    have HV := Lib.hid (hk1.out h1)
    clear hk1 hk2 hk3 hk4 hk5
    cases nP <;> cases nN <;> cases b1 <;> cases b2
    all_goals
      go_wp2_with (first
        | (go_at_call 29; (with_reducible refine (W1.out _).mono ?_); rintro e w3 ⟨rfl, rfl⟩)
        | (go_at_call 29; (with_reducible refine (W2.out _).mono ?_); rintro e w4 ⟨rfl, rfl⟩))
      go_ret
      exact ⟨ret_bool (by rw [HV.out]; rfl), bt HB0.out HB2.out⟩
  cases h2 : (v.kind == 2)
  case true =>
    have HV := Lib.hid (hk2.out h2)
    clear hk1 hk2 hk3 hk4 hk5
    cases nE <;> cases nN <;> cases b3 <;> cases b4
    all_goals
      go_wp2_with (first
        | (go_at_call 29; (with_reducible refine (W3.out _).mono ?_); rintro e w3 ⟨rfl, rfl⟩)
        | (go_at_call 29; (with_reducible refine (W4.out _).mono ?_); rintro e w4 ⟨rfl, rfl⟩))
      go_ret
      exact ⟨ret_bool (by rw [HV.out]; rfl), bt HB0.out HB2.out⟩
  cases h4 : (v.kind == 4)
  case true =>
    have HV := Lib.hid (hk4.out h4)
    clear hk1 hk2 hk3 hk4 hk5
    cases nE <;> cases nP <;> cases nN
    all_goals
      go_wp2_with fail
      go_ret
      exact ⟨ret_bool (by rw [HV.out]; rfl), bt HB0.out HB2.out⟩
  cases h3 : (v.kind == 3)
  case false =>
    have HV := Lib.hid (hk5.out h1 h2 h3 h4)
    clear hk1 hk2 hk3 hk4 hk5
    go_wp2_with fail
    go_ret
    exact ⟨ret_bool (by rw [HV.out]), bt HB0.out HB2.out⟩
  case true =>
    have HV := Lib.hid (hk3.out h3)
    clear hk1 hk2 hk3 hk4 hk5
    have HN : Hid (∀ x ∈ v.sched, x.cut.length ≤ 4611686018427387904) := fun x hx => by have := HOK.out.lp x hx; omega
    have HPK : Hid (∀ u, Below X.heap.size X u → Pks u (.slice A2 v.sched.length k2) v.sched) := fun u hu => (HOK.out.below (bt HB0.out hu)).sched
    go_wp2_with fail
    clear p0 p1 p2 p3 p4 p5 p6 p7 p8 p9
    go_loopw [6] (fun k wr => ∃ j : Nat, j ≤ v.sched.length ∧ k = .int .i64 j ∧ Below X.heap.size X wr ∧ ∀ j' (h : j' < v.sched.length), j' < j → rightK (v.sched[j']) = true) (fun k _ => v.sched.length - (intOf k).toNat)
    case atStart => exact ⟨0, Nat.zero_le _, rfl, HB2.out, fun j' _ h => absurd h (by omega)⟩
    case round =>
      obtain ⟨j, hj, rfl, hb, hno⟩ := hrel
      have HNO := Lib.hid hno
      have HB := Lib.hid hb
      obtain ⟨p0, p1, p2, p3, p4, p5, p6, p7, p8, p9⟩ := HAT.out wr hb
      clear hno
      by_cases hjl : j < v.sched.length
      · obtain ⟨b, off, c, hE0, hcc, hbt, hat⟩ := Pks.at_ (l := v.sched) (HPK.out wr hb) (by omega)
        cases hE0
        obtain ⟨A3, n1, x1, hz1⟩ := hat j hjl
        have hx0 := x1.kind
        have hx1 := x1.t
        have hx2 := x1.i
        have hx3 := x1.cut
        have HCJ := Lib.hid (rRight_c (v.sched[j]) _ wr (HN.out _ (List.getElem_mem hjl)) hz1)
        clear hb hat x1 hz1
        have hjl2 : (j : Int) < (v.sched.length : Int) := by omega
        cases his : rightK (v.sched[j])
        · have HR := Lib.hid (all_not hjl his)
          rw [his] at HCJ
          clear his
          generalize v.sched[j] = x at hx0 hx1 hx2 hx3 HCJ
          unfold pkV at HCJ
          go_wp2_with (go_at_call 30; (with_reducible refine (HCJ.out).mono ?_); rintro e w2 ⟨rfl, hb2⟩)
          go_ret
          exact ⟨ret_bool (by rw [HV.out, HR.out, Bool.and_false]), bt HB0.out (bt HB.out hb2)⟩
        · have HF : Hid (∀ j' (h : j' < v.sched.length), j' < j + 1 → rightK (v.sched[j']) = true) := fun j' h hlt => by
            by_cases hjj : j' < j
            · exact HNO.out j' h hjj
            · obtain rfl : j' = j := by omega
              exact his
          rw [his] at HCJ
          clear his
          generalize v.sched[j] = x at hx0 hx1 hx2 hx3 HCJ
          unfold pkV at HCJ
          go_wp2_with (go_at_call 30; (with_reducible refine (HCJ.out).mono ?_); rintro e w2 ⟨rfl, hb2⟩)
          go_roundw
          case rel => exact ⟨j + 1, by omega, by go_num, bt HB.out hb2, HF.out⟩
          case measure => simp [intOf]; omega
      · have HY : Hid (v.sched.all rightK = true) := by
          show _ = _
          rw [List.all_eq_true]
          intro x hx
          obtain ⟨j', hj', rfl⟩ := List.mem_iff_getElem.1 hx
          exact HNO.out j' hj' (by omega)
        go_upto_region 16 with fail
        have HBDW := Lib.hid (HBD.out wr)
        cases nE <;> cases nP <;> cases b5 <;> cases b6 <;> cases b7
        all_goals
          cases hb4 : decide ((v.bad.cells.length : Int) ≤ 20)
          all_goals
            go_wp2_with (first
              | (go_at_call 21; (with_reducible refine (HBDW.out).mono ?_); rintro e w2 ⟨rfl, hb2⟩; obtain ⟨c0', c1', c2', c3', c4', c5', c6', c7', c8', c9'⟩ := HAT.out _ (bt HB.out hb2))
              | (go_at_call 29; (with_reducible refine (W5.out _).mono ?_); rintro e w3 ⟨rfl, rfl⟩)
              | (go_at_call 29; (with_reducible refine (W6.out _).mono ?_); rintro e w4 ⟨rfl, rfl⟩))
            go_ret
            first
              | exact ⟨ret_bool (by rw [HV.out, HY.out, hb4]; rfl), bt HB0.out (bt HB.out hb2)⟩
              | exact ⟨ret_bool (by rw [HV.out, HY.out, hb4]; rfl), bt HB0.out HB.out⟩
end Go.Proofs.YtcgcndmlgfnjbaaGreatDoor

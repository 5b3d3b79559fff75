/- The verdict of a text, or what is wrong: both walks. -/
import Derived.Test.YtcgcndmlgfnjbaaGreatDoorRepM
import Derived.Test.YtcgcndmlgfnjbaaGreatDoorRepN1
import Derived.Test.YtcgcndmlgfnjbaaGreatDoorSchV
namespace Go.Proofs.YtcgcndmlgfnjbaaGreatDoor
open Go Go.RowKit
set_option linter.unusedVariables false
def PvPost (pv : Vd × Int) (w : World) (e : Ending) (w' : World) : Prop := ∃ cv sv, e = .returned (.tuple #[vdV pv.1 cv sv, .int .i64 pv.2]) ∧ Off (Old w.heap.size) w' (fun u => VdOk u pv.1 cv sv) ∧ VdNums pv.1 ∧ Below w.heap.size w w'
theorem vdOk_zero (w : World) : VdOk w zeroV (.slice none 0 0) (.slice none 0 0) := ⟨zs_nil _, pks_nil _, by show (0 : Nat) ≤ _; omega, by show (0 : Nat) ≤ _; omega, by simp [zeroV]⟩
theorem vdNums_zero : VdNums zeroV := fun n hn => by simp [zeroV, zeroE] at hn
set_option maxRecDepth 100000 in
set_option maxHeartbeats 8000000 in
theorem pParseV_c (s : List UInt8) (hs : s.length ≤ 1000000) (w : World) (hE : Env w) :
    Calls Tryz.prog 17 #[.string (str s)] w (PvPost (parseV kindP s) w) := by
  have HEE := hE
  have HRDV : Hid (∀ u, Below w.heap.size w u → Calls Tryz.prog 41 #[.string (str s)] u (RdPost (readV kindP s) u)) := fun u hu => read_c s hs u (HEE.below hu)
  have HPV : Hid (parseV kindP s = if 200000 < s.length then (zeroV, 2) else if rightV (readV kindP s) && decide (showV (readV kindP s) = s) then (readV kindP s, 0) else (zeroV, 8)) := rfl
  have HRI := Lib.hid (fun (cv sv : Value) (u : World) (hA : VdOk u (readV kindP s) cv sv) => pRightV_c (readV kindP s) cv sv u hA)
  have HSW := Lib.hid (fun (cv sv : Value) (u : World) (hA : VdOk u (readV kindP s) cv sv) (hc : VdNums (readV kindP s)) (hE : Env u) => pShowV_c (readV kindP s) cv sv u hA hE hc)
  have HEQ : Hid (decide (showV (readV kindP s) = s) = ((str (showV (readV kindP s))).toList == (str s).toList)) := by
    show _ = _
    rw [str_toList, str_toList, Bool.eq_iff_iff]; simp
  have HE := Lib.hid hE
  clear hE
  generalize readV kindP s = v at HRDV HPV HRI HSW HEQ
  generalize parseV kindP s = pv at HPV ⊢
  have hz : (str s).size = s.length := str_size s
  have HBX0 : Hid (Below w.heap.size w (w.alloc (.cells (vdA zeroV (.slice none 0 0) (.slice none 0 0)) 28))) := al w _
  have HR0 := Lib.hid (vdBox_new w zeroV (.slice none 0 0) (.slice none 0 0))
  unfold vdA zeroV zeroE at HBX0 HR0
  simp only at HBX0 HR0
  unfold PvPost
  go_enter Tryz.func17, Tryz.ntmps17
  go_upto_region 1 with fail
  have HUS : Hid ((w.alloc (.cells #[.int .i64 0, .int .i64 0, .int .i64 0, .int .i64 0, .int .i64 0, .int .i64 0, .int .i64 0, .int .i64 0, .slice none 0 0, .slice none 0 0] 28)).heap.size = w.heap.size + 1) := World.size_alloc _ _
  generalize World.alloc _ _ = U at HBX0 HR0 HUS ⊢
  by_cases hb : 200000 < s.length
  · have hb2 : (200000 : Int) < (s.length : Int) := by omega
    have HP2 : Hid (pv = (zeroV, 2)) := by show _ = _; rw [HPV.out, if_pos hb]
    obtain ⟨r0, r1, r2, r3, r4, r5, r6, r7, r8, r9⟩ := HR0.out.at_
    have f0 := HR0.out.frz 0; have f1 := HR0.out.frz 1; have f2 := HR0.out.frz 2; have f3 := HR0.out.frz 3; have f4 := HR0.out.frz 4; have f5 := HR0.out.frz 5; have f6 := HR0.out.frz 6; have f7 := HR0.out.frz 7; have f8 := HR0.out.frz 8; have f9 := HR0.out.frz 9
    go_wp2_with fail
    refine bodyPost_ret (v := .tuple #[vdV zeroV (.slice none 0 0) (.slice none 0 0), .int .i64 2]) (by simp [results, Tryz.results17, go_sem, vdV, zeroV, zeroE, World.cell?_setCell_other, World.cell?_setCell_same', r0, r1, r2, r3, r4, r5, r6, r7, r8, r9]; try rfl) rfl ?_
    rw [HP2.out]
    exact ⟨_, _, rfl, fun _ _ _ => vdOk_zero _, vdNums_zero, (below_set (below_set (below_set (below_set (below_set (below_set (below_set (below_set (below_set (below_set HBX0.out (Nat.le_refl _) _) (Nat.le_refl _) _) (Nat.le_refl _) _) (Nat.le_refl _) _) (Nat.le_refl _) _) (Nat.le_refl _) _) (Nat.le_refl _) _) (Nat.le_refl _) _) (Nat.le_refl _) _) (Nat.le_refl _) _)⟩
  · have hb2 : ¬ (200000 : Int) < (s.length : Int) := by omega
    go_upto_region 4 with (go_at_call 41; refine (HRDV.out _ HBX0.out).mono ?_; rintro e w1 ⟨cv, sv, rfl, hok, hnm, hb1⟩; obtain ⟨A1, k1, rfl, _⟩ := hok.now.cells.shape; obtain ⟨A2, k2, rfl, _⟩ := hok.now.sched.shape; unfold vdV)
    have hQ := vdBox_new w1 v (.slice A1 v.bad.cells.length k1) (.slice A2 v.sched.length k2)
    have HA := Lib.hid (al w1 (.cells (vdA v (.slice A1 v.bad.cells.length k1) (.slice A2 v.sched.length k2)) 28))
    have HOK := Lib.hid (hok.below HA.out)
    have HNM := Lib.hid hnm
    have HBW := Lib.hid (bt HBX0.out (bt hb1 HA.out))
    have HR := Lib.hid ((HR0.out.below hb1).below HA.out)
    have hlt : w.heap.size < w1.heap.size := (HR0.out.below hb1).at_.lt
    clear HBX0 HR0 hok hnm hb1 HRDV
    unfold vdA at hQ HA HOK HBW HR
    generalize w1.alloc _ = X at hQ HA HOK HBW HR ⊢
    have HLT : Hid (w.heap.size < w1.heap.size) := hlt
    have HQ := Lib.hid hQ
    have HAT : Hid (∀ u, Below X.heap.size X u → VdAt u w1.heap.size v (.slice A1 v.bad.cells.length k1) (.slice A2 v.sched.length k2)) := fun u hu => HQ.out.at_.below hu
    have HRI2 := Lib.hid (HRI.out (.slice A1 v.bad.cells.length k1) (.slice A2 v.sched.length k2) X HOK.out.now)
    have HSW2 : Hid (∀ u, Below X.heap.size X u → _) := fun u hu => HSW.out (.slice A1 v.bad.cells.length k1) (.slice A2 v.sched.length k2) u (HOK.out.below hu).now HNM.out (HE.out.below (bt HBW.out hu))
    clear HRI HSW hQ hlt HA
    unfold vdV at HRI2 HSW2
    obtain ⟨p0, p1, p2, p3, p4, p5, p6, p7, p8, p9⟩ := HQ.out.at_
    cases hr : rightV v
    · have HP2 : Hid (pv = (zeroV, 8)) := by show _ = _; rw [HPV.out, if_neg hb, hr]; rfl
      rw [hr] at HRI2
      clear hr HSW2 HEQ HPV
      go_wp2_with (go_at_call 10; (with_reducible refine (HRI2.out).mono ?_); rintro e w2 ⟨rfl, hb3⟩; obtain ⟨r0, r1, r2, r3, r4, r5, r6, r7, r8, r9⟩ := (HR.out.below hb3).at_; have f0 := (HR.out.below hb3).frz 0; have f1 := (HR.out.below hb3).frz 1; have f2 := (HR.out.below hb3).frz 2; have f3 := (HR.out.below hb3).frz 3; have f4 := (HR.out.below hb3).frz 4; have f5 := (HR.out.below hb3).frz 5; have f6 := (HR.out.below hb3).frz 6; have f7 := (HR.out.below hb3).frz 7; have f8 := (HR.out.below hb3).frz 8; have f9 := (HR.out.below hb3).frz 9)
      refine bodyPost_ret (v := .tuple #[vdV zeroV (.slice none 0 0) (.slice none 0 0), .int .i64 8]) (by simp [results, Tryz.results17, go_sem, vdV, zeroV, zeroE, World.cell?_setCell_other, World.cell?_setCell_same', r0, r1, r2, r3, r4, r5, r6, r7, r8, r9]; try rfl) rfl ?_
      rw [HP2.out]
      exact ⟨_, _, rfl, fun _ _ _ => vdOk_zero _, vdNums_zero, (below_set (below_set (below_set (below_set (below_set (below_set (below_set (below_set (below_set (below_set (bt HBW.out hb3) (Nat.le_refl _) _) (Nat.le_refl _) _) (Nat.le_refl _) _) (Nat.le_refl _) _) (Nat.le_refl _) _) (Nat.le_refl _) _) (Nat.le_refl _) _) (Nat.le_refl _) _) (Nat.le_refl _) _) (Nat.le_refl _) _)⟩
    · rw [hr] at HRI2
      cases hc : decide (showV v = s)
      · have HP2 : Hid (pv = (zeroV, 8)) := by show _ = _; rw [HPV.out, if_neg hb, hr, hc]; rfl
        have hq := HEQ.out
        rw [hc] at hq
        replace hq := hq.symm
        clear hr hc HEQ HPV
        generalize str (showV v) = S1 at HSW2 hq
        go_wp2_with (first
          | (go_at_call 10; (with_reducible refine (HRI2.out).mono ?_); rintro e w2 ⟨rfl, hb3⟩; obtain ⟨s0, s1, s2, s3, s4, s5, s6, s7, s8, s9⟩ := HAT.out w2 hb3)
          | (go_at_call 12; (with_reducible refine (HSW2.out _ hb3).mono ?_); rintro e w3 ⟨rfl, hb4⟩; have hb5 := bt hb3 hb4; obtain ⟨r0, r1, r2, r3, r4, r5, r6, r7, r8, r9⟩ := (HR.out.below hb5).at_; have f0 := (HR.out.below hb5).frz 0; have f1 := (HR.out.below hb5).frz 1; have f2 := (HR.out.below hb5).frz 2; have f3 := (HR.out.below hb5).frz 3; have f4 := (HR.out.below hb5).frz 4; have f5 := (HR.out.below hb5).frz 5; have f6 := (HR.out.below hb5).frz 6; have f7 := (HR.out.below hb5).frz 7; have f8 := (HR.out.below hb5).frz 8; have f9 := (HR.out.below hb5).frz 9))
        refine bodyPost_ret (v := .tuple #[vdV zeroV (.slice none 0 0) (.slice none 0 0), .int .i64 8]) (by simp [results, Tryz.results17, go_sem, vdV, zeroV, zeroE, World.cell?_setCell_other, World.cell?_setCell_same', r0, r1, r2, r3, r4, r5, r6, r7, r8, r9]; try rfl) rfl ?_
        rw [HP2.out]
        exact ⟨_, _, rfl, fun _ _ _ => vdOk_zero _, vdNums_zero, (below_set (below_set (below_set (below_set (below_set (below_set (below_set (below_set (below_set (below_set (bt HBW.out hb5) (Nat.le_refl _) _) (Nat.le_refl _) _) (Nat.le_refl _) _) (Nat.le_refl _) _) (Nat.le_refl _) _) (Nat.le_refl _) _) (Nat.le_refl _) _) (Nat.le_refl _) _) (Nat.le_refl _) _) (Nat.le_refl _) _)⟩
      · have HP2 : Hid (pv = (v, 0)) := by show _ = _; rw [HPV.out, if_neg hb, hr, hc]; rfl
        have hq := HEQ.out
        rw [hc] at hq
        replace hq := hq.symm
        clear hr hc HEQ HPV
        generalize str (showV v) = S1 at HSW2 hq
        go_wp2_with (first
          | (go_at_call 10; (with_reducible refine (HRI2.out).mono ?_); rintro e w2 ⟨rfl, hb3⟩; obtain ⟨s0, s1, s2, s3, s4, s5, s6, s7, s8, s9⟩ := HAT.out w2 hb3)
          | (go_at_call 12; (with_reducible refine (HSW2.out _ hb3).mono ?_); rintro e w3 ⟨rfl, hb4⟩; have hb5 := bt hb3 hb4; obtain ⟨s0, s1, s2, s3, s4, s5, s6, s7, s8, s9⟩ := HAT.out w3 hb5; obtain ⟨r0, r1, r2, r3, r4, r5, r6, r7, r8, r9⟩ := (HR.out.below hb5).at_; have f0 := (HR.out.below hb5).frz 0; have f1 := (HR.out.below hb5).frz 1; have f2 := (HR.out.below hb5).frz 2; have f3 := (HR.out.below hb5).frz 3; have f4 := (HR.out.below hb5).frz 4; have f5 := (HR.out.below hb5).frz 5; have f6 := (HR.out.below hb5).frz 6; have f7 := (HR.out.below hb5).frz 7; have f8 := (HR.out.below hb5).frz 8; have f9 := (HR.out.below hb5).frz 9))
        refine bodyPost_ret (v := .tuple #[vdV v (.slice A1 v.bad.cells.length k1) (.slice A2 v.sched.length k2), .int .i64 0]) (by simp [results, Tryz.results17, go_sem, vdV, World.cell?_setCell_other, World.cell?_setCell_same', r0, r1, r2, r3, r4, r5, r6, r7, r8, r9]; try rfl) rfl ?_
        rw [HP2.out]
        have hbw := bt HBW.out hb5
        exact ⟨_, _, rfl, (((((((((((HOK.out.below hb5).setCell ⟨w.heap.size, 0, none⟩ (by show w.heap.size < U.heap.size; have := HUS.out; omega) _).setCell ⟨w.heap.size, 1, none⟩ (by show w.heap.size < U.heap.size; have := HUS.out; omega) _).setCell ⟨w.heap.size, 2, none⟩ (by show w.heap.size < U.heap.size; have := HUS.out; omega) _).setCell ⟨w.heap.size, 3, none⟩ (by show w.heap.size < U.heap.size; have := HUS.out; omega) _).setCell ⟨w.heap.size, 4, none⟩ (by show w.heap.size < U.heap.size; have := HUS.out; omega) _).setCell ⟨w.heap.size, 5, none⟩ (by show w.heap.size < U.heap.size; have := HUS.out; omega) _).setCell ⟨w.heap.size, 6, none⟩ (by show w.heap.size < U.heap.size; have := HUS.out; omega) _).setCell ⟨w.heap.size, 7, none⟩ (by show w.heap.size < U.heap.size; have := HUS.out; omega) _).setCell ⟨w.heap.size, 8, none⟩ (by show w.heap.size < U.heap.size; have := HUS.out; omega) _).setCell ⟨w.heap.size, 9, none⟩ (by show w.heap.size < U.heap.size; have := HUS.out; omega) _).mono (fun k _ hk => by have h1 : k < w.heap.size := hk; show k < U.heap.size; have := HUS.out; omega), HNM.out, (below_set (below_set (below_set (below_set (below_set (below_set (below_set (below_set (below_set (below_set hbw (Nat.le_refl _) _) (Nat.le_refl _) _) (Nat.le_refl _) _) (Nat.le_refl _) _) (Nat.le_refl _) _) (Nat.le_refl _) _) (Nat.le_refl _) _) (Nat.le_refl _) _) (Nat.le_refl _) _) (Nat.le_refl _) _)⟩
set_option maxRecDepth 100000 in
set_option maxHeartbeats 8000000 in
theorem rParseV_c (s : List UInt8) (hs : s.length ≤ 1000000) (w : World) (hE : Env w) :
    Calls Tryz.prog 18 #[.string (str s)] w (PvPost (parseV kindR s) w) := by
  have HRDV : Hid (∀ u, Below w.heap.size w u → Calls Tryz.prog 42 #[.string (str s)] u (RdPost (readV kindR s) u)) := fun u hu => (by have := guess_c (str s) (by rw [str_size]; omega) u; rw [str_data] at this; exact this)
  have HPV : Hid (parseV kindR s = if 200000 < s.length then (zeroV, 2) else if rightV (readV kindR s) && decide (showV (readV kindR s) = s) then (readV kindR s, 0) else (zeroV, 8)) := rfl
  have HRI := Lib.hid (fun (cv sv : Value) (u : World) (hA : VdOk u (readV kindR s) cv sv) => rRightV_c (readV kindR s) cv sv u hA)
  have HSW := Lib.hid (fun (cv sv : Value) (u : World) (hA : VdOk u (readV kindR s) cv sv) (hc : VdNums (readV kindR s)) (hE : Env u) => rShowV_c (readV kindR s) cv sv u hA hc)
  have HEQ : Hid (decide (showV (readV kindR s) = s) = ((str (showV (readV kindR s))).toList == (str s).toList)) := by
    show _ = _
    rw [str_toList, str_toList, Bool.eq_iff_iff]; simp
  have HE := Lib.hid hE
  clear hE
  generalize readV kindR s = v at HRDV HPV HRI HSW HEQ
  generalize parseV kindR s = pv at HPV ⊢
  have hz : (str s).size = s.length := str_size s
  have HBX0 : Hid (Below w.heap.size w (w.alloc (.cells (vdA zeroV (.slice none 0 0) (.slice none 0 0)) 28))) := al w _
  have HR0 := Lib.hid (vdBox_new w zeroV (.slice none 0 0) (.slice none 0 0))
  unfold vdA zeroV zeroE at HBX0 HR0
  simp only at HBX0 HR0
  unfold PvPost
  go_enter Tryz.func18, Tryz.ntmps18
  go_upto_region 1 with fail
  have HUS : Hid ((w.alloc (.cells #[.int .i64 0, .int .i64 0, .int .i64 0, .int .i64 0, .int .i64 0, .int .i64 0, .int .i64 0, .int .i64 0, .slice none 0 0, .slice none 0 0] 28)).heap.size = w.heap.size + 1) := World.size_alloc _ _
  generalize World.alloc _ _ = U at HBX0 HR0 HUS ⊢
  by_cases hb : 200000 < s.length
  · have hb2 : (200000 : Int) < (s.length : Int) := by omega
    have HP2 : Hid (pv = (zeroV, 2)) := by show _ = _; rw [HPV.out, if_pos hb]
    obtain ⟨r0, r1, r2, r3, r4, r5, r6, r7, r8, r9⟩ := HR0.out.at_
    have f0 := HR0.out.frz 0; have f1 := HR0.out.frz 1; have f2 := HR0.out.frz 2; have f3 := HR0.out.frz 3; have f4 := HR0.out.frz 4; have f5 := HR0.out.frz 5; have f6 := HR0.out.frz 6; have f7 := HR0.out.frz 7; have f8 := HR0.out.frz 8; have f9 := HR0.out.frz 9
    go_wp2_with fail
    refine bodyPost_ret (v := .tuple #[vdV zeroV (.slice none 0 0) (.slice none 0 0), .int .i64 2]) (by simp [results, Tryz.results18, go_sem, vdV, zeroV, zeroE, World.cell?_setCell_other, World.cell?_setCell_same', r0, r1, r2, r3, r4, r5, r6, r7, r8, r9]; try rfl) rfl ?_
    rw [HP2.out]
    exact ⟨_, _, rfl, fun _ _ _ => vdOk_zero _, vdNums_zero, (below_set (below_set (below_set (below_set (below_set (below_set (below_set (below_set (below_set (below_set HBX0.out (Nat.le_refl _) _) (Nat.le_refl _) _) (Nat.le_refl _) _) (Nat.le_refl _) _) (Nat.le_refl _) _) (Nat.le_refl _) _) (Nat.le_refl _) _) (Nat.le_refl _) _) (Nat.le_refl _) _) (Nat.le_refl _) _)⟩
  · have hb2 : ¬ (200000 : Int) < (s.length : Int) := by omega
    go_upto_region 4 with (go_at_call 42; refine (HRDV.out _ HBX0.out).mono ?_; rintro e w1 ⟨cv, sv, rfl, hok, hnm, hb1⟩; obtain ⟨A1, k1, rfl, _⟩ := hok.now.cells.shape; obtain ⟨A2, k2, rfl, _⟩ := hok.now.sched.shape; unfold vdV)
    have hQ := vdBox_new w1 v (.slice A1 v.bad.cells.length k1) (.slice A2 v.sched.length k2)
    have HA := Lib.hid (al w1 (.cells (vdA v (.slice A1 v.bad.cells.length k1) (.slice A2 v.sched.length k2)) 28))
    have HOK := Lib.hid (hok.below HA.out)
    have HNM := Lib.hid hnm
    have HBW := Lib.hid (bt HBX0.out (bt hb1 HA.out))
    have HR := Lib.hid ((HR0.out.below hb1).below HA.out)
    have hlt : w.heap.size < w1.heap.size := (HR0.out.below hb1).at_.lt
    clear HBX0 HR0 hok hnm hb1 HRDV
    unfold vdA at hQ HA HOK HBW HR
    generalize w1.alloc _ = X at hQ HA HOK HBW HR ⊢
    have HLT : Hid (w.heap.size < w1.heap.size) := hlt
    have HQ := Lib.hid hQ
    have HAT : Hid (∀ u, Below X.heap.size X u → VdAt u w1.heap.size v (.slice A1 v.bad.cells.length k1) (.slice A2 v.sched.length k2)) := fun u hu => HQ.out.at_.below hu
    have HRI2 := Lib.hid (HRI.out (.slice A1 v.bad.cells.length k1) (.slice A2 v.sched.length k2) X HOK.out.now)
    have HSW2 : Hid (∀ u, Below X.heap.size X u → _) := fun u hu => HSW.out (.slice A1 v.bad.cells.length k1) (.slice A2 v.sched.length k2) u (HOK.out.below hu).now HNM.out (HE.out.below (bt HBW.out hu))
    clear HRI HSW hQ hlt HA
    unfold vdV at HRI2 HSW2
    obtain ⟨p0, p1, p2, p3, p4, p5, p6, p7, p8, p9⟩ := HQ.out.at_
    cases hr : rightV v
    · have HP2 : Hid (pv = (zeroV, 8)) := by show _ = _; rw [HPV.out, if_neg hb, hr]; rfl
      rw [hr] at HRI2
      clear hr HSW2 HEQ HPV
      go_wp2_with (go_at_call 11; (with_reducible refine (HRI2.out).mono ?_); rintro e w2 ⟨rfl, hb3⟩; obtain ⟨r0, r1, r2, r3, r4, r5, r6, r7, r8, r9⟩ := (HR.out.below hb3).at_; have f0 := (HR.out.below hb3).frz 0; have f1 := (HR.out.below hb3).frz 1; have f2 := (HR.out.below hb3).frz 2; have f3 := (HR.out.below hb3).frz 3; have f4 := (HR.out.below hb3).frz 4; have f5 := (HR.out.below hb3).frz 5; have f6 := (HR.out.below hb3).frz 6; have f7 := (HR.out.below hb3).frz 7; have f8 := (HR.out.below hb3).frz 8; have f9 := (HR.out.below hb3).frz 9)
      refine bodyPost_ret (v := .tuple #[vdV zeroV (.slice none 0 0) (.slice none 0 0), .int .i64 8]) (by simp [results, Tryz.results18, go_sem, vdV, zeroV, zeroE, World.cell?_setCell_other, World.cell?_setCell_same', r0, r1, r2, r3, r4, r5, r6, r7, r8, r9]; try rfl) rfl ?_
      rw [HP2.out]
      exact ⟨_, _, rfl, fun _ _ _ => vdOk_zero _, vdNums_zero, (below_set (below_set (below_set (below_set (below_set (below_set (below_set (below_set (below_set (below_set (bt HBW.out hb3) (Nat.le_refl _) _) (Nat.le_refl _) _) (Nat.le_refl _) _) (Nat.le_refl _) _) (Nat.le_refl _) _) (Nat.le_refl _) _) (Nat.le_refl _) _) (Nat.le_refl _) _) (Nat.le_refl _) _) (Nat.le_refl _) _)⟩
    · rw [hr] at HRI2
      cases hc : decide (showV v = s)
      · have HP2 : Hid (pv = (zeroV, 8)) := by show _ = _; rw [HPV.out, if_neg hb, hr, hc]; rfl
        have hq := HEQ.out
        rw [hc] at hq
        replace hq := hq.symm
        clear hr hc HEQ HPV
        generalize str (showV v) = S1 at HSW2 hq
        go_wp2_with (first
          | (go_at_call 11; (with_reducible refine (HRI2.out).mono ?_); rintro e w2 ⟨rfl, hb3⟩; obtain ⟨s0, s1, s2, s3, s4, s5, s6, s7, s8, s9⟩ := HAT.out w2 hb3)
          | (go_at_call 13; (with_reducible refine (HSW2.out _ hb3).mono ?_); rintro e w3 ⟨rfl, hb4⟩; have hb5 := bt hb3 hb4; obtain ⟨r0, r1, r2, r3, r4, r5, r6, r7, r8, r9⟩ := (HR.out.below hb5).at_; have f0 := (HR.out.below hb5).frz 0; have f1 := (HR.out.below hb5).frz 1; have f2 := (HR.out.below hb5).frz 2; have f3 := (HR.out.below hb5).frz 3; have f4 := (HR.out.below hb5).frz 4; have f5 := (HR.out.below hb5).frz 5; have f6 := (HR.out.below hb5).frz 6; have f7 := (HR.out.below hb5).frz 7; have f8 := (HR.out.below hb5).frz 8; have f9 := (HR.out.below hb5).frz 9))
        refine bodyPost_ret (v := .tuple #[vdV zeroV (.slice none 0 0) (.slice none 0 0), .int .i64 8]) (by simp [results, Tryz.results18, go_sem, vdV, zeroV, zeroE, World.cell?_setCell_other, World.cell?_setCell_same', r0, r1, r2, r3, r4, r5, r6, r7, r8, r9]; try rfl) rfl ?_
        rw [HP2.out]
        exact ⟨_, _, rfl, fun _ _ _ => vdOk_zero _, vdNums_zero, (below_set (below_set (below_set (below_set (below_set (below_set (below_set (below_set (below_set (below_set (bt HBW.out hb5) (Nat.le_refl _) _) (Nat.le_refl _) _) (Nat.le_refl _) _) (Nat.le_refl _) _) (Nat.le_refl _) _) (Nat.le_refl _) _) (Nat.le_refl _) _) (Nat.le_refl _) _) (Nat.le_refl _) _) (Nat.le_refl _) _)⟩
      · have HP2 : Hid (pv = (v, 0)) := by show _ = _; rw [HPV.out, if_neg hb, hr, hc]; rfl
        have hq := HEQ.out
        rw [hc] at hq
        replace hq := hq.symm
        clear hr hc HEQ HPV
        generalize str (showV v) = S1 at HSW2 hq
        go_wp2_with (first
          | (go_at_call 11; (with_reducible refine (HRI2.out).mono ?_); rintro e w2 ⟨rfl, hb3⟩; obtain ⟨s0, s1, s2, s3, s4, s5, s6, s7, s8, s9⟩ := HAT.out w2 hb3)
          | (go_at_call 13; (with_reducible refine (HSW2.out _ hb3).mono ?_); rintro e w3 ⟨rfl, hb4⟩; have hb5 := bt hb3 hb4; obtain ⟨s0, s1, s2, s3, s4, s5, s6, s7, s8, s9⟩ := HAT.out w3 hb5; obtain ⟨r0, r1, r2, r3, r4, r5, r6, r7, r8, r9⟩ := (HR.out.below hb5).at_; have f0 := (HR.out.below hb5).frz 0; have f1 := (HR.out.below hb5).frz 1; have f2 := (HR.out.below hb5).frz 2; have f3 := (HR.out.below hb5).frz 3; have f4 := (HR.out.below hb5).frz 4; have f5 := (HR.out.below hb5).frz 5; have f6 := (HR.out.below hb5).frz 6; have f7 := (HR.out.below hb5).frz 7; have f8 := (HR.out.below hb5).frz 8; have f9 := (HR.out.below hb5).frz 9))
        refine bodyPost_ret (v := .tuple #[vdV v (.slice A1 v.bad.cells.length k1) (.slice A2 v.sched.length k2), .int .i64 0]) (by simp [results, Tryz.results18, go_sem, vdV, World.cell?_setCell_other, World.cell?_setCell_same', r0, r1, r2, r3, r4, r5, r6, r7, r8, r9]; try rfl) rfl ?_
        rw [HP2.out]
        have hbw := bt HBW.out hb5
        exact ⟨_, _, rfl, (((((((((((HOK.out.below hb5).setCell ⟨w.heap.size, 0, none⟩ (by show w.heap.size < U.heap.size; have := HUS.out; omega) _).setCell ⟨w.heap.size, 1, none⟩ (by show w.heap.size < U.heap.size; have := HUS.out; omega) _).setCell ⟨w.heap.size, 2, none⟩ (by show w.heap.size < U.heap.size; have := HUS.out; omega) _).setCell ⟨w.heap.size, 3, none⟩ (by show w.heap.size < U.heap.size; have := HUS.out; omega) _).setCell ⟨w.heap.size, 4, none⟩ (by show w.heap.size < U.heap.size; have := HUS.out; omega) _).setCell ⟨w.heap.size, 5, none⟩ (by show w.heap.size < U.heap.size; have := HUS.out; omega) _).setCell ⟨w.heap.size, 6, none⟩ (by show w.heap.size < U.heap.size; have := HUS.out; omega) _).setCell ⟨w.heap.size, 7, none⟩ (by show w.heap.size < U.heap.size; have := HUS.out; omega) _).setCell ⟨w.heap.size, 8, none⟩ (by show w.heap.size < U.heap.size; have := HUS.out; omega) _).setCell ⟨w.heap.size, 9, none⟩ (by show w.heap.size < U.heap.size; have := HUS.out; omega) _).mono (fun k _ hk => by have h1 : k < w.heap.size := hk; show k < U.heap.size; have := HUS.out; omega), HNM.out, (below_set (below_set (below_set (below_set (below_set (below_set (below_set (below_set (below_set (below_set hbw (Nat.le_refl _) _) (Nat.le_refl _) _) (Nat.le_refl _) _) (Nat.le_refl _) _) (Nat.le_refl _) _) (Nat.le_refl _) _) (Nat.le_refl _) _) (Nat.le_refl _) _) (Nat.le_refl _) _) (Nat.le_refl _) _)⟩
end Go.Proofs.YtcgcndmlgfnjbaaGreatDoor
/- The fixed calls on verdicts: the statements' walk. -/
namespace Go.Proofs.YtcgcndmlgfnjbaaGreatDoor
open Go Go.RowKit
set_option linter.unusedVariables false
def fr1 : List UInt8 := [118, 105, 111, 108, 97, 116, 105, 111, 110, 32, 102, 97, 117, 108, 116, 32, 49, 32, 48, 32, 55, 10, 115, 116, 101, 112, 32, 48, 10]
def fr2 : List UInt8 := [115, 97, 102, 101, 32, 51, 32, 50, 10]
def fr3 : List UInt8 := [115, 97, 102, 101, 32, 51, 10]
def fr4 : List UInt8 := [101, 114, 114, 111, 114, 32, 53, 32, 97, 116, 32, 49, 50, 10]
def fr5 : List UInt8 := [98, 117, 100, 103, 101, 116, 10]
def fr6 : List UInt8 := [98, 117, 100, 103, 101, 116]
def frA : Vd := ⟨3, 0, 0, 0, 0, ⟨3, 1, 0, [7]⟩, [⟨1, 0, 0, []⟩]⟩
def frX : Vd := ⟨2, 0, 0, 3, 2, ⟨0, 0, 0, []⟩, []⟩
def frY : Vd := ⟨1, 5, 12, 0, 0, ⟨0, 0, 0, []⟩, []⟩
def frZ : Vd := ⟨4, 0, 0, 0, 0, ⟨0, 0, 0, []⟩, []⟩
set_option maxRecDepth 100000 in
theorem fr1_p : parseV kindP fr1 = (frA, 0) := by kernel_rfl
set_option maxRecDepth 100000 in
theorem fr2_p : parseV kindP fr2 = (frX, 0) := by kernel_rfl
set_option maxRecDepth 100000 in
theorem fr3_p : parseV kindP fr3 = (zeroV, 8) := by kernel_rfl
set_option maxRecDepth 100000 in
theorem fr4_p : parseV kindP fr4 = (frY, 0) := by kernel_rfl
set_option maxRecDepth 100000 in
theorem fr5_p : parseV kindP fr5 = (frZ, 0) := by kernel_rfl
set_option maxRecDepth 100000 in
theorem fr6_p : parseV kindP fr6 = (zeroV, 8) := by kernel_rfl
set_option maxRecDepth 100000 in
theorem frA_s : showV frA = fr1 := by kernel_rfl
theorem fr_c : countsK [1, 3, 3] 9 = [115, 97, 102, 101, 32, 49, 10, 102, 97, 117, 108, 116, 32, 50, 10, 112, 97, 116, 104, 115, 32, 57, 10] := by kernel_rfl
/-- the ten cells of a verdict, its numbers written out -/
structure B10 (w : World) (b : Nat) (k e p pa en bk bw bc : Int) (a s : Value) : Prop where
  c0 : w.cell? ⟨b, 0, none⟩ = some (.int .i64 k)
  c1 : w.cell? ⟨b, 1, none⟩ = some (.int .i64 e)
  c2 : w.cell? ⟨b, 2, none⟩ = some (.int .i64 p)
  c3 : w.cell? ⟨b, 3, none⟩ = some (.int .i64 pa)
  c4 : w.cell? ⟨b, 4, none⟩ = some (.int .i64 en)
  c5 : w.cell? ⟨b, 5, none⟩ = some (.int .i64 bk)
  c6 : w.cell? ⟨b, 6, none⟩ = some (.int .i64 bw)
  c7 : w.cell? ⟨b, 7, none⟩ = some (.int .i64 bc)
  c8 : w.cell? ⟨b, 8, none⟩ = some a
  c9 : w.cell? ⟨b, 9, none⟩ = some s
theorem B10.below {w w' : World} {b : Nat} {k e p pa en bk bw bc : Int} {a s : Value} (h : B10 w b k e p pa en bk bw bc a s) (hb : Below w.heap.size w w') : B10 w' b k e p pa en bk bw bc a s := by
  have hl := World.block_lt_of_cell? w _ h.c0
  have e := fun j u (hc : w.cell? ⟨b, j, none⟩ = some u) => (hb.cell (p := ⟨b, j, none⟩) hl).trans hc
  exact ⟨e _ _ h.c0, e _ _ h.c1, e _ _ h.c2, e _ _ h.c3, e _ _ h.c4, e _ _ h.c5, e _ _ h.c6, e _ _ h.c7, e _ _ h.c8, e _ _ h.c9⟩
theorem b10_new (w : World) (k e p pa en bk bw bc : Int) (a s : Value) : B10 (w.alloc (.cells #[.int .i64 k, .int .i64 e, .int .i64 p, .int .i64 pa, .int .i64 en, .int .i64 bk, .int .i64 bw, .int .i64 bc, a, s] 28)) w.heap.size k e p pa en bk bw bc a s :=
  ⟨cells_new _ _ _ _ _ rfl, cells_new _ _ _ _ _ rfl, cells_new _ _ _ _ _ rfl, cells_new _ _ _ _ _ rfl, cells_new _ _ _ _ _ rfl, cells_new _ _ _ _ _ rfl, cells_new _ _ _ _ _ rfl, cells_new _ _ _ _ _ rfl, cells_new _ _ _ _ _ rfl, cells_new _ _ _ _ _ rfl⟩
/-- a text's verdict, as the statements ask for it -/
theorem pv_at (l : List UInt8) (s : ByteArray) (hs : s = str l) (hl : l.length ≤ 1000000) (w : World) (hE : Env w) (k e p pa en bk bw bc : Int) (L : List Int) (P : List Pk) (n m : Nat) (hn : L.length = n) (hm : P.length = m) (er : Int) (hR : parseV kindP l = (⟨k, e, p, pa, en, ⟨bk, bw, bc, L⟩, P⟩, er)) :
    Calls Tryz.prog 17 #[.string s] w fun r w' => ∃ A1 c1 A2 c2, r = .returned (.tuple #[.agg #[.int .i64 k, .int .i64 e, .int .i64 p, .int .i64 pa, .int .i64 en, .int .i64 bk, .int .i64 bw, .int .i64 bc, .slice A1 n c1, .slice A2 m c2], .int .i64 er]) ∧ VdOk w' ⟨k, e, p, pa, en, ⟨bk, bw, bc, L⟩, P⟩ (.slice A1 n c1) (.slice A2 m c2) ∧ Below w.heap.size w w' := by
  subst hs hn hm
  refine (pParseV_c l hl w hE).mono ?_
  rintro r w' h
  rw [hR] at h
  obtain ⟨cv, sv, rfl, hv, hnm, hb⟩ := h
  obtain ⟨A1, c1, rfl, _⟩ := hv.now.cells.shape
  obtain ⟨A2, c2, rfl, _⟩ := hv.now.sched.shape
  exact ⟨A1, c1, A2, c2, rfl, hv.now, hb⟩
theorem frA_nums : VdNums frA := fun n hn => by
  have : n = 7 := by simpa [frA] using hn
  subst this; exact ⟨by decide, by decide⟩
theorem fa_same (w : World) (a b c d : Value) (hv : VdOk w frA a b) (hu : VdOk w frA c d) : Calls Tryz.prog 14 #[.agg #[.int .i64 3, .int .i64 0, .int .i64 0, .int .i64 0, .int .i64 0, .int .i64 3, .int .i64 1, .int .i64 0, a, b], .agg #[.int .i64 3, .int .i64 0, .int .i64 0, .int .i64 0, .int .i64 0, .int .i64 3, .int .i64 1, .int .i64 0, c, d]] w fun e w' => e = .returned (.bool true) ∧ Below w.heap.size w w' := by
  have := pSameV_c frA frA a b c d w hv hu
  rwa [decide_eq_true rfl] at this
theorem fa_show (w : World) (a b : Value) (hv : VdOk w frA a b) (hE : Env w) : Calls Tryz.prog 12 #[.agg #[.int .i64 3, .int .i64 0, .int .i64 0, .int .i64 0, .int .i64 0, .int .i64 3, .int .i64 1, .int .i64 0, a, b]] w fun e w' => e = .returned (.string ⟨#[118, 105, 111, 108, 97, 116, 105, 111, 110, 32, 102, 97, 117, 108, 116, 32, 49, 32, 48, 32, 55, 10, 115, 116, 101, 112, 32, 48, 10]⟩) ∧ Below w.heap.size w w' := by
  have := pShowV_c frA a b w hv hE frA_nums
  rwa [frA_s] at this
theorem fx_ok (w : World) : VdOk w frX (.slice none 0 0) (.slice none 0 0) := ⟨zs_nil _, pks_nil _, by show (0 : Nat) ≤ _; omega, by show (0 : Nat) ≤ _; omega, by simp [frX]⟩
theorem fa_same2 (w : World) (a b : Value) (hv : VdOk w frX a b) : Calls Tryz.prog 14 #[.agg #[.int .i64 2, .int .i64 0, .int .i64 0, .int .i64 3, .int .i64 2, .int .i64 0, .int .i64 0, .int .i64 0, a, b], .agg #[.int .i64 2, .int .i64 0, .int .i64 0, .int .i64 3, .int .i64 2, .int .i64 0, .int .i64 0, .int .i64 0, .slice none 0 0, .slice none 0 0]] w fun e w' => e = .returned (.bool true) ∧ Below w.heap.size w w' := by
  have := pSameV_c frX frX a b _ _ w hv (fx_ok w)
  rwa [decide_eq_true rfl] at this
theorem fa_right (w : World) (a b : Value) (hv : VdOk w frA a b) : Calls Tryz.prog 10 #[.agg #[.int .i64 3, .int .i64 0, .int .i64 0, .int .i64 0, .int .i64 0, .int .i64 3, .int .i64 1, .int .i64 0, a, b]] w fun e w' => e = .returned (.bool true) ∧ Below w.heap.size w w' := pRightV_c frA a b w hv
theorem fa_right0 (w : World) : Calls Tryz.prog 10 #[.agg #[.int .i64 0, .int .i64 0, .int .i64 0, .int .i64 0, .int .i64 0, .int .i64 0, .int .i64 0, .int .i64 0, .slice none 0 0, .slice none 0 0]] w fun e w' => e = .returned (.bool false) ∧ Below w.heap.size w w' := pRightV_c zeroV _ _ w (vdOk_zero w)
theorem fa_same3 (w : World) (a b c d : Value) (hv : VdOk w frA a b) (hu : VdOk w frX c d) : Calls Tryz.prog 14 #[.agg #[.int .i64 3, .int .i64 0, .int .i64 0, .int .i64 0, .int .i64 0, .int .i64 3, .int .i64 1, .int .i64 0, a, b], .agg #[.int .i64 2, .int .i64 0, .int .i64 0, .int .i64 3, .int .i64 2, .int .i64 0, .int .i64 0, .int .i64 0, c, d]] w fun e w' => e = .returned (.bool false) ∧ Below w.heap.size w w' := by
  have := pSameV_c frA frX a b c d w hv hu
  rwa [decide_eq_false (by decide)] at this
theorem fa_counts (w : World) (hE : Env w) : Calls Tryz.prog 19 #[.agg #[.slice (some ⟨w.heap.size, 0, none⟩) 3 3, .int .i64 9, .int .i64 0, .int .i64 0, .int .i64 0, .slice none 0 0, .slice none 0 0]] (w.alloc (.cells #[.int .i64 1, .int .i64 0, .int .i64 0, .slice none 0 0, .int .i64 3, .int .i64 0, .int .i64 0, .slice none 0 0, .int .i64 3, .int .i64 0, .int .i64 0, .slice none 0 0] 25)) fun e w' => e = .returned (.string ⟨#[115, 97, 102, 101, 32, 49, 10, 102, 97, 117, 108, 116, 32, 50, 10, 112, 97, 116, 104, 115, 32, 57, 10]⟩) ∧ Below w.heap.size w w' := by
  have h := sl_lit w [.int .i64 1, .int .i64 0, .int .i64 0, .slice none 0 0, .int .i64 3, .int .i64 0, .int .i64 0, .slice none 0 0, .int .i64 3, .int .i64 0, .int .i64 0, .slice none 0 0] 25 4 3 3 rfl (Nat.le_refl _)
  refine (pCounts_c [⟨1, 0, 0, none, 0, 0⟩, ⟨3, 0, 0, none, 0, 0⟩, ⟨3, 0, 0, none, 0, 0⟩] (by decide) 9 ⟨by decide, by decide⟩ zeroE _ (.slice none 0 0) (.slice none 0 0) _ h (hE.below (al _ _))).mono ?_
  rintro e w' ⟨rfl, hb⟩
  exact ⟨by rw [show ksE [⟨1, 0, 0, none, 0, 0⟩, ⟨3, 0, 0, none, 0, 0⟩, ⟨3, 0, 0, none, 0, 0⟩] = [1, 3, 3] from rfl, fr_c]; rfl, (al w _).trans (hb.mono (al w _).size)⟩
theorem fa_new (w : World) : VdOk (((w.alloc (.cells #[.int .i64 7] 3)).alloc (.cells #[.int .i64 1, .int .i64 0, .int .i64 0, .slice none 0 0] 48)).alloc (.cells #[.int .i64 3, .int .i64 0, .int .i64 0, .int .i64 0, .int .i64 0, .int .i64 3, .int .i64 1, .int .i64 0, .slice (some ⟨w.heap.size, 0, none⟩) 1 1, .slice (some ⟨w.heap.size + 1, 0, none⟩) 1 1] 28)) frA (.slice (some ⟨w.heap.size, 0, none⟩) 1 1) (.slice (some ⟨w.heap.size + 1, 0, none⟩) 1 1) ∧ B10 (((w.alloc (.cells #[.int .i64 7] 3)).alloc (.cells #[.int .i64 1, .int .i64 0, .int .i64 0, .slice none 0 0] 48)).alloc (.cells #[.int .i64 3, .int .i64 0, .int .i64 0, .int .i64 0, .int .i64 0, .int .i64 3, .int .i64 1, .int .i64 0, .slice (some ⟨w.heap.size, 0, none⟩) 1 1, .slice (some ⟨w.heap.size + 1, 0, none⟩) 1 1] 28)) (w.heap.size + 1 + 1) 3 0 0 0 0 3 1 0 (.slice (some ⟨w.heap.size, 0, none⟩) 1 1) (.slice (some ⟨w.heap.size + 1, 0, none⟩) 1 1) ∧ Below w.heap.size w (((w.alloc (.cells #[.int .i64 7] 3)).alloc (.cells #[.int .i64 1, .int .i64 0, .int .i64 0, .slice none 0 0] 48)).alloc (.cells #[.int .i64 3, .int .i64 0, .int .i64 0, .int .i64 0, .int .i64 0, .int .i64 3, .int .i64 1, .int .i64 0, .slice (some ⟨w.heap.size, 0, none⟩) 1 1, .slice (some ⟨w.heap.size + 1, 0, none⟩) 1 1] 28)) := by
  have h1 : Zs (w.alloc (.cells #[.int .i64 7] 3)) (.slice (some ⟨w.heap.size, 0, none⟩) 1 1) [7] := sl_lit w [.int .i64 7] 3 1 1 1 rfl (Nat.le_refl _)
  have h2 : Pks ((w.alloc (.cells #[.int .i64 7] 3)).alloc (.cells #[.int .i64 1, .int .i64 0, .int .i64 0, .slice none 0 0] 48)) (.slice (some ⟨w.heap.size + 1, 0, none⟩) 1 1) [⟨1, 0, 0, []⟩] := by
    have h := sl_pick (w.alloc (.cells #[.int .i64 7] 3)) ⟨⟨1, 0, 0, []⟩, .slice none 0 0⟩
    rw [World.size_alloc] at h
    exact ⟨[⟨⟨1, 0, 0, []⟩, .slice none 0 0⟩], rfl, h, fun x hx => by simp only [List.mem_cons, List.not_mem_nil, or_false] at hx; subst hx; exact zs_nil _⟩
  have hb := b10_new ((w.alloc (.cells #[.int .i64 7] 3)).alloc (.cells #[.int .i64 1, .int .i64 0, .int .i64 0, .slice none 0 0] 48)) 3 0 0 0 0 3 1 0 (.slice (some ⟨w.heap.size, 0, none⟩) 1 1) (.slice (some ⟨w.heap.size + 1, 0, none⟩) 1 1)
  rw [World.size_alloc, World.size_alloc] at hb
  refine ⟨⟨SlN.below (SlN.below h1 (al _ _)) (al _ _), h2.below (al _ _), by decide, by decide, by decide⟩, hb, balloc (balloc (al w _) _) _⟩
set_option maxRecDepth 100000 in
set_option maxHeartbeats 8000000 in
theorem fixed_c (w : World) (hE : Env w) : Calls Tryz.prog 16 #[] w fun e w' => e = .returned (.bool true) ∧ Below w.heap.size w w' := by
  have HE := Lib.hid hE
  clear hE
  go_enter Tryz.func16, Tryz.ntmps16
  go_upto_region 2 with fail
  have HF1 := Lib.hid (fa_new w)
  generalize World.alloc _ _ = X1 at HF1 ⊢
  have HB1 := Lib.hid HF1.out.2.2
  have HA := Lib.hid HF1.out.1
  have HC := Lib.hid HF1.out.2.1
  have HE1 := Lib.hid (HE.out.below HB1.out)
  clear HF1 HE
  generalize w.heap.size + 1 + 1 = b1 at HC ⊢
  go_upto_region 3 with (go_at_call 17; refine (pv_at fr1 _ rfl (by decide) _ HE1.out 3 0 0 0 0 3 1 0 [7] [⟨1, 0, 0, []⟩] 1 1 rfl rfl 0 fr1_p).mono ?_; rintro e w2 ⟨A2, c2, D2, d2, rfl, hok2, hb2⟩)
  have ha2 := al w2 (.cells #[.int .i64 3, .int .i64 0, .int .i64 0, .int .i64 0, .int .i64 0, .int .i64 3, .int .i64 1, .int .i64 0, .slice A2 1 c2, .slice D2 1 d2] 28)
  have hn2 := b10_new w2 3 0 0 0 0 3 1 0 (.slice A2 1 c2) (.slice D2 1 d2)
  replace HA := Lib.hid ((HA.out.below hb2).below ha2)
  replace HC := Lib.hid ((HC.out.below hb2).below ha2)
  have HB2 := Lib.hid (bt HB1.out (bt hb2 ha2))
  have HE2 := Lib.hid ((HE1.out.below hb2).below ha2)
  have HK2 := Lib.hid (hok2.below ha2)
  have HN2 := Lib.hid hn2
  clear hb2 ha2 hok2 hn2 HB1 HE1
  generalize w2.alloc _ = X2 at HA HC HB2 HE2 HK2 HN2 ⊢
  generalize w2.heap.size = b2 at HN2 ⊢
  go_upto_region 4 with (go_at_call 17; refine (pv_at fr2 _ rfl (by decide) _ HE2.out 2 0 0 3 2 0 0 0 [] [] 0 0 rfl rfl 0 fr2_p).mono ?_; rintro e w3 ⟨A3, c3, D3, d3, rfl, hok3, hb3⟩)
  have ha3 := al w3 (.cells #[.int .i64 2, .int .i64 0, .int .i64 0, .int .i64 3, .int .i64 2, .int .i64 0, .int .i64 0, .int .i64 0, .slice A3 0 c3, .slice D3 0 d3] 28)
  have hn3 := b10_new w3 2 0 0 3 2 0 0 0 (.slice A3 0 c3) (.slice D3 0 d3)
  replace HA := Lib.hid ((HA.out.below hb3).below ha3)
  replace HC := Lib.hid ((HC.out.below hb3).below ha3)
  replace HK2 := Lib.hid ((HK2.out.below hb3).below ha3)
  replace HN2 := Lib.hid ((HN2.out.below hb3).below ha3)
  have HB3 := Lib.hid (bt HB2.out (bt hb3 ha3))
  have HE3 := Lib.hid ((HE2.out.below hb3).below ha3)
  have HK3 := Lib.hid (hok3.below ha3)
  have HN3 := Lib.hid hn3
  clear hb3 ha3 hok3 hn3 HB2 HE2
  generalize w3.alloc _ = X3 at HA HC HK2 HN2 HB3 HE3 HK3 HN3 ⊢
  generalize w3.heap.size = b3 at HN3 ⊢
  go_upto_region 5 with (go_at_call 17; refine (pv_at fr3 _ rfl (by decide) _ HE3.out 0 0 0 0 0 0 0 0 [] [] 0 0 rfl rfl 8 fr3_p).mono ?_; rintro e w4 ⟨A4, c4, D4, d4, rfl, hok4, hb4⟩)
  have ha4 := al w4 (.cells #[.int .i64 0, .int .i64 0, .int .i64 0, .int .i64 0, .int .i64 0, .int .i64 0, .int .i64 0, .int .i64 0, .slice A4 0 c4, .slice D4 0 d4] 28)
  have hn4 := b10_new w4 0 0 0 0 0 0 0 0 (.slice A4 0 c4) (.slice D4 0 d4)
  replace HA := Lib.hid ((HA.out.below hb4).below ha4)
  replace HC := Lib.hid ((HC.out.below hb4).below ha4)
  replace HK2 := Lib.hid ((HK2.out.below hb4).below ha4)
  replace HN2 := Lib.hid ((HN2.out.below hb4).below ha4)
  replace HK3 := Lib.hid ((HK3.out.below hb4).below ha4)
  replace HN3 := Lib.hid ((HN3.out.below hb4).below ha4)
  have HB4 := Lib.hid (bt HB3.out (bt hb4 ha4))
  have HE4 := Lib.hid ((HE3.out.below hb4).below ha4)
  have HK4 := Lib.hid (hok4.below ha4)
  have HN4 := Lib.hid hn4
  clear hb4 ha4 hok4 hn4 HB3 HE3
  generalize w4.alloc _ = X4 at HA HC HK2 HN2 HK3 HN3 HB4 HE4 HK4 HN4 ⊢
  generalize w4.heap.size = b4 at HN4 ⊢
  clear HK4 HN4
  go_upto_region 6 with (go_at_call 17; refine (pv_at fr4 _ rfl (by decide) _ HE4.out 1 5 12 0 0 0 0 0 [] [] 0 0 rfl rfl 0 fr4_p).mono ?_; rintro e w5 ⟨A5, c5, D5, d5, rfl, hok5, hb5⟩)
  have ha5 := al w5 (.cells #[.int .i64 1, .int .i64 5, .int .i64 12, .int .i64 0, .int .i64 0, .int .i64 0, .int .i64 0, .int .i64 0, .slice A5 0 c5, .slice D5 0 d5] 28)
  have hn5 := b10_new w5 1 5 12 0 0 0 0 0 (.slice A5 0 c5) (.slice D5 0 d5)
  replace HA := Lib.hid ((HA.out.below hb5).below ha5)
  replace HC := Lib.hid ((HC.out.below hb5).below ha5)
  replace HK2 := Lib.hid ((HK2.out.below hb5).below ha5)
  replace HN2 := Lib.hid ((HN2.out.below hb5).below ha5)
  replace HK3 := Lib.hid ((HK3.out.below hb5).below ha5)
  replace HN3 := Lib.hid ((HN3.out.below hb5).below ha5)
  have HB5 := Lib.hid (bt HB4.out (bt hb5 ha5))
  have HE5 := Lib.hid ((HE4.out.below hb5).below ha5)
  have HK5 := Lib.hid (hok5.below ha5)
  have HN5 := Lib.hid hn5
  clear hb5 ha5 hok5 hn5 HB4 HE4
  generalize w5.alloc _ = X5 at HA HC HK2 HN2 HK3 HN3 HB5 HE5 HK5 HN5 ⊢
  generalize w5.heap.size = b5 at HN5 ⊢
  clear HK5
  go_upto_region 7 with (go_at_call 17; refine (pv_at fr5 _ rfl (by decide) _ HE5.out 4 0 0 0 0 0 0 0 [] [] 0 0 rfl rfl 0 fr5_p).mono ?_; rintro e w6 ⟨A6, c6, D6, d6, rfl, hok6, hb6⟩)
  have ha6 := al w6 (.cells #[.int .i64 4, .int .i64 0, .int .i64 0, .int .i64 0, .int .i64 0, .int .i64 0, .int .i64 0, .int .i64 0, .slice A6 0 c6, .slice D6 0 d6] 28)
  have hn6 := b10_new w6 4 0 0 0 0 0 0 0 (.slice A6 0 c6) (.slice D6 0 d6)
  replace HA := Lib.hid ((HA.out.below hb6).below ha6)
  replace HC := Lib.hid ((HC.out.below hb6).below ha6)
  replace HK2 := Lib.hid ((HK2.out.below hb6).below ha6)
  replace HN2 := Lib.hid ((HN2.out.below hb6).below ha6)
  replace HK3 := Lib.hid ((HK3.out.below hb6).below ha6)
  replace HN3 := Lib.hid ((HN3.out.below hb6).below ha6)
  replace HN5 := Lib.hid ((HN5.out.below hb6).below ha6)
  have HB6 := Lib.hid (bt HB5.out (bt hb6 ha6))
  have HE6 := Lib.hid ((HE5.out.below hb6).below ha6)
  have HK6 := Lib.hid (hok6.below ha6)
  have HN6 := Lib.hid hn6
  clear hb6 ha6 hok6 hn6 HB5 HE5
  generalize w6.alloc _ = X6 at HA HC HK2 HN2 HK3 HN3 HN5 HB6 HE6 HK6 HN6 ⊢
  generalize w6.heap.size = b6 at HN6 ⊢
  clear HK6
  have UHA : Hid (∀ u, Below X6.heap.size X6 u → VdOk u frA (.slice (some ⟨w.heap.size, 0, none⟩) 1 1) (.slice (some ⟨w.heap.size + 1, 0, none⟩) 1 1)) := fun u hu => HA.out.below hu
  have UHC : Hid (∀ u, Below X6.heap.size X6 u → B10 u b1 3 0 0 0 0 3 1 0 (.slice (some ⟨w.heap.size, 0, none⟩) 1 1) (.slice (some ⟨w.heap.size + 1, 0, none⟩) 1 1)) := fun u hu => HC.out.below hu
  have UHK2 : Hid (∀ u, Below X6.heap.size X6 u → VdOk u frA (.slice A2 1 c2) (.slice D2 1 d2)) := fun u hu => HK2.out.below hu
  have UHN2 : Hid (∀ u, Below X6.heap.size X6 u → B10 u b2 3 0 0 0 0 3 1 0 (.slice A2 1 c2) (.slice D2 1 d2)) := fun u hu => HN2.out.below hu
  have UHK3 : Hid (∀ u, Below X6.heap.size X6 u → VdOk u frX (.slice A3 0 c3) (.slice D3 0 d3)) := fun u hu => HK3.out.below hu
  have UHN3 : Hid (∀ u, Below X6.heap.size X6 u → B10 u b3 2 0 0 3 2 0 0 0 (.slice A3 0 c3) (.slice D3 0 d3)) := fun u hu => HN3.out.below hu
  have UHN5 : Hid (∀ u, Below X6.heap.size X6 u → B10 u b5 1 5 12 0 0 0 0 0 (.slice A5 0 c5) (.slice D5 0 d5)) := fun u hu => HN5.out.below hu
  have UHN6 : Hid (∀ u, Below X6.heap.size X6 u → B10 u b6 4 0 0 0 0 0 0 0 (.slice A6 0 c6) (.slice D6 0 d6)) := fun u hu => HN6.out.below hu
  have UE : Hid (∀ u, Below X6.heap.size X6 u → Env u) := fun u hu => HE6.out.below hu
  clear HA HC HK2 HN2 HK3 HN3 HN5 HN6
  go_wp2_with (first
    | (go_at_call 17; refine (pv_at fr6 _ rfl (by decide) _ HE6.out 0 0 0 0 0 0 0 0 [] [] 0 0 rfl rfl 8 fr6_p).mono ?_; rintro e w7 ⟨A7, c7, D7, d7, rfl, hok7, hb7⟩; have h7 : Below X6.heap.size X6 (w7.alloc (.cells #[.int .i64 0, .int .i64 0, .int .i64 0, .int .i64 0, .int .i64 0, .int .i64 0, .int .i64 0, .int .i64 0, .slice A7 0 c7, .slice D7 0 d7] 28)) := bt hb7 (al _ _); clear hok7 hb7; obtain ⟨p0, p1, p2, p3, p4, p5, p6, p7, p8, p9⟩ := UHC.out _ h7; obtain ⟨q0, q1, q2, q3, q4, q5, q6, q7, q8, q9⟩ := UHN2.out _ h7)
    | (go_at_call 14; (with_reducible refine (fa_same _ _ _ _ _ (UHA.out _ h7) (UHK2.out _ h7)).mono ?_); rintro e w8 ⟨rfl, hb8⟩; have h8 := bt h7 hb8; clear hb8 h7 p0 p1 p2 p3 p4 p5 p6 p7 p8 p9 q0 q1 q2 q3 q4 q5 q6 q7 q8 q9; obtain ⟨p0, p1, p2, p3, p4, p5, p6, p7, p8, p9⟩ := UHC.out _ h8)
    | (go_at_call 12; (with_reducible refine (fa_show _ _ _ (UHA.out _ h8) (UE.out _ h8)).mono ?_); rintro e w9 ⟨rfl, hb9⟩; have h9 := bt h8 hb9; clear hb9 h8 p0 p1 p2 p3 p4 p5 p6 p7 p8 p9; obtain ⟨p0, p1, p2, p3, p4, p5, p6, p7, p8, p9⟩ := UHN3.out _ h9)
    | (go_at_call 14; (with_reducible refine (fa_same2 _ _ _ (UHK3.out _ h9)).mono ?_); rintro e w10 ⟨rfl, hb10⟩; have h10 := bt h9 hb10; clear hb10 h9 p0 p1 p2 p3 p4 p5 p6 p7 p8 p9; have y1 := (UHN5.out _ h10).c1; have y2 := (UHN5.out _ h10).c2; have z0 := (UHN6.out _ h10).c0; obtain ⟨p0, p1, p2, p3, p4, p5, p6, p7, p8, p9⟩ := UHC.out _ h10)
    | (go_at_call 10; (with_reducible refine (fa_right _ _ _ (UHA.out _ h10)).mono ?_); rintro e w11 ⟨rfl, hb11⟩; have h11 := bt h10 hb11; clear hb11 h10 p0 p1 p2 p3 p4 p5 p6 p7 p8 p9 y1 y2 z0)
    | (go_at_call 10; (with_reducible refine (fa_right0 _).mono ?_); rintro e w12 ⟨rfl, hb12⟩; have h12 := bt h11 hb12; clear hb12 h11; obtain ⟨p0, p1, p2, p3, p4, p5, p6, p7, p8, p9⟩ := UHC.out _ h12; obtain ⟨q0, q1, q2, q3, q4, q5, q6, q7, q8, q9⟩ := UHN3.out _ h12)
    | (go_at_call 14; (with_reducible refine (fa_same3 _ _ _ _ _ (UHA.out _ h12) (UHK3.out _ h12)).mono ?_); rintro e w13 ⟨rfl, hb13⟩; have h13 := bt h12 hb13; clear hb13 h12 p0 p1 p2 p3 p4 p5 p6 p7 p8 p9 q0 q1 q2 q3 q4 q5 q6 q7 q8 q9)
    | (go_at_call 19; (with_reducible refine (fa_counts _ (UE.out _ h13)).mono ?_); rintro e w14 ⟨rfl, hb14⟩; have h14 := bt h13 hb14; clear hb14 h13))
  go_ret
  exact ⟨rfl, bt HB6.out h14⟩
end Go.Proofs.YtcgcndmlgfnjbaaGreatDoor
/- A verdict cut to what the statements ask for: the walk. -/
namespace Go.Proofs.YtcgcndmlgfnjbaaGreatDoor
open Go Go.RowKit
set_option linter.unusedVariables false
def cutV (v : Vd) : Vd := ⟨v.kind, v.e, v.pos, v.paths, v.ends, ⟨v.bad.kind, v.bad.what, v.bad.crashes, v.bad.cells.take 30⟩, cutPs v.sched⟩
/-- a verdict as it is handed in -/
structure VdIn (w : World) (v : Vd) (cv sv : Value) : Prop where
  cells : Zs w cv v.bad.cells
  sched : Pks w sv v.sched
  lc : v.bad.cells.length ≤ 9223372036854775807
  ls : v.sched.length ≤ 9223372036854775807
  lp : ∀ x ∈ v.sched, x.cut.length ≤ 9223372036854775807
  nums : VdNums v
theorem VdIn.below {w w' : World} {v : Vd} {cv sv : Value} (h : VdIn w v cv sv) (hb : Below w.heap.size w w') : VdIn w' v cv sv := ⟨SlN.below h.cells hb, h.sched.below hb, h.lc, h.ls, h.lp, h.nums⟩
theorem cut_nums {v : Vd} (h : VdNums v) : VdNums (cutV v) := fun n hn => h n (List.mem_of_mem_take hn)
theorem cut_take (l : List Int) : (l.take 30).length = min l.length 30 := by rw [List.length_take]; omega
theorem cut_ok {w : World} {v : Vd} {A1 : Option Addr} {k1 : Nat} {sv : Value} (hv : VdIn w v (.slice A1 v.bad.cells.length k1) sv) {W : World} (hb : Below w.heap.size w W) {s' : Value} (hp : Pks W s' (cutPs v.sched)) : VdOk W (cutV v) (.slice A1 (cutV v).bad.cells.length k1) s' := by
  refine ⟨?_, hp, ?_, ?_, ?_⟩
  · show SlN W (.slice A1 (v.bad.cells.take 30).length k1) 1 (v.bad.cells.take 30).length ((v.bad.cells.take 30).flatMap zCell)
    have h := zs_take (SlN.below hv.cells hb) (k := (v.bad.cells.take 30).length) (by rw [cut_take]; omega)
    have e : v.bad.cells.take (v.bad.cells.take 30).length = v.bad.cells.take 30 := by
      rw [cut_take]
      by_cases h : v.bad.cells.length ≤ 30
      · rw [List.take_of_length_le h, List.take_of_length_le (by omega)]
      · rw [show min v.bad.cells.length 30 = 30 by omega]
    rw [e] at h
    exact h
  · show (v.bad.cells.take 30).length ≤ _
    rw [cut_take]; omega
  · show (cutPs v.sched).length ≤ _
    have := cutPs_len v.sched; omega
  · intro x hx
    have := cutPs_cut v.sched x hx; omega
set_option maxRecDepth 100000 in
set_option maxHeartbeats 8000000 in
theorem cutV_c (v : Vd) (A1 A2 : Option Addr) (k1 k2 : Nat) (w : World) (hv : VdIn w v (.slice A1 v.bad.cells.length k1) (.slice A2 v.sched.length k2)) :
    Calls Tryz.prog 9 #[vdV v (.slice A1 v.bad.cells.length k1) (.slice A2 v.sched.length k2)] w fun e w' => ∃ A c, e = .returned (vdV (cutV v) (.slice A1 (cutV v).bad.cells.length k1) (.slice A (cutV v).sched.length c)) ∧ Off (Old w.heap.size) w' (fun u => Pks u (.slice A (cutV v).sched.length c) (cutV v).sched) ∧ Below w.heap.size w w' := by
  obtain ⟨vk, ve, vp, vpa, ven, ⟨bk, bw, bc, bl⟩, vs⟩ := v
  have hk1 : bl.length ≤ k1 := by obtain ⟨A, c, e, h⟩ := hv.cells.shape; cases e; exact h
  have hk2 : vs.length ≤ k2 := by obtain ⟨A, c, e, h⟩ := hv.sched.shape; cases e; exact h
  have HV := Lib.hid hv
  have HCU : Hid (∀ u, Below w.heap.size w u → Calls Tryz.prog 22 #[.slice A2 vs.length k2] u fun e w' => ∃ A c, e = .returned (.slice A (cutPs vs).length c) ∧ Off (Old u.heap.size) w' (fun x => Pks x (.slice A (cutPs vs).length c) (cutPs vs)) ∧ Below u.heap.size u w') := fun u hu => pCut_c vs hv.ls hv.lp _ u (hv.below hu).sched
  clear hv
  obtain ⟨k, hk⟩ : ∃ k : Nat, k = min bl.length 30 := ⟨_, rfl⟩
  have hmin : min (bl.length : Int) 30 = (k : Int) := by omega
  have hk0 : (0 : Int) ≤ (k : Int) := Int.natCast_nonneg _
  have hkk : (k : Int) ≤ (k1 : Int) := by omega
  have HK := Lib.hid hk
  clear hk
  have hQ := vdBox_new w ⟨vk, ve, vp, vpa, ven, ⟨bk, bw, bc, bl⟩, vs⟩ (.slice A1 bl.length k1) (.slice A2 vs.length k2)
  have HA := al w (.cells (vdA ⟨vk, ve, vp, vpa, ven, ⟨bk, bw, bc, bl⟩, vs⟩ (.slice A1 bl.length k1) (.slice A2 vs.length k2)) 28)
  have hsz : (w.alloc (.cells (vdA ⟨vk, ve, vp, vpa, ven, ⟨bk, bw, bc, bl⟩, vs⟩ (.slice A1 bl.length k1) (.slice A2 vs.length k2)) 28)).heap.size = w.heap.size + 1 := World.size_alloc _ _
  unfold vdV
  simp only
  unfold vdA at hQ HA hsz
  simp only at hQ HA hsz
  go_enter Tryz.func9, Tryz.ntmps9
  go_upto_region 1 with fail
  generalize w.alloc _ = V at hQ HA hsz ⊢
  have hR := vdBox_new V zeroV (.slice none 0 0) (.slice none 0 0)
  have HB := al V (.cells (vdA zeroV (.slice none 0 0) (.slice none 0 0)) 28)
  rw [hsz] at hR
  unfold vdA zeroV zeroE at hR HB
  simp only at hR HB
  have HQ := Lib.hid (hQ.below HB)
  have HAB := Lib.hid (bt HA HB)
  clear hQ HA HB
  generalize V.alloc _ = X at HQ hR HAB ⊢
  have HR := Lib.hid hR
  clear hR hsz
  obtain ⟨g0, g1, g2, g3, g4, g5, g6, g7, g8, g9⟩ := HQ.out.at_
  have f8 := HQ.out.frz 8
  have f9 := HQ.out.frz 9
  go_upto_region 2 with fail
  have HQ2 : Hid (VdBox (X.setCell ⟨w.heap.size, 8, none⟩ (.slice A1 k k1)) w.heap.size ⟨vk, ve, vp, vpa, ven, ⟨bk, bw, bc, bl.take k⟩, vs⟩ (.slice A1 k k1) (.slice A2 vs.length k2)) := ⟨HQ.out.at_.set8 _ _, fun j => by simpa using HQ.out.frz j⟩
  have HB2 : Hid (Below w.heap.size w (X.setCell ⟨w.heap.size, 8, none⟩ (.slice A1 k k1))) := below_set HAB.out (Nat.le_refl _) _
  have HRU2 : VdBox (X.setCell ⟨w.heap.size, 8, none⟩ (.slice A1 k k1)) (w.heap.size + 1) ⟨0, 0, 0, 0, 0, ⟨0, 0, 0, []⟩, []⟩ (.slice none 0 0) (.slice none 0 0) := ⟨HR.out.at_.other (by omega), fun j => by simpa using HR.out.frz j⟩
  have HSZ : Hid (w.heap.size + 1 < (X.setCell ⟨w.heap.size, 8, none⟩ (.slice A1 k k1)).heap.size) := HRU2.at_.lt
  clear HQ HR HAB g0 g1 g2 g3 g4 g5 g6 g7 g8 g9 f8 f9
  generalize World.setCell _ _ _ = Y at HQ2 HB2 HRU2 HSZ ⊢
  have HRU : Hid (∀ u, Below Y.heap.size Y u → VdBox u (w.heap.size + 1) ⟨0, 0, 0, 0, 0, ⟨0, 0, 0, []⟩, []⟩ (.slice none 0 0) (.slice none 0 0)) := fun u hu => HRU2.below hu
  have HQU : Hid (∀ u, Below Y.heap.size Y u → VdBox u w.heap.size ⟨vk, ve, vp, vpa, ven, ⟨bk, bw, bc, bl.take k⟩, vs⟩ (.slice A1 k k1) (.slice A2 vs.length k2)) := fun u hu => HQ2.out.below hu
  clear HRU2
  have p9 := HQ2.out.at_.c9
  go_wp2_with (go_at_call 22; refine (HCU.out _ HB2.out).mono ?_; rintro e w3 ⟨A3, k3, rfl, hp3, hb3⟩; obtain ⟨g0, g1, g2, g3, g4, g5, g6, g7, g8, g9⟩ := (HQU.out _ hb3).at_; have e9 := (HQU.out _ hb3).frz 9; obtain ⟨r0, r1, r2, r3, r4, r5, r6, r7, r8, r9⟩ := (HRU.out _ hb3).at_; have f0 := (HRU.out _ hb3).frz 0; have f1 := (HRU.out _ hb3).frz 1; have f2 := (HRU.out _ hb3).frz 2; have f3 := (HRU.out _ hb3).frz 3; have f4 := (HRU.out _ hb3).frz 4; have f5 := (HRU.out _ hb3).frz 5; have f6 := (HRU.out _ hb3).frz 6; have f7 := (HRU.out _ hb3).frz 7; have f8 := (HRU.out _ hb3).frz 8; have f9 := (HRU.out _ hb3).frz 9)
  refine bodyPost_ret (v := vdV ⟨vk, ve, vp, vpa, ven, ⟨bk, bw, bc, bl.take k⟩, cutPs vs⟩ (.slice A1 k k1) (.slice A3 (cutPs vs).length k3)) (by simp [results, Tryz.results9, go_sem, vdV, World.cell?_setCell_other, World.cell?_setCell_same', r0, r1, r2, r3, r4, r5, r6, r7, r8, r9]; try rfl) rfl ?_
  have hlk : (bl.take 30).length = k := by rw [cut_take]; exact HK.out.symm
  have hcl : (cutV ⟨vk, ve, vp, vpa, ven, ⟨bk, bw, bc, bl⟩, vs⟩).bad.cells.length = k := hlk
  refine ⟨A3, k3, ?_, ?_, ?_⟩
  · rw [hcl]; rfl
  · exact ((((((((((((hp3.setCell ⟨w.heap.size, 9, none⟩ (by show w.heap.size < Y.heap.size; have := HSZ.out; omega) _).setCell ⟨w.heap.size + 1, 0, none⟩ (by show w.heap.size + 1 < Y.heap.size; have := HSZ.out; omega) _).setCell ⟨w.heap.size + 1, 1, none⟩ (by show w.heap.size + 1 < Y.heap.size; have := HSZ.out; omega) _).setCell ⟨w.heap.size + 1, 2, none⟩ (by show w.heap.size + 1 < Y.heap.size; have := HSZ.out; omega) _).setCell ⟨w.heap.size + 1, 3, none⟩ (by show w.heap.size + 1 < Y.heap.size; have := HSZ.out; omega) _).setCell ⟨w.heap.size + 1, 4, none⟩ (by show w.heap.size + 1 < Y.heap.size; have := HSZ.out; omega) _).setCell ⟨w.heap.size + 1, 5, none⟩ (by show w.heap.size + 1 < Y.heap.size; have := HSZ.out; omega) _).setCell ⟨w.heap.size + 1, 6, none⟩ (by show w.heap.size + 1 < Y.heap.size; have := HSZ.out; omega) _).setCell ⟨w.heap.size + 1, 7, none⟩ (by show w.heap.size + 1 < Y.heap.size; have := HSZ.out; omega) _).setCell ⟨w.heap.size + 1, 8, none⟩ (by show w.heap.size + 1 < Y.heap.size; have := HSZ.out; omega) _).setCell ⟨w.heap.size + 1, 9, none⟩ (by show w.heap.size + 1 < Y.heap.size; have := HSZ.out; omega) _)).mono (fun q _ hq => by have h1 : q < w.heap.size := hq; show q < Y.heap.size; have := HSZ.out; omega)
  · exact (below_set (below_set (below_set (below_set (below_set (below_set (below_set (below_set (below_set (below_set (below_set (bt HB2.out hb3) (Nat.le_refl _) _) (Nat.le_succ _) _) (Nat.le_succ _) _) (Nat.le_succ _) _) (Nat.le_succ _) _) (Nat.le_succ _) _) (Nat.le_succ _) _) (Nat.le_succ _) _) (Nat.le_succ _) _) (Nat.le_succ _) _) (Nat.le_succ _) _)
end Go.Proofs.YtcgcndmlgfnjbaaGreatDoor

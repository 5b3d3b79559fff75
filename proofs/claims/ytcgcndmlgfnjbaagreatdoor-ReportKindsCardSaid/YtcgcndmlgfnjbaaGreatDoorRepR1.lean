/- The laws on verdicts: parsing; counting: the walks. -/
import Derived.Test.YtcgcndmlgfnjbaaGreatDoorRepO1
import Derived.Test.YtcgcndmlgfnjbaaGreatDoorSchApp
namespace Go.Proofs.YtcgcndmlgfnjbaaGreatDoor
open Go Go.RowKit
set_option linter.unusedVariables false
set_option maxRecDepth 100000 in
set_option maxHeartbeats 8000000 in
theorem lawParses_c (s : ByteArray) (hz : s.size ≤ 9223372036854775807) (w : World) (hE : Env w) :
    Calls Tryz.prog 4 #[.string s] w (Yes w) := by
  have HE := Lib.hid hE
  clear hE
  go_enter Tryz.func4, Tryz.ntmps4
  go_upto_region 2 with fail
  have ht := cut_size s 1500
  simp only [Int.cast_ofNat_Int] at ht
  generalize s.extract 0 (min (s.size : Int) 1500).toNat = t at ht ⊢
  have HPP : Hid (∀ u, Env u → Calls Tryz.prog 17 #[.string t] u (PvPost (parseV kindP t.data.toList) u)) := fun u hu => by
    have h := pParseV_c t.data.toList (by rw [data_len]; omega) u hu
    rw [str_of] at h
    exact h
  have HPR : Hid (∀ u, Env u → Calls Tryz.prog 18 #[.string t] u (PvPost (parseV kindP t.data.toList) u)) := fun u hu => by
    have h := rParseV_c t.data.toList (by rw [data_len]; omega) u hu
    rw [str_of, ← parse_alike] at h
    exact h
  generalize parseV kindP t.data.toList = R at HPP HPR
  obtain ⟨v, er⟩ := R
  go_upto_region 3 with (go_at_call 17; refine (HPP.out _ HE.out).mono ?_; rintro e w1 ⟨cv, sv, rfl, hok1, hnm, hb1⟩; obtain ⟨A1, k1, rfl, _⟩ := hok1.now.cells.shape; obtain ⟨A2, k2, rfl, _⟩ := hok1.now.sched.shape; unfold vdV)
  have hq1 := vdBox_new w1 v (.slice A1 v.bad.cells.length k1) (.slice A2 v.sched.length k2)
  have ha1 := al w1 (.cells (vdA v (.slice A1 v.bad.cells.length k1) (.slice A2 v.sched.length k2)) 28)
  have HO1 := Lib.hid (hok1.now.below ha1)
  have HB1 := Lib.hid (bt hb1 ha1)
  clear hok1 hb1 hnm
  unfold vdA at hq1 ha1 HO1 HB1
  generalize w1.alloc _ = X at hq1 ha1 HO1 HB1 ⊢
  have HQ1 := Lib.hid hq1
  have HE1 := Lib.hid (HE.out.below HB1.out)
  clear hq1 ha1
  go_upto_region 4 with (go_at_call 18; refine (HPR.out _ HE1.out).mono ?_; rintro e w2 ⟨cv2, sv2, rfl, hok2, hnm, hb2⟩; obtain ⟨A3, k3, rfl, _⟩ := hok2.now.cells.shape; obtain ⟨A4, k4, rfl, _⟩ := hok2.now.sched.shape; unfold vdV)
  have hq2 := vdBox_new w2 v (.slice A3 v.bad.cells.length k3) (.slice A4 v.sched.length k4)
  have ha2 := al w2 (.cells (vdA v (.slice A3 v.bad.cells.length k3) (.slice A4 v.sched.length k4)) 28)
  have HO2 := Lib.hid (hok2.now.below ha2)
  have HO3 := Lib.hid ((HO1.out.below hb2).below ha2)
  have HQ3 := Lib.hid ((HQ1.out.below hb2).below ha2)
  have HB2 := Lib.hid (bt HB1.out (bt hb2 ha2))
  clear hok2 hb2 hnm HQ1 HB1 HO1 HE1 HPP HPR
  unfold vdA at hq2 ha2 HO2 HB2 HO3 HQ3
  generalize w2.alloc _ = Y at hq2 ha2 HO2 HB2 HO3 HQ3 ⊢
  have HSM := Lib.hid (rSameV_c v v _ _ _ _ Y HO3.out HO2.out)
  rw [decide_eq_true rfl] at HSM
  unfold vdV at HSM
  have HFX := Lib.hid (fun u (hu : Below Y.heap.size Y u) => fixed_c u (HE.out.below (bt HB2.out hu)))
  obtain ⟨p0, p1, p2, p3, p4, p5, p6, p7, p8, p9⟩ := HQ3.out.at_
  obtain ⟨q0, q1, q2, q3, q4, q5, q6, q7, q8, q9⟩ := hq2.at_
  clear hq2 ha2
  go_wp2_with (first
    | (go_at_call 15; (with_reducible refine (HSM.out).mono ?_); rintro e w3 ⟨rfl, hb3⟩)
    | (go_at_call 16; refine (HFX.out _ hb3).mono ?_; rintro e w4 ⟨rfl, hb4⟩))
  go_ret
  exact ⟨rfl, bt HB2.out (bt hb3 hb4)⟩
/-- a result as it is handed in -/
theorem ends_take {w : World} {A : Option Addr} {c k : Nat} {l : List Ev} (h : Ends w (.slice A l.length c) l) (hk : k ≤ l.length) : Ends w (.slice A k c) (l.take k) := by
  obtain ⟨hl, A', c', hv, hc, hf⟩ := h
  cases hv
  have hlk : (l.take k).length = k := by rw [List.length_take]; omega
  unfold Ends
  rw [hlk]
  refine ⟨by rw [flat_length Ev.cells 4 (fun _ => rfl), hlk], A, c, rfl, by omega, fun h0 => ?_⟩
  obtain ⟨b, off, hA, hlt, hcell⟩ := hf (by omega)
  refine ⟨b, off, hA, hlt, fun j u hj => hcell j u ?_⟩
  have h2 : l.flatMap Ev.cells = (l.take k).flatMap Ev.cells ++ (l.drop k).flatMap Ev.cells := by rw [← List.flatMap_append, List.take_append_drop]
  rw [h2, List.getElem?_append_left (List.getElem?_eq_some_iff.1 hj).1]
  exact hj
set_option maxRecDepth 100000 in
set_option maxHeartbeats 8000000 in
theorem lawCounts_c (l : List Ev) (hl : l.length ≤ 9223372036854775807) (p : Int) (hp : I64 p) (b : En) (ev bv sv : Value) (hbv : ∃ A n c, bv = .slice A n c) (hsv : ∃ A n c, sv = .slice A n c) (w : World) (hv : Ends w ev l) (hE : Env w) :
    Calls Tryz.prog 6 #[reV ev p b bv sv] w (Yes w) := by
  obtain ⟨A1, n1, m1, rfl⟩ := hbv
  obtain ⟨A2, n2, m2, rfl⟩ := hsv
  obtain ⟨_, A0, c0, rfl, hc0, _⟩ := id hv
  have HV := Lib.hid hv
  have HE := Lib.hid hE
  obtain ⟨k, hk⟩ : ∃ k : Nat, k = min l.length 60 := ⟨_, rfl⟩
  have hmin : min (l.length : Int) 60 = (k : Int) := by omega
  have hk0 : (0 : Int) ≤ (k : Int) := Int.natCast_nonneg _
  have hkk : (k : Int) ≤ (c0 : Int) := by omega
  have HK := Lib.hid hk
  clear hk hv hE
  unfold reV
  go_enter Tryz.func6, Tryz.ntmps6
  go_upto_region 2 with fail
  have ha := al w (.cells #[.slice A0 k c0, .int .i64 p, .int .i64 b.kind, .int .i64 b.what, .int .i64 b.crashes, .slice A1 n1 m1, .slice A2 n2 m2] 40)
  have hq : ∀ u, Below (w.alloc (.cells #[.slice A0 k c0, .int .i64 p, .int .i64 b.kind, .int .i64 b.what, .int .i64 b.crashes, .slice A1 n1 m1, .slice A2 n2 m2] 40)).heap.size (w.alloc (.cells #[.slice A0 k c0, .int .i64 p, .int .i64 b.kind, .int .i64 b.what, .int .i64 b.crashes, .slice A1 n1 m1, .slice A2 n2 m2] 40)) u → u.cell? ⟨w.heap.size, 0, none⟩ = some (.slice A0 k c0) ∧ u.cell? ⟨w.heap.size, 1, none⟩ = some (.int .i64 p) ∧ u.cell? ⟨w.heap.size, 2, none⟩ = some (.int .i64 b.kind) ∧ u.cell? ⟨w.heap.size, 3, none⟩ = some (.int .i64 b.what) ∧ u.cell? ⟨w.heap.size, 4, none⟩ = some (.int .i64 b.crashes) ∧ u.cell? ⟨w.heap.size, 5, none⟩ = some (.slice A1 n1 m1) ∧ u.cell? ⟨w.heap.size, 6, none⟩ = some (.slice A2 n2 m2) := fun u hu => by
    have h0 := fun j x (h : (#[.slice A0 k c0, .int .i64 p, .int .i64 b.kind, .int .i64 b.what, .int .i64 b.crashes, .slice A1 n1 m1, .slice A2 n2 m2] : Array Value)[j]? = some x) => (hu.cell (p := ⟨w.heap.size, j, none⟩) (by simp only; rw [World.size_alloc]; omega)).trans (cells_new w #[.slice A0 k c0, .int .i64 p, .int .i64 b.kind, .int .i64 b.what, .int .i64 b.crashes, .slice A1 n1 m1, .slice A2 n2 m2] 40 j x h)
    exact ⟨h0 0 _ rfl, h0 1 _ rfl, h0 2 _ rfl, h0 3 _ rfl, h0 4 _ rfl, h0 5 _ rfl, h0 6 _ rfl⟩
  have HEN := Lib.hid (SlN.below (ends_take HV.out (k := k) (by have := HK.out; omega)) ha)
  have HBX := Lib.hid ha
  have HQ := Lib.hid hq
  clear ha hq HV
  generalize w.alloc _ = X at HEN HBX HQ ⊢
  have hlk : (l.take k).length = k := by rw [List.length_take]; have := HK.out; omega
  have HCP : Hid (∀ u, Below X.heap.size X u → Calls Tryz.prog 19 #[reV (.slice A0 k c0) p b (.slice A1 n1 m1) (.slice A2 n2 m2)] u fun e w' => e = .returned (.string (str (countsK (ksE (l.take k)) p))) ∧ Below u.heap.size u w') := fun u hu => pCounts_c (l.take k) (by have := HK.out; omega) p hp b _ _ _ u (SlN.below HEN.out hu) (HE.out.below (bt HBX.out hu))
  have HCR : Hid (∀ u, Below X.heap.size X u → Calls Tryz.prog 20 #[reV (.slice A0 k c0) p b (.slice A1 n1 m1) (.slice A2 n2 m2)] u fun e w' => e = .returned (.string (str (countsK (ksE (l.take k)) p))) ∧ Below u.heap.size u w') := fun u hu => rCounts_c (l.take k) (by have := HK.out; omega) p hp b _ _ _ u (SlN.below HEN.out hu)
  unfold reV at HCP HCR
  generalize str (countsK (ksE (l.take k)) p) = S at HCP HCR
  have HFX := Lib.hid (fun u (hu : Below X.heap.size X u) => fixed_c u (HE.out.below (bt HBX.out hu)))
  obtain ⟨q0, q1, q2, q3, q4, q5, q6⟩ := HQ.out X (Below.refl _ _)
  clear HEN hlk
  go_region_held3 (fun u => u.cell? ⟨w.heap.size, 0, none⟩ = some (.slice A0 k c0) ∧ u.cell? ⟨w.heap.size, 1, none⟩ = some (.int .i64 p) ∧ u.cell? ⟨w.heap.size, 2, none⟩ = some (.int .i64 b.kind) ∧ u.cell? ⟨w.heap.size, 3, none⟩ = some (.int .i64 b.what) ∧ u.cell? ⟨w.heap.size, 4, none⟩ = some (.int .i64 b.crashes) ∧ u.cell? ⟨w.heap.size, 5, none⟩ = some (.slice A1 n1 m1) ∧ u.cell? ⟨w.heap.size, 6, none⟩ = some (.slice A2 n2 m2))
    (exact HQ.out _ (by repeat (first | exact Below.refl _ _ | assumption | refine bdrN ?_ _ | refine bdr ?_)))
    (first
      | (go_at_call 19; (with_reducible refine (HCP.out _ (by repeat (first | exact Below.refl _ _ | assumption | refine bdrN ?_ _ | refine bdr ?_))).mono ?_); rintro e w3 ⟨rfl, hb3⟩; have h3 : Below X.heap.size X w3 := bt (by repeat (first | exact Below.refl _ _ | assumption | refine bdrN ?_ _ | refine bdr ?_)) hb3; clear hb3)
      | (go_at_call 20; (with_reducible refine (HCR.out _ (by repeat (first | exact Below.refl _ _ | assumption | refine bdrN ?_ _ | refine bdr ?_))).mono ?_); rintro e w4 ⟨rfl, hb4⟩; have h4 : Below X.heap.size X w4 := bt (by repeat (first | exact Below.refl _ _ | assumption | refine bdrN ?_ _ | refine bdr ?_)) hb4; clear hb4)
      | (go_at_call 16; (with_reducible refine (HFX.out _ (by repeat (first | exact Below.refl _ _ | assumption | refine bdrN ?_ _ | refine bdr ?_))).mono ?_); rintro e w5 ⟨rfl, hb5⟩; have h5 : Below X.heap.size X w5 := bt (by repeat (first | exact Below.refl _ _ | assumption | refine bdrN ?_ _ | refine bdr ?_)) hb5; clear hb5))
  all_goals
    go_wp2_with fail
    go_ret
    exact ⟨rfl, bt HBX.out h5⟩
end Go.Proofs.YtcgcndmlgfnjbaaGreatDoor
/- The law on verdicts: telling: the walk. -/
namespace Go.Proofs.YtcgcndmlgfnjbaaGreatDoor
open Go Go.RowKit
set_option linter.unusedVariables false
/-- a verdict's box after another one is laid into it -/
theorem put_below {w u : World} {q : Nat} (h : Below w.heap.size w u) (hq : w.heap.size ≤ q) (x0 x1 x2 x3 x4 x5 x6 x7 x8 x9 : Value) : Below w.heap.size w ((((((((((u.setCell ⟨q, 0, none⟩ x0).setCell ⟨q, 1, none⟩ x1).setCell ⟨q, 2, none⟩ x2).setCell ⟨q, 3, none⟩ x3).setCell ⟨q, 4, none⟩ x4).setCell ⟨q, 5, none⟩ x5).setCell ⟨q, 6, none⟩ x6).setCell ⟨q, 7, none⟩ x7).setCell ⟨q, 8, none⟩ x8).setCell ⟨q, 9, none⟩ x9) :=
  below_set (below_set (below_set (below_set (below_set (below_set (below_set (below_set (below_set (below_set h hq _) hq _) hq _) hq _) hq _) hq _) hq _) hq _) hq _) hq _
theorem put_off {S : Nat → Prop} {u : World} {Q : World → Prop} {q : Nat} (h : Off S u Q) (hq : S q) (x0 x1 x2 x3 x4 x5 x6 x7 x8 x9 : Value) : Off S ((((((((((u.setCell ⟨q, 0, none⟩ x0).setCell ⟨q, 1, none⟩ x1).setCell ⟨q, 2, none⟩ x2).setCell ⟨q, 3, none⟩ x3).setCell ⟨q, 4, none⟩ x4).setCell ⟨q, 5, none⟩ x5).setCell ⟨q, 6, none⟩ x6).setCell ⟨q, 7, none⟩ x7).setCell ⟨q, 8, none⟩ x8).setCell ⟨q, 9, none⟩ x9) Q :=
  (((((((((h.setCell _ hq _).setCell _ hq _).setCell _ hq _).setCell _ hq _).setCell _ hq _).setCell _ hq _).setCell _ hq _).setCell _ hq _).setCell _ hq _).setCell _ hq _
set_option maxRecDepth 100000 in
set_option maxHeartbeats 8000000 in
theorem lawTells_c (a b : Vd) (ca sa cb sb : Value) (w : World) (ha : VdIn w a ca sa) (hb : VdIn w b cb sb) (hE : Env w) :
    Calls Tryz.prog 3 #[vdV a ca sa, vdV b cb sb] w (Yes w) := by
  obtain ⟨A1, k1, rfl, _⟩ := ha.cells.shape
  obtain ⟨A2, k2, rfl, _⟩ := ha.sched.shape
  obtain ⟨B1, m1, rfl, _⟩ := hb.cells.shape
  obtain ⟨B2, m2, rfl, _⟩ := hb.sched.shape
  have HIA := Lib.hid ha
  have HIB := Lib.hid hb
  have HE := Lib.hid hE
  have HCA : Hid (∀ u, Below w.heap.size w u → _) := fun u hu => cutV_c a A1 A2 k1 k2 u (ha.below hu)
  have HCB : Hid (∀ u, Below w.heap.size w u → _) := fun u hu => cutV_c b B1 B2 m1 m2 u (hb.below hu)
  have HNA := Lib.hid (cut_nums ha.nums)
  have HNB := Lib.hid (cut_nums hb.nums)
  have HOA : Hid (∀ W, Below w.heap.size w W → ∀ s', Pks W s' (cutV a).sched → VdOk W (cutV a) (.slice A1 (cutV a).bad.cells.length k1) s') := fun W hW s' hp => cut_ok ha hW hp
  have HOB : Hid (∀ W, Below w.heap.size w W → ∀ s', Pks W s' (cutV b).sched → VdOk W (cutV b) (.slice B1 (cutV b).bad.cells.length m1) s') := fun W hW s' hp => cut_ok hb hW hp
  clear ha hb hE
  have hq0 := vdBox_new w a (.slice A1 a.bad.cells.length k1) (.slice A2 a.sched.length k2)
  have ha0 := al w (.cells (vdA a (.slice A1 a.bad.cells.length k1) (.slice A2 a.sched.length k2)) 28)
  have hs0 : (w.alloc (.cells (vdA a (.slice A1 a.bad.cells.length k1) (.slice A2 a.sched.length k2)) 28)).heap.size = w.heap.size + 1 := World.size_alloc _ _
  unfold vdV at HCA HCB ⊢
  unfold vdA at hq0 ha0 hs0
  generalize cutV a = A at HCA HNA HOA
  generalize cutV b = B at HCB HNB HOB
  go_enter Tryz.func3, Tryz.ntmps3
  go_upto_region 1 with fail
  generalize w.alloc _ = V at hq0 ha0 hs0 ⊢
  have hq1 := vdBox_new V b (.slice B1 b.bad.cells.length m1) (.slice B2 b.sched.length m2)
  have ha1 := al V (.cells (vdA b (.slice B1 b.bad.cells.length m1) (.slice B2 b.sched.length m2)) 28)
  have hs1 : (V.alloc (.cells (vdA b (.slice B1 b.bad.cells.length m1) (.slice B2 b.sched.length m2)) 28)).heap.size = w.heap.size + 1 + 1 := by rw [World.size_alloc, hs0]
  rw [hs0] at hq1
  unfold vdA at hq1 ha1 hs1
  have hqa := hq0.below ha1
  have hba := bt ha0 ha1
  clear hq0 ha0 hs0 ha1
  generalize V.alloc _ = X at hq1 hs1 hqa hba ⊢
  have HQA := Lib.hid hqa
  have HQB := Lib.hid hq1
  have HBX := Lib.hid hba
  have HSX := Lib.hid hs1
  obtain ⟨p0, p1, p2, p3, p4, p5, p6, p7, p8, p9⟩ := hqa.at_
  clear hqa hq1 hba hs1
  go_upto_region 2 with (go_at_call 9; (with_reducible refine (HCA.out _ HBX.out).mono ?_); rintro e w1 ⟨A3, k3, rfl, hp1, hb1⟩; obtain ⟨r0, r1, r2, r3, r4, r5, r6, r7, r8, r9⟩ := (HQA.out.below hb1).at_; have f0 := (HQA.out.below hb1).frz 0; have f1 := (HQA.out.below hb1).frz 1; have f2 := (HQA.out.below hb1).frz 2; have f3 := (HQA.out.below hb1).frz 3; have f4 := (HQA.out.below hb1).frz 4; have f5 := (HQA.out.below hb1).frz 5; have f6 := (HQA.out.below hb1).frz 6; have f7 := (HQA.out.below hb1).frz 7; have f8 := (HQA.out.below hb1).frz 8; have f9 := (HQA.out.below hb1).frz 9)
  have hqa := (HQA.out.below hb1).put A (.slice A1 A.bad.cells.length k1) (.slice A3 A.sched.length k3)
  have hqb := (HQB.out.below hb1).aside (by omega : ¬ w.heap.size + 1 = w.heap.size) A (.slice A1 A.bad.cells.length k1) (.slice A3 A.sched.length k3)
  have hpa := put_off (S := Old X.heap.size) hp1 (q := w.heap.size) (by show _ < _; have := HSX.out; omega) (.int .i64 A.kind) (.int .i64 A.e) (.int .i64 A.pos) (.int .i64 A.paths) (.int .i64 A.ends) (.int .i64 A.bad.kind) (.int .i64 A.bad.what) (.int .i64 A.bad.crashes) (.slice A1 A.bad.cells.length k1) (.slice A3 A.sched.length k3)
  have hbx := put_below (bt HBX.out hb1) (Nat.le_refl w.heap.size) (.int .i64 A.kind) (.int .i64 A.e) (.int .i64 A.pos) (.int .i64 A.paths) (.int .i64 A.ends) (.int .i64 A.bad.kind) (.int .i64 A.bad.what) (.int .i64 A.bad.crashes) (.slice A1 A.bad.cells.length k1) (.slice A3 A.sched.length k3)
  clear r0 r1 r2 r3 r4 r5 r6 r7 r8 r9 f0 f1 f2 f3 f4 f5 f6 f7 f8 f9 p0 p1 p2 p3 p4 p5 p6 p7 p8 p9 hp1 hb1 HQA HQB HCA HBX
  generalize World.setCell _ _ _ = Y at hqa hqb hpa hbx ⊢
  have HQA := Lib.hid hqa
  have HQB := Lib.hid hqb
  have HPA := Lib.hid hpa
  have HBX := Lib.hid hbx
  obtain ⟨p0, p1, p2, p3, p4, p5, p6, p7, p8, p9⟩ := hqb.at_
  clear hqa hqb hpa hbx
  go_upto_region 3 with (go_at_call 9; (with_reducible refine (HCB.out _ HBX.out).mono ?_); rintro e w2 ⟨B3, m3, rfl, hp2, hb2⟩; obtain ⟨r0, r1, r2, r3, r4, r5, r6, r7, r8, r9⟩ := (HQB.out.below hb2).at_; have f0 := (HQB.out.below hb2).frz 0; have f1 := (HQB.out.below hb2).frz 1; have f2 := (HQB.out.below hb2).frz 2; have f3 := (HQB.out.below hb2).frz 3; have f4 := (HQB.out.below hb2).frz 4; have f5 := (HQB.out.below hb2).frz 5; have f6 := (HQB.out.below hb2).frz 6; have f7 := (HQB.out.below hb2).frz 7; have f8 := (HQB.out.below hb2).frz 8; have f9 := (HQB.out.below hb2).frz 9)
  have hqb := (HQB.out.below hb2).put B (.slice B1 B.bad.cells.length m1) (.slice B3 B.sched.length m3)
  have hqa := (HQA.out.below hb2).aside (by omega : ¬ w.heap.size = w.heap.size + 1) B (.slice B1 B.bad.cells.length m1) (.slice B3 B.sched.length m3)
  have hpb := put_off hp2 (q := w.heap.size + 1) (by have := (HQB.out).at_.lt; exact this) (.int .i64 B.kind) (.int .i64 B.e) (.int .i64 B.pos) (.int .i64 B.paths) (.int .i64 B.ends) (.int .i64 B.bad.kind) (.int .i64 B.bad.what) (.int .i64 B.bad.crashes) (.slice B1 B.bad.cells.length m1) (.slice B3 B.sched.length m3)
  have hpa := put_off (HPA.out.below hb2) (q := w.heap.size + 1) (by show _ < _; have := HSX.out; omega) (.int .i64 B.kind) (.int .i64 B.e) (.int .i64 B.pos) (.int .i64 B.paths) (.int .i64 B.ends) (.int .i64 B.bad.kind) (.int .i64 B.bad.what) (.int .i64 B.bad.crashes) (.slice B1 B.bad.cells.length m1) (.slice B3 B.sched.length m3)
  have hbx := put_below (bt HBX.out hb2) (Nat.le_succ w.heap.size) (.int .i64 B.kind) (.int .i64 B.e) (.int .i64 B.pos) (.int .i64 B.paths) (.int .i64 B.ends) (.int .i64 B.bad.kind) (.int .i64 B.bad.what) (.int .i64 B.bad.crashes) (.slice B1 B.bad.cells.length m1) (.slice B3 B.sched.length m3)
  clear r0 r1 r2 r3 r4 r5 r6 r7 r8 r9 f0 f1 f2 f3 f4 f5 f6 f7 f8 f9 p0 p1 p2 p3 p4 p5 p6 p7 p8 p9 hp2 hb2 HQA HQB HCB HBX HPA
  generalize World.setCell _ _ _ = Z at hqa hqb hpa hpb hbx ⊢
  have HBX := Lib.hid hbx
  have HA := Lib.hid (HOA.out Z hbx _ hpa.now)
  have HB := Lib.hid (HOB.out Z hbx _ hpb.now)
  have HQA := Lib.hid hqa
  have HQB := Lib.hid hqb
  clear hqa hqb hpa hpb hbx HOA HOB
  have HQ : Hid (∀ u, Below Z.heap.size Z u → u.cell? ⟨w.heap.size, 0, none⟩ = some (.int .i64 A.kind) ∧ u.cell? ⟨w.heap.size, 1, none⟩ = some (.int .i64 A.e) ∧ u.cell? ⟨w.heap.size, 2, none⟩ = some (.int .i64 A.pos) ∧ u.cell? ⟨w.heap.size, 3, none⟩ = some (.int .i64 A.paths) ∧ u.cell? ⟨w.heap.size, 4, none⟩ = some (.int .i64 A.ends) ∧ u.cell? ⟨w.heap.size, 5, none⟩ = some (.int .i64 A.bad.kind) ∧ u.cell? ⟨w.heap.size, 6, none⟩ = some (.int .i64 A.bad.what) ∧ u.cell? ⟨w.heap.size, 7, none⟩ = some (.int .i64 A.bad.crashes) ∧ u.cell? ⟨w.heap.size, 8, none⟩ = some (.slice A1 A.bad.cells.length k1) ∧ u.cell? ⟨w.heap.size, 9, none⟩ = some (.slice A3 A.sched.length k3) ∧ u.cell? ⟨w.heap.size + 1, 0, none⟩ = some (.int .i64 B.kind) ∧ u.cell? ⟨w.heap.size + 1, 1, none⟩ = some (.int .i64 B.e) ∧ u.cell? ⟨w.heap.size + 1, 2, none⟩ = some (.int .i64 B.pos) ∧ u.cell? ⟨w.heap.size + 1, 3, none⟩ = some (.int .i64 B.paths) ∧ u.cell? ⟨w.heap.size + 1, 4, none⟩ = some (.int .i64 B.ends) ∧ u.cell? ⟨w.heap.size + 1, 5, none⟩ = some (.int .i64 B.bad.kind) ∧ u.cell? ⟨w.heap.size + 1, 6, none⟩ = some (.int .i64 B.bad.what) ∧ u.cell? ⟨w.heap.size + 1, 7, none⟩ = some (.int .i64 B.bad.crashes) ∧ u.cell? ⟨w.heap.size + 1, 8, none⟩ = some (.slice B1 B.bad.cells.length m1) ∧ u.cell? ⟨w.heap.size + 1, 9, none⟩ = some (.slice B3 B.sched.length m3)) := fun u hu => by
    have h1 := HQA.out.at_.below hu
    have h2 := HQB.out.at_.below hu
    exact ⟨h1.c0, h1.c1, h1.c2, h1.c3, h1.c4, h1.c5, h1.c6, h1.c7, h1.c8, h1.c9, h2.c0, h2.c1, h2.c2, h2.c3, h2.c4, h2.c5, h2.c6, h2.c7, h2.c8, h2.c9⟩
  have HRP : Hid (∀ u, Below Z.heap.size Z u → _) := fun u hu => pRightV_c A _ _ u (HA.out.below hu)
  have HRR : Hid (∀ u, Below Z.heap.size Z u → _) := fun u hu => rRightV_c A _ _ u (HA.out.below hu)
  have HSP : Hid (∀ u, Below Z.heap.size Z u → _) := fun u hu => pShowV_c A _ _ u (HA.out.below hu) (HE.out.below (bt HBX.out hu)) HNA.out
  have HSR : Hid (∀ u, Below Z.heap.size Z u → _) := fun u hu => rShowV_c A _ _ u (HA.out.below hu) HNA.out
  have HMP : Hid (∀ u, Below Z.heap.size Z u → _) := fun u hu => pSameV_c A B _ _ _ _ u (HA.out.below hu) (HB.out.below hu)
  have HMR : Hid (∀ u, Below Z.heap.size Z u → _) := fun u hu => rSameV_c A B _ _ _ _ u (HA.out.below hu) (HB.out.below hu)
  have HFX := Lib.hid (fun u (hu : Below Z.heap.size Z u) => fixed_c u (HE.out.below (bt HBX.out hu)))
  unfold vdV at HRP HRR HSP HSR HMP HMR
  clear HA HB HQA HQB HNA HNB
  generalize rightV A = rb at HRP HRR
  generalize decide (A = B) = mb at HMP HMR
  generalize str (showV A) = S at HSP HSR
  cases rb <;> cases mb
  all_goals
    obtain ⟨q0, q1, q2, q3, q4, q5, q6, q7, q8, q9, t0, t1, t2, t3, t4, t5, t6, t7, t8, t9⟩ := HQ.out Z (Below.refl _ _)
    go_region_held3 (fun u => u.cell? ⟨w.heap.size, 0, none⟩ = some (.int .i64 A.kind) ∧ u.cell? ⟨w.heap.size, 1, none⟩ = some (.int .i64 A.e) ∧ u.cell? ⟨w.heap.size, 2, none⟩ = some (.int .i64 A.pos) ∧ u.cell? ⟨w.heap.size, 3, none⟩ = some (.int .i64 A.paths) ∧ u.cell? ⟨w.heap.size, 4, none⟩ = some (.int .i64 A.ends) ∧ u.cell? ⟨w.heap.size, 5, none⟩ = some (.int .i64 A.bad.kind) ∧ u.cell? ⟨w.heap.size, 6, none⟩ = some (.int .i64 A.bad.what) ∧ u.cell? ⟨w.heap.size, 7, none⟩ = some (.int .i64 A.bad.crashes) ∧ u.cell? ⟨w.heap.size, 8, none⟩ = some (.slice A1 A.bad.cells.length k1) ∧ u.cell? ⟨w.heap.size, 9, none⟩ = some (.slice A3 A.sched.length k3) ∧ u.cell? ⟨w.heap.size + 1, 0, none⟩ = some (.int .i64 B.kind) ∧ u.cell? ⟨w.heap.size + 1, 1, none⟩ = some (.int .i64 B.e) ∧ u.cell? ⟨w.heap.size + 1, 2, none⟩ = some (.int .i64 B.pos) ∧ u.cell? ⟨w.heap.size + 1, 3, none⟩ = some (.int .i64 B.paths) ∧ u.cell? ⟨w.heap.size + 1, 4, none⟩ = some (.int .i64 B.ends) ∧ u.cell? ⟨w.heap.size + 1, 5, none⟩ = some (.int .i64 B.bad.kind) ∧ u.cell? ⟨w.heap.size + 1, 6, none⟩ = some (.int .i64 B.bad.what) ∧ u.cell? ⟨w.heap.size + 1, 7, none⟩ = some (.int .i64 B.bad.crashes) ∧ u.cell? ⟨w.heap.size + 1, 8, none⟩ = some (.slice B1 B.bad.cells.length m1) ∧ u.cell? ⟨w.heap.size + 1, 9, none⟩ = some (.slice B3 B.sched.length m3))
      (exact HQ.out _ (by repeat (first | exact Below.refl _ _ | assumption | refine bdrN ?_ _ | refine bdr ?_)))
      (first
        | (go_at_call 10; (with_reducible refine (HRP.out _ (by repeat (first | exact Below.refl _ _ | assumption | refine bdrN ?_ _ | refine bdr ?_))).mono ?_); rintro e y3 ⟨rfl, hy3⟩; have hz3 : Below Z.heap.size Z y3 := bt (by repeat (first | exact Below.refl _ _ | assumption | refine bdrN ?_ _ | refine bdr ?_)) hy3; clear hy3)
        | (go_at_call 11; (with_reducible refine (HRR.out _ (by repeat (first | exact Below.refl _ _ | assumption | refine bdrN ?_ _ | refine bdr ?_))).mono ?_); rintro e y4 ⟨rfl, hy4⟩; have hz4 : Below Z.heap.size Z y4 := bt (by repeat (first | exact Below.refl _ _ | assumption | refine bdrN ?_ _ | refine bdr ?_)) hy4; clear hy4)
        | (go_at_call 12; (with_reducible refine (HSP.out _ (by repeat (first | exact Below.refl _ _ | assumption | refine bdrN ?_ _ | refine bdr ?_))).mono ?_); rintro e y5 ⟨rfl, hy5⟩; have hz5 : Below Z.heap.size Z y5 := bt (by repeat (first | exact Below.refl _ _ | assumption | refine bdrN ?_ _ | refine bdr ?_)) hy5; clear hy5)
        | (go_at_call 13; (with_reducible refine (HSR.out _ (by repeat (first | exact Below.refl _ _ | assumption | refine bdrN ?_ _ | refine bdr ?_))).mono ?_); rintro e y6 ⟨rfl, hy6⟩; have hz6 : Below Z.heap.size Z y6 := bt (by repeat (first | exact Below.refl _ _ | assumption | refine bdrN ?_ _ | refine bdr ?_)) hy6; clear hy6)
        | (go_at_call 14; (with_reducible refine (HMP.out _ (by repeat (first | exact Below.refl _ _ | assumption | refine bdrN ?_ _ | refine bdr ?_))).mono ?_); rintro e y7 ⟨rfl, hy7⟩; have hz7 : Below Z.heap.size Z y7 := bt (by repeat (first | exact Below.refl _ _ | assumption | refine bdrN ?_ _ | refine bdr ?_)) hy7; clear hy7)
        | (go_at_call 15; (with_reducible refine (HMR.out _ (by repeat (first | exact Below.refl _ _ | assumption | refine bdrN ?_ _ | refine bdr ?_))).mono ?_); rintro e y8 ⟨rfl, hy8⟩; have hz8 : Below Z.heap.size Z y8 := bt (by repeat (first | exact Below.refl _ _ | assumption | refine bdrN ?_ _ | refine bdr ?_)) hy8; clear hy8)
        | (go_at_call 16; (with_reducible refine (HFX.out _ (by repeat (first | exact Below.refl _ _ | assumption | refine bdrN ?_ _ | refine bdr ?_))).mono ?_); rintro e y9 ⟨rfl, hy9⟩; have hz9 : Below Z.heap.size Z y9 := bt (by repeat (first | exact Below.refl _ _ | assumption | refine bdrN ?_ _ | refine bdr ?_)) hy9; clear hy9))
    all_goals
      go_wp2_with fail
      go_ret
      exact ⟨rfl, bt HBX.out hz9⟩
end Go.Proofs.YtcgcndmlgfnjbaaGreatDoor
/- The law on verdicts: what is shown is read as it was: the walk. -/
namespace Go.Proofs.YtcgcndmlgfnjbaaGreatDoor
open Go Go.RowKit
set_option linter.unusedVariables false
theorem parse_cases (s : List UInt8) : (∃ er : Int, parseV kindP s = (zeroV, er) ∧ ¬ er = 0) ∨ (∃ x, parseV kindP s = (x, 0) ∧ rightV x = true ∧ showV x = s) := by
  unfold parseV
  by_cases h : 200000 < s.length
  · rw [if_pos h]; exact .inl ⟨2, rfl, by decide⟩
  · rw [if_neg h]
    cases ha : accV kindP s
    · exact .inl ⟨8, rfl, by decide⟩
    · unfold accV at ha
      rw [Bool.and_eq_true, decide_eq_true_eq] at ha
      exact .inr ⟨_, rfl, ha.1, ha.2⟩
theorem parse_nilV : parseV kindP [] = (zeroV, 8) := by kernel_rfl
theorem cut_text (v : Vd) (hn : VdNums v) (h : rightV (cutV v) = true) : (textK (cutV v).sched).length ≤ 100000 ∧ (textV (cutV v)).length ≤ 200000 := by
  have hs : (cutV v).sched.length ≤ 40 := cutPs_len v.sched
  have ht : (textK (cutV v).sched).length ≤ 100000 := by
    have hr := right_kind h
    by_cases h3 : (cutV v).kind = 3
    · have h2 := h
      unfold rightV at h2
      rw [if_neg (by omega), if_neg (by omega), if_pos h3] at h2
      simp only [Bool.and_eq_true] at h2
      have := textK_len _ h2.2
      omega
    · have hb := bare_of h
      have : (cutV v).sched = [] := by
        rw [hb]
        unfold bareV
        rcases hr with k | k | k | k
        · rw [if_pos k]
        · rw [if_neg (by omega), if_pos k]
        · exact absurd k h3
        · rw [if_neg (by omega), if_neg (by omega), if_neg h3]
      rw [this]; exact Nat.zero_le _
  refine ⟨ht, ?_⟩
  have hl := line_le (cutV v) h (cut_nums hn)
  have hk : (showK (cutV v).sched).length ≤ 100000 := by
    unfold showK
    split
    · exact ht
    · exact Nat.zero_le _
  unfold textV
  rw [List.length_append, List.length_cons]
  split
  · omega
  · simp only [List.length_nil]; omega
theorem cut_back (v : Vd) (hn : VdNums v) (h : rightV (cutV v) = true) : parseV kindP (showV (cutV v)) = (cutV v, 0) :=
  parse_back (cutV v) h (cut_nums hn) (cut_text v hn h).1 (cut_text v hn h).2
theorem cut_show_len (v : Vd) (hn : VdNums v) : (showV (cutV v)).length ≤ 200000 := by
  cases h : rightV (cutV v)
  · rw [showV_not h]; exact Nat.zero_le _
  · rw [showV_right h]; exact (cut_text v hn h).2
set_option maxRecDepth 100000 in
set_option maxHeartbeats 8000000 in
theorem lawBack_c (a : Vd) (ca sa : Value) (s : ByteArray) (hz : s.size ≤ 9223372036854775807) (w : World) (ha : VdIn w a ca sa) (hE : Env w) :
    Calls Tryz.prog 5 #[vdV a ca sa, .string s] w (Yes w) := by
  obtain ⟨A1, k1, rfl, _⟩ := ha.cells.shape
  obtain ⟨A2, k2, rfl, _⟩ := ha.sched.shape
  have HE := Lib.hid hE
  have HCA : Hid (∀ u, Below w.heap.size w u → _) := fun u hu => cutV_c a A1 A2 k1 k2 u (ha.below hu)
  have HNA := Lib.hid (cut_nums ha.nums)
  have HOA : Hid (∀ W, Below w.heap.size w W → ∀ s', Pks W s' (cutV a).sched → VdOk W (cutV a) (.slice A1 (cutV a).bad.cells.length k1) s') := fun W hW s' hp => cut_ok ha hW hp
  have HBK := Lib.hid (cut_back a ha.nums)
  have HSL := Lib.hid (cut_show_len a ha.nums)
  clear ha hE
  have hq0 := vdBox_new w a (.slice A1 a.bad.cells.length k1) (.slice A2 a.sched.length k2)
  have ha0 := al w (.cells (vdA a (.slice A1 a.bad.cells.length k1) (.slice A2 a.sched.length k2)) 28)
  have hs0 : (w.alloc (.cells (vdA a (.slice A1 a.bad.cells.length k1) (.slice A2 a.sched.length k2)) 28)).heap.size = w.heap.size + 1 := World.size_alloc _ _
  unfold vdV at HCA ⊢
  unfold vdA at hq0 ha0 hs0
  generalize cutV a = A at HCA HNA HOA HBK HSL
  go_enter Tryz.func5, Tryz.ntmps5
  go_upto_region 1 with fail
  generalize w.alloc _ = X at hq0 ha0 hs0 ⊢
  have HQA := Lib.hid hq0
  have HBX := Lib.hid ha0
  have HSX := Lib.hid hs0
  obtain ⟨p0, p1, p2, p3, p4, p5, p6, p7, p8, p9⟩ := hq0.at_
  clear hq0 ha0 hs0
  go_upto_region 2 with (go_at_call 9; (with_reducible refine (HCA.out _ HBX.out).mono ?_); rintro e w1 ⟨A3, k3, rfl, hp1, hb1⟩; obtain ⟨r0, r1, r2, r3, r4, r5, r6, r7, r8, r9⟩ := (HQA.out.below hb1).at_; have f0 := (HQA.out.below hb1).frz 0; have f1 := (HQA.out.below hb1).frz 1; have f2 := (HQA.out.below hb1).frz 2; have f3 := (HQA.out.below hb1).frz 3; have f4 := (HQA.out.below hb1).frz 4; have f5 := (HQA.out.below hb1).frz 5; have f6 := (HQA.out.below hb1).frz 6; have f7 := (HQA.out.below hb1).frz 7; have f8 := (HQA.out.below hb1).frz 8; have f9 := (HQA.out.below hb1).frz 9)
  have hqa := (HQA.out.below hb1).put A (.slice A1 A.bad.cells.length k1) (.slice A3 A.sched.length k3)
  have hpa := put_off (S := Old X.heap.size) hp1 (q := w.heap.size) (by show _ < _; have := HSX.out; omega) (.int .i64 A.kind) (.int .i64 A.e) (.int .i64 A.pos) (.int .i64 A.paths) (.int .i64 A.ends) (.int .i64 A.bad.kind) (.int .i64 A.bad.what) (.int .i64 A.bad.crashes) (.slice A1 A.bad.cells.length k1) (.slice A3 A.sched.length k3)
  have hbx := put_below (bt HBX.out hb1) (Nat.le_refl w.heap.size) (.int .i64 A.kind) (.int .i64 A.e) (.int .i64 A.pos) (.int .i64 A.paths) (.int .i64 A.ends) (.int .i64 A.bad.kind) (.int .i64 A.bad.what) (.int .i64 A.bad.crashes) (.slice A1 A.bad.cells.length k1) (.slice A3 A.sched.length k3)
  clear r0 r1 r2 r3 r4 r5 r6 r7 r8 r9 f0 f1 f2 f3 f4 f5 f6 f7 f8 f9 p0 p1 p2 p3 p4 p5 p6 p7 p8 p9 hp1 hb1 HQA HCA HBX
  generalize World.setCell _ _ _ = Y at hqa hpa hbx ⊢
  have HA := Lib.hid (HOA.out Y hbx _ hpa.now)
  have HQA := Lib.hid hqa
  have HBX := Lib.hid hbx
  clear hqa hpa hbx HOA
  have HSP : Hid (∀ u, Below Y.heap.size Y u → _) := fun u hu => pShowV_c A _ _ u (HA.out.below hu) (HE.out.below (bt HBX.out hu)) HNA.out
  have HRP : Hid (∀ u, Below Y.heap.size Y u → _) := fun u hu => pRightV_c A _ _ u (HA.out.below hu)
  have HSM : Hid (∀ u c' s', Below Y.heap.size Y u → VdOk u A c' s' → _) := fun u c' s' hu h => pSameV_c A A _ _ c' s' u (HA.out.below hu) h
  have HPA : Hid (∀ u, Below Y.heap.size Y u → _) := fun u hu => pParseV_c (showV A) (by have := HSL.out; omega) u (HE.out.below (bt HBX.out hu))
  unfold vdV at HSP HRP HSM
  rw [decide_eq_true rfl] at HSM
  go_upto_region 3 with fail
  have ht := cut_size s 1500
  simp only [Int.cast_ofNat_Int] at ht
  generalize s.extract 0 (min (s.size : Int) 1500).toNat = t at ht ⊢
  have HPS : Hid (∀ u, Env u → Calls Tryz.prog 17 #[.string t] u (PvPost (parseV kindP t.data.toList) u)) := fun u hu => by
    have h := pParseV_c t.data.toList (by rw [data_len]; omega) u hu
    rw [str_of] at h
    exact h
  have HFX := Lib.hid (fun u (hu : Below w.heap.size w u) => fixed_c u (HE.out.below hu))
  have HCS := Lib.hid (parse_cases t.data.toList)
  generalize parseV kindP t.data.toList = R at HPS HCS
  obtain ⟨q0, q1, q2, q3, q4, q5, q6, q7, q8, q9⟩ := HQA.out.at_
  clear hz ht
  cases hr : rightV A
  · have HS0 := showV_not hr
    rw [HS0] at HSP HPA
    rw [parse_nilV] at HPA
    rw [hr] at HRP
    have hem : (!(str []).toList.isEmpty) = false := by rw [str_toList]; rfl
    go_upto_region 4 with (go_at_call 12; (with_reducible refine (HSP.out _ (Below.refl _ _)).mono ?_); rintro e w2 ⟨rfl, hb2⟩)
    go_upto_region 5 with (go_at_call 17; refine (HPA.out _ hb2).mono ?_; rintro e w3 ⟨cv, sv, rfl, hok3, hnm3, hb3⟩; obtain ⟨A4, k4, rfl, _⟩ := hok3.now.cells.shape; obtain ⟨A5, k5, rfl, _⟩ := hok3.now.sched.shape; unfold vdV zeroV zeroE)
    have ha3 := al w3 (.cells (vdA zeroV (.slice A4 zeroV.bad.cells.length k4) (.slice A5 zeroV.sched.length k5)) 28)
    have hb4 := bt hb2 (bt hb3 ha3)
    unfold vdA zeroV zeroE at hb4
    simp only [List.length_nil] at hb4 ⊢
    clear ha3 hb3 hok3 hnm3 q0 q1 q2 q3 q4 q5 q6 q7 q8 q9
    generalize w3.alloc _ = V3 at hb4 ⊢
    have HB4 := Lib.hid hb4
    obtain ⟨q0, q1, q2, q3, q4, q5, q6, q7, q8, q9⟩ := (HQA.out.below hb4).at_
    clear hb4 hb2 hr
    go_upto_region 7 with (first
      | (go_at_call 10; (with_reducible refine (HRP.out _ HB4.out).mono ?_); rintro e w4 ⟨rfl, hb5⟩; obtain ⟨s0, s1, s2, s3, s4, s5, s6, s7, s8, s9⟩ := (HQA.out.below (bt HB4.out hb5)).at_)
      | (go_at_call 10; (with_reducible refine (HRP.out _ (bt HB4.out hb5)).mono ?_); rintro e w5 ⟨rfl, hb6⟩))
    have HB9 := Lib.hid (bt HBX.out (bt HB4.out (bt hb5 hb6)))
    rcases HCS.out with ⟨er, hR, hne⟩ | ⟨x, hR, hrx, hsx⟩
    · rw [hR] at HPS
      have hne2 : (er == 0) = false := by simpa using hne
      have hne3 : ¬ er = 0 := hne
      clear hR HCS HSP HRP HSM HPA HQA HA HBK hne
      go_upto_region 8 with (go_at_call 17; refine (HPS.out _ (HE.out.below HB9.out)).mono ?_; rintro e w6 ⟨cv, sv, rfl, hok6, hnm6, hb6⟩; obtain ⟨A6, k6, rfl, _⟩ := hok6.now.cells.shape; obtain ⟨A7, k7, rfl, _⟩ := hok6.now.sched.shape; unfold vdV zeroV zeroE)
      have hq6 := vdBox_new w6 zeroV (.slice A6 zeroV.bad.cells.length k6) (.slice A7 zeroV.sched.length k7)
      have ha6 := al w6 (.cells (vdA zeroV (.slice A6 zeroV.bad.cells.length k6) (.slice A7 zeroV.sched.length k7)) 28)
      unfold vdA zeroV zeroE at hq6 ha6
      simp only [List.length_nil] at hq6 ha6 ⊢
      generalize w6.alloc _ = V6 at hq6 ha6 ⊢
      have c0 := hq6.at_.c0
      have HB10 := Lib.hid (bt HB9.out (bt hb6 ha6))
      clear hq6 ha6 hb6 hok6
      go_wp2_with (go_at_call 16; refine (HFX.out _ HB10.out).mono ?_; rintro e w7 ⟨rfl, hb7⟩)
      go_ret
      exact ⟨rfl, bt HB10.out hb7⟩
    · rw [hR] at HPS
      have HRX := Lib.hid hrx
      have HSX2 : Hid (str (showV x) = t) := by show _ = _; rw [hsx, str_of]
      clear hR HCS HSP HRP HSM HPA HQA HA HBK hrx hsx
      go_upto_region 8 with (go_at_call 17; refine (HPS.out _ (HE.out.below HB9.out)).mono ?_; rintro e w6 ⟨cv, sv, rfl, hok6, hnm6, hb6⟩; obtain ⟨A6, k6, rfl, _⟩ := hok6.now.cells.shape; obtain ⟨A7, k7, rfl, _⟩ := hok6.now.sched.shape; unfold vdV)
      have hq6 := vdBox_new w6 x (.slice A6 x.bad.cells.length k6) (.slice A7 x.sched.length k7)
      have ha6 := al w6 (.cells (vdA x (.slice A6 x.bad.cells.length k6) (.slice A7 x.sched.length k7)) 28)
      have HOK6 := Lib.hid (hok6.now.below ha6)
      have HB10 := Lib.hid (bt HB9.out (bt hb6 ha6))
      have HNM6 : Hid (VdNums x) := hnm6
      unfold vdA at hq6 ha6 HOK6 HB10
      generalize w6.alloc _ = V6 at hq6 ha6 HOK6 HB10 ⊢
      have HQ6 := Lib.hid hq6
      have HR6 := Lib.hid (pRightV_c x _ _ V6 HOK6.out)
      have HS6 : Hid (∀ u, Below V6.heap.size V6 u → _) := fun u hu => pShowV_c x _ _ u (HOK6.out.below hu) (HE.out.below (bt HB10.out hu)) HNM6.out
      rw [HRX.out] at HR6
      rw [HSX2.out] at HS6
      unfold vdV at HR6 HS6
      obtain ⟨c0, c1, c2, c3, c4, c5, c6, c7, c8, c9⟩ := hq6.at_
      clear hq6 ha6 hb6 hok6 hnm6
      go_wp2_with (first
        | (go_at_call 10; (with_reducible refine (HR6.out).mono ?_); rintro e w7 ⟨rfl, hb7⟩; obtain ⟨d0, d1, d2, d3, d4, d5, d6, d7, d8, d9⟩ := (HQ6.out.below hb7).at_)
        | (go_at_call 12; (with_reducible refine (HS6.out _ hb7).mono ?_); rintro e w8 ⟨rfl, hb8⟩)
        | (go_at_call 16; refine (HFX.out _ (bt HB10.out (bt hb7 hb8))).mono ?_; rintro e w9 ⟨rfl, hb9⟩))
      go_ret
      exact ⟨rfl, bt HB10.out (bt hb7 (bt hb8 hb9))⟩
  · rw [HBK.out hr] at HPA
    rw [hr] at HRP
    have HS0 : Hid (showV A = showV A) := rfl
    generalize str (showV A) = S0 at HSP HPA
    go_upto_region 4 with (go_at_call 12; (with_reducible refine (HSP.out _ (Below.refl _ _)).mono ?_); rintro e w2 ⟨rfl, hb2⟩)
    go_upto_region 5 with (go_at_call 17; refine (HPA.out _ hb2).mono ?_; rintro e w3 ⟨cv, sv, rfl, hok3, hnm3, hb3⟩; obtain ⟨A4, k4, rfl, _⟩ := hok3.now.cells.shape; obtain ⟨A5, k5, rfl, _⟩ := hok3.now.sched.shape; unfold vdV)
    have hq3 := vdBox_new w3 A (.slice A4 A.bad.cells.length k4) (.slice A5 A.sched.length k5)
    have ha3 := al w3 (.cells (vdA A (.slice A4 A.bad.cells.length k4) (.slice A5 A.sched.length k5)) 28)
    have hb4 := bt hb2 (bt hb3 ha3)
    have HO3 := Lib.hid (hok3.now.below ha3)
    unfold vdA at hb4 hq3 HO3
    clear ha3 hb3 hok3 hnm3 q0 q1 q2 q3 q4 q5 q6 q7 q8 q9
    generalize w3.alloc _ = V3 at hb4 hq3 HO3 ⊢
    have HB4 := Lib.hid hb4
    have HQ3 := Lib.hid hq3
    obtain ⟨q0, q1, q2, q3, q4, q5, q6, q7, q8, q9⟩ := (HQA.out.below hb4).at_
    clear hb4 hb2 hr hq3
    go_upto_region 7 with (first
      | (go_at_call 10; (with_reducible refine (HRP.out _ HB4.out).mono ?_); rintro e w4 ⟨rfl, hb5⟩; have HO4 := Lib.hid (HO3.out.below hb5); obtain ⟨s0, s1, s2, s3, s4, s5, s6, s7, s8, s9⟩ := (HQA.out.below (bt HB4.out hb5)).at_; obtain ⟨t0, t1, t2, t3, t4, t5, t6, t7, t8, t9⟩ := (HQ3.out.below hb5).at_)
      | (go_at_call 14; (with_reducible refine (HSM.out _ _ _ (bt HB4.out hb5) HO4.out).mono ?_); rintro e w5 ⟨rfl, hb6⟩; obtain ⟨y0, y1, y2, y3, y4, y5, y6, y7, y8, y9⟩ := (HQA.out.below (bt HB4.out (bt hb5 hb6))).at_)
      | (go_at_call 10; (with_reducible refine (HRP.out _ (bt HB4.out (bt hb5 hb6))).mono ?_); rintro e w51 ⟨rfl, hb61⟩))
    have HB9 := Lib.hid (bt HBX.out (bt HB4.out (bt hb5 (bt hb6 hb61))))
    rcases HCS.out with ⟨er, hR, hne⟩ | ⟨x, hR, hrx, hsx⟩
    · rw [hR] at HPS
      have hne2 : (er == 0) = false := by simpa using hne
      have hne3 : ¬ er = 0 := hne
      clear hR HCS HSP HRP HSM HPA HQA HA HBK hne
      go_upto_region 8 with (go_at_call 17; refine (HPS.out _ (HE.out.below HB9.out)).mono ?_; rintro e w6 ⟨cv, sv, rfl, hok6, hnm6, hb6⟩; obtain ⟨A6, k6, rfl, _⟩ := hok6.now.cells.shape; obtain ⟨A7, k7, rfl, _⟩ := hok6.now.sched.shape; unfold vdV zeroV zeroE)
      have hq6 := vdBox_new w6 zeroV (.slice A6 zeroV.bad.cells.length k6) (.slice A7 zeroV.sched.length k7)
      have ha6 := al w6 (.cells (vdA zeroV (.slice A6 zeroV.bad.cells.length k6) (.slice A7 zeroV.sched.length k7)) 28)
      unfold vdA zeroV zeroE at hq6 ha6
      simp only [List.length_nil] at hq6 ha6 ⊢
      generalize w6.alloc _ = V6 at hq6 ha6 ⊢
      have c0 := hq6.at_.c0
      have HB10 := Lib.hid (bt HB9.out (bt hb6 ha6))
      clear hq6 ha6 hb6 hok6
      go_wp2_with (go_at_call 16; refine (HFX.out _ HB10.out).mono ?_; rintro e w7 ⟨rfl, hb7⟩)
      go_ret
      exact ⟨rfl, bt HB10.out hb7⟩
    · rw [hR] at HPS
      have HRX := Lib.hid hrx
      have HSX2 : Hid (str (showV x) = t) := by show _ = _; rw [hsx, str_of]
      clear hR HCS HSP HRP HSM HPA HQA HA HBK hrx hsx
      go_upto_region 8 with (go_at_call 17; refine (HPS.out _ (HE.out.below HB9.out)).mono ?_; rintro e w6 ⟨cv, sv, rfl, hok6, hnm6, hb6⟩; obtain ⟨A6, k6, rfl, _⟩ := hok6.now.cells.shape; obtain ⟨A7, k7, rfl, _⟩ := hok6.now.sched.shape; unfold vdV)
      have hq6 := vdBox_new w6 x (.slice A6 x.bad.cells.length k6) (.slice A7 x.sched.length k7)
      have ha6 := al w6 (.cells (vdA x (.slice A6 x.bad.cells.length k6) (.slice A7 x.sched.length k7)) 28)
      have HOK6 := Lib.hid (hok6.now.below ha6)
      have HB10 := Lib.hid (bt HB9.out (bt hb6 ha6))
      have HNM6 : Hid (VdNums x) := hnm6
      unfold vdA at hq6 ha6 HOK6 HB10
      generalize w6.alloc _ = V6 at hq6 ha6 HOK6 HB10 ⊢
      have HQ6 := Lib.hid hq6
      have HR6 := Lib.hid (pRightV_c x _ _ V6 HOK6.out)
      have HS6 : Hid (∀ u, Below V6.heap.size V6 u → _) := fun u hu => pShowV_c x _ _ u (HOK6.out.below hu) (HE.out.below (bt HB10.out hu)) HNM6.out
      rw [HRX.out] at HR6
      rw [HSX2.out] at HS6
      unfold vdV at HR6 HS6
      obtain ⟨c0, c1, c2, c3, c4, c5, c6, c7, c8, c9⟩ := hq6.at_
      clear hq6 ha6 hb6 hok6 hnm6
      go_wp2_with (first
        | (go_at_call 10; (with_reducible refine (HR6.out).mono ?_); rintro e w7 ⟨rfl, hb7⟩; obtain ⟨d0, d1, d2, d3, d4, d5, d6, d7, d8, d9⟩ := (HQ6.out.below hb7).at_)
        | (go_at_call 12; (with_reducible refine (HS6.out _ hb7).mono ?_); rintro e w8 ⟨rfl, hb8⟩)
        | (go_at_call 16; refine (HFX.out _ (bt HB10.out (bt hb7 hb8))).mono ?_; rintro e w9 ⟨rfl, hb9⟩))
      go_ret
      exact ⟨rfl, bt HB10.out (bt hb7 (bt hb8 hb9))⟩
end Go.Proofs.YtcgcndmlgfnjbaaGreatDoor
/- The law on verdicts: their kinds: the walk. -/
namespace Go.Proofs.YtcgcndmlgfnjbaaGreatDoor
open Go Go.RowKit
set_option linter.unusedVariables false
theorem nl_take (l : List UInt8) (j : Nat) (h : j < l.length) : nlK (l.take (j + 1)) = nlK (l.take j) + if l[j] = 10 then 1 else 0 := by
  rw [List.take_succ_eq_append_getElem h, nl_app]
  congr 1
  unfold nlK
  by_cases h10 : l[j] = 10
  · rw [if_pos h10, h10]; rfl
  · rw [if_neg h10]; simp [h10]
theorem nl_le (l : List UInt8) : nlK l ≤ l.length := List.countP_le_length
theorem ext_pre (k x : List UInt8) : (str (k ++ x)).extract 0 k.length = str k := by
  rw [ext_mid, str_data, List.drop_zero, Nat.sub_zero, List.take_left]
theorem last_at (x : List UInt8) (s : ByteArray) (hs : s = str (x ++ [10])) (j : Nat) (hj : j = x.length) (h : j < s.size) : (((s[j]'h).toNat : Int) == 10) = true := by
  subst hs hj
  have h1 := byte_at (str (x ++ [10])) x.length h
  rw [← h1]
  simp [str]
set_option maxRecDepth 100000 in
set_option maxHeartbeats 8000000 in
theorem lawKinds_c (a : Vd) (ca sa : Value) (w : World) (ha : VdIn w a ca sa) (hE : Env w) :
    Calls Tryz.prog 7 #[vdV a ca sa] w (Yes w) := by
  obtain ⟨A1, k1, rfl, _⟩ := ha.cells.shape
  obtain ⟨A2, k2, rfl, _⟩ := ha.sched.shape
  have HE := Lib.hid hE
  have HCA : Hid (∀ u, Below w.heap.size w u → _) := fun u hu => cutV_c a A1 A2 k1 k2 u (ha.below hu)
  have HNA := Lib.hid (cut_nums ha.nums)
  have HOA : Hid (∀ W, Below w.heap.size w W → ∀ s', Pks W s' (cutV a).sched → VdOk W (cutV a) (.slice A1 (cutV a).bad.cells.length k1) s') := fun W hW s' hp => cut_ok ha hW hp
  have HSL := Lib.hid (cut_show_len a ha.nums)
  clear ha hE
  have hq0 := vdBox_new w a (.slice A1 a.bad.cells.length k1) (.slice A2 a.sched.length k2)
  have ha0 := al w (.cells (vdA a (.slice A1 a.bad.cells.length k1) (.slice A2 a.sched.length k2)) 28)
  have hs0 : (w.alloc (.cells (vdA a (.slice A1 a.bad.cells.length k1) (.slice A2 a.sched.length k2)) 28)).heap.size = w.heap.size + 1 := World.size_alloc _ _
  unfold vdV at HCA ⊢
  unfold vdA at hq0 ha0 hs0
  generalize cutV a = A at HCA HNA HOA HSL
  go_enter Tryz.func7, Tryz.ntmps7
  go_upto_region 1 with fail
  generalize w.alloc _ = X at hq0 ha0 hs0 ⊢
  have HQA := Lib.hid hq0
  have HBX := Lib.hid ha0
  have HSX := Lib.hid hs0
  obtain ⟨p0, p1, p2, p3, p4, p5, p6, p7, p8, p9⟩ := hq0.at_
  clear hq0 ha0 hs0
  go_upto_region 2 with (go_at_call 9; (with_reducible refine (HCA.out _ HBX.out).mono ?_); rintro e w1 ⟨A3, k3, rfl, hp1, hb1⟩; obtain ⟨r0, r1, r2, r3, r4, r5, r6, r7, r8, r9⟩ := (HQA.out.below hb1).at_; have f0 := (HQA.out.below hb1).frz 0; have f1 := (HQA.out.below hb1).frz 1; have f2 := (HQA.out.below hb1).frz 2; have f3 := (HQA.out.below hb1).frz 3; have f4 := (HQA.out.below hb1).frz 4; have f5 := (HQA.out.below hb1).frz 5; have f6 := (HQA.out.below hb1).frz 6; have f7 := (HQA.out.below hb1).frz 7; have f8 := (HQA.out.below hb1).frz 8; have f9 := (HQA.out.below hb1).frz 9)
  have hqa := (HQA.out.below hb1).put A (.slice A1 A.bad.cells.length k1) (.slice A3 A.sched.length k3)
  have hpa := put_off (S := Old X.heap.size) hp1 (q := w.heap.size) (by show _ < _; have := HSX.out; omega) (.int .i64 A.kind) (.int .i64 A.e) (.int .i64 A.pos) (.int .i64 A.paths) (.int .i64 A.ends) (.int .i64 A.bad.kind) (.int .i64 A.bad.what) (.int .i64 A.bad.crashes) (.slice A1 A.bad.cells.length k1) (.slice A3 A.sched.length k3)
  have hbx := put_below (bt HBX.out hb1) (Nat.le_refl w.heap.size) (.int .i64 A.kind) (.int .i64 A.e) (.int .i64 A.pos) (.int .i64 A.paths) (.int .i64 A.ends) (.int .i64 A.bad.kind) (.int .i64 A.bad.what) (.int .i64 A.bad.crashes) (.slice A1 A.bad.cells.length k1) (.slice A3 A.sched.length k3)
  clear r0 r1 r2 r3 r4 r5 r6 r7 r8 r9 f0 f1 f2 f3 f4 f5 f6 f7 f8 f9 p0 p1 p2 p3 p4 p5 p6 p7 p8 p9 hp1 hb1 HQA HCA HBX
  generalize World.setCell _ _ _ = Y at hqa hpa hbx ⊢
  have HA := Lib.hid (HOA.out Y hbx _ hpa.now)
  have HQA := Lib.hid hqa
  have HBX := Lib.hid hbx
  clear hqa hpa hbx HOA
  have HSP : Hid (∀ u, Below Y.heap.size Y u → _) := fun u hu => pShowV_c A _ _ u (HA.out.below hu) (HE.out.below (bt HBX.out hu)) HNA.out
  have HRP : Hid (∀ u, Below Y.heap.size Y u → _) := fun u hu => pRightV_c A _ _ u (HA.out.below hu)
  have HFX := Lib.hid (fun u (hu : Below Y.heap.size Y u) => fixed_c u (HE.out.below (bt HBX.out hu)))
  unfold vdV at HSP HRP
  obtain ⟨q0, q1, q2, q3, q4, q5, q6, q7, q8, q9⟩ := HQA.out.at_
  cases hr : rightV A
  · rw [showV_not hr] at HSP
    rw [hr] at HRP
    have hem : (str []).toList.isEmpty = true := by rw [str_toList]; rfl
    clear hr
    go_upto_region 3 with (go_at_call 12; (with_reducible refine (HSP.out _ (Below.refl _ _)).mono ?_); rintro e w2 ⟨rfl, hb2⟩)
    clear q0 q1 q2 q3 q4 q5 q6 q7 q8 q9
    obtain ⟨q0, q1, q2, q3, q4, q5, q6, q7, q8, q9⟩ := (HQA.out.below hb2).at_
    go_wp2_with (first
      | (go_at_call 10; (with_reducible refine (HRP.out _ hb2).mono ?_); rintro e w4 ⟨rfl, hb5⟩)
      | (go_at_call 16; refine (HFX.out _ (bt hb2 hb5)).mono ?_; rintro e w5 ⟨rfl, hb6⟩))
    go_ret
    exact ⟨rfl, bt HBX.out (bt hb2 (bt hb5 hb6))⟩
  · rw [showV_right hr] at HSP HSL
    rw [hr] at HRP
    have HNL := Lib.hid (nl_verdict A hr)
    obtain ⟨xl, hxl⟩ := verdict_last A
    obtain ⟨xf, hxf⟩ := verdict_first A hr
    have hrk := right_kind hr
    have hl1 : 1 ≤ (textV A).length := by rw [hxl]; simp
    have hlf : (firstK A.kind).length ≤ (textV A).length := by rw [hxf, List.length_append]; omega
    obtain ⟨S0, hS0⟩ : ∃ S0, S0 = str (textV A) := ⟨_, rfl⟩
    rw [← hS0] at HSP
    have hszT : S0.size = (textV A).length := by rw [hS0]; exact str_size _
    have HLA : Hid (∀ (j : Nat) (h : j < S0.size), j + 1 = S0.size → (((S0[j]'h).toNat : Int) == 10) = true) := fun j h hj => last_at xl S0 (by rw [hS0, hxl]) j (by rw [hszT, hxl] at hj; simp at hj; omega) h
    have HFI : Hid (S0.extract 0 (firstK A.kind).length = str (firstK A.kind)) := by show _ = _; rw [hS0, hxf]; exact ext_pre _ _
    have HBY : Hid (∀ (j : Nat) (h : j < (textV A).length) (h2 : j < S0.size), (textV A)[j] = S0[j]'h2) := fun j h h2 => by
      rw [← byte_at S0 j h2]
      have e : S0.data.toList = textV A := by rw [hS0]; exact str_data _
      exact (List.getElem_of_eq e _).symm
    clear hr hxl hxf hS0
    generalize textV A = T at HSL HNL hlf hl1 HBY hszT
    have HTL := Lib.hid (show T.length ≤ 200000 from HSL.out)
    have HL1 := Lib.hid hl1
    have HLF := Lib.hid hlf
    have HSZT := Lib.hid hszT
    clear hl1 hlf hszT
    go_upto_region 3 with (go_at_call 12; (with_reducible refine (HSP.out _ (Below.refl _ _)).mono ?_); rintro e w2 ⟨rfl, hb2⟩)
    clear q0 q1 q2 q3 q4 q5 q6 q7 q8 q9
    obtain ⟨q0, q1, q2, q3, q4, q5, q6, q7, q8, q9⟩ := (HQA.out.below hb2).at_
    go_upto_region 6 with (go_at_call 10; (with_reducible refine (HRP.out _ hb2).mono ?_); rintro e w4 ⟨rfl, hb5⟩)
    clear q0 q1 q2 q3 q4 q5 q6 q7 q8 q9
    have hb6 := bt hb2 (bt hb5 (al w4 (.cells #[.string ⟨#[]⟩, .string ⟨#[101, 114, 114, 111, 114, 32]⟩, .string ⟨#[115, 97, 102, 101, 32]⟩, .string ⟨#[118, 105, 111, 108, 97, 116, 105, 111, 110, 32]⟩, .string ⟨#[98, 117, 100, 103, 101, 116]⟩] 9)))
    have hn := fun j x h => cells_new w4 #[.string ⟨#[]⟩, .string ⟨#[101, 114, 114, 111, 114, 32]⟩, .string ⟨#[115, 97, 102, 101, 32]⟩, .string ⟨#[118, 105, 111, 108, 97, 116, 105, 111, 110, 32]⟩, .string ⟨#[98, 117, 100, 103, 101, 116]⟩] 9 j x h
    have c1 := hn 1 _ rfl
    have c2 := hn 2 _ rfl
    have c3 := hn 3 _ rfl
    have c4 := hn 4 _ rfl
    clear hn
    generalize w4.alloc _ = Z at hb6 c1 c2 c3 c4 ⊢
    have HZ := Lib.hid hb6
    have HQZ := Lib.hid (HQA.out.below hb6)
    have q0 := HQZ.out.at_.c0
    clear hb6 hb2 hb5 HSP HRP HQA
    go_cut [62] from 20 to 62 (fun c wx => c = .bool false ∧ Below Z.heap.size Z wx)
    case first =>
      rcases hrk with hk | hk | hk | hk
      · rw [hk] at q0
        have hf : S0.extract 0 6 = ⟨#[101, 114, 114, 111, 114, 32]⟩ := by have h := HFI.out; rw [hk] at h; exact h
        have hl : (6 : Int) ≤ (S0.size : Int) := by have h := HLF.out; rw [hk] at h; have h2 : 6 ≤ T.length := h; have := HSZT.out; omega
        have hl1 : (1 : Int) ≤ (S0.size : Int) := by omega
        have hsl : (S0.size : Int) ≤ 200000 := by have := HTL.out; have := HSZT.out; omega
        have hbo : decide ((S0.size : Int) < 6) = false := decide_eq_false (by omega)
        obtain ⟨m, hm⟩ : ∃ m : Nat, m + 1 = S0.size := ⟨S0.size - 1, by omega⟩
        have hsub : (S0.size : Int) - 1 = (m : Int) := by omega
        have hm0 : (0 : Int) ≤ (m : Int) := Int.natCast_nonneg _
        have hml : m < S0.size := by omega
        have hm1 : (m : Int) < (S0.size : Int) := by omega
        have hby := HLA.out m hml hm
        clear hk hm
        go_quiet (fail)
        go_wp2_with fail
        go_meet
        exact ⟨congrArg Value.bool (by rw [bne, hby]; rfl), bdrN (Below.refl _ _) _⟩
      · rw [hk] at q0
        have hf : S0.extract 0 5 = ⟨#[115, 97, 102, 101, 32]⟩ := by have h := HFI.out; rw [hk] at h; exact h
        have hl : (5 : Int) ≤ (S0.size : Int) := by have h := HLF.out; rw [hk] at h; have h2 : 5 ≤ T.length := h; have := HSZT.out; omega
        have hl1 : (1 : Int) ≤ (S0.size : Int) := by omega
        have hsl : (S0.size : Int) ≤ 200000 := by have := HTL.out; have := HSZT.out; omega
        have hbo : decide ((S0.size : Int) < 5) = false := decide_eq_false (by omega)
        obtain ⟨m, hm⟩ : ∃ m : Nat, m + 1 = S0.size := ⟨S0.size - 1, by omega⟩
        have hsub : (S0.size : Int) - 1 = (m : Int) := by omega
        have hm0 : (0 : Int) ≤ (m : Int) := Int.natCast_nonneg _
        have hml : m < S0.size := by omega
        have hm1 : (m : Int) < (S0.size : Int) := by omega
        have hby := HLA.out m hml hm
        clear hk hm
        go_quiet (fail)
        go_wp2_with fail
        go_meet
        exact ⟨congrArg Value.bool (by rw [bne, hby]; rfl), bdrN (Below.refl _ _) _⟩
      · rw [hk] at q0
        have hf : S0.extract 0 10 = ⟨#[118, 105, 111, 108, 97, 116, 105, 111, 110, 32]⟩ := by have h := HFI.out; rw [hk] at h; exact h
        have hl : (10 : Int) ≤ (S0.size : Int) := by have h := HLF.out; rw [hk] at h; have h2 : 10 ≤ T.length := h; have := HSZT.out; omega
        have hl1 : (1 : Int) ≤ (S0.size : Int) := by omega
        have hsl : (S0.size : Int) ≤ 200000 := by have := HTL.out; have := HSZT.out; omega
        have hbo : decide ((S0.size : Int) < 10) = false := decide_eq_false (by omega)
        obtain ⟨m, hm⟩ : ∃ m : Nat, m + 1 = S0.size := ⟨S0.size - 1, by omega⟩
        have hsub : (S0.size : Int) - 1 = (m : Int) := by omega
        have hm0 : (0 : Int) ≤ (m : Int) := Int.natCast_nonneg _
        have hml : m < S0.size := by omega
        have hm1 : (m : Int) < (S0.size : Int) := by omega
        have hby := HLA.out m hml hm
        clear hk hm
        go_quiet (fail)
        go_wp2_with fail
        go_meet
        exact ⟨congrArg Value.bool (by rw [bne, hby]; rfl), bdrN (Below.refl _ _) _⟩
      · rw [hk] at q0
        have hf : S0.extract 0 6 = ⟨#[98, 117, 100, 103, 101, 116]⟩ := by have h := HFI.out; rw [hk] at h; exact h
        have hl : (6 : Int) ≤ (S0.size : Int) := by have h := HLF.out; rw [hk] at h; have h2 : 6 ≤ T.length := h; have := HSZT.out; omega
        have hl1 : (1 : Int) ≤ (S0.size : Int) := by omega
        have hsl : (S0.size : Int) ≤ 200000 := by have := HTL.out; have := HSZT.out; omega
        have hbo : decide ((S0.size : Int) < 6) = false := decide_eq_false (by omega)
        obtain ⟨m, hm⟩ : ∃ m : Nat, m + 1 = S0.size := ⟨S0.size - 1, by omega⟩
        have hsub : (S0.size : Int) - 1 = (m : Int) := by omega
        have hm0 : (0 : Int) ≤ (m : Int) := Int.natCast_nonneg _
        have hml : m < S0.size := by omega
        have hm1 : (m : Int) < (S0.size : Int) := by omega
        have hby := HLA.out m hml hm
        clear hk hm
        go_quiet (fail)
        go_wp2_with fail
        go_meet
        exact ⟨congrArg Value.bool (by rw [bne, hby]; rfl), bdrN (Below.refl _ _) _⟩
    case rest =>
      obtain ⟨rfl, hbz⟩ := hcut
      have HBZ := Lib.hid (bt HBX.out (bt HZ.out hbz))
      have HQC := Lib.hid (HQZ.out.below hbz)
      have HTLS := HTL.out
      clear c1 c2 c3 c4 q0 hbz HQZ HZ
      go_wp2_with fail
      go_loopw [5, 6] (fun n k wr => ∃ j : Nat, k = .int .i64 j ∧ j ≤ T.length ∧ n = .int .i64 (nlK (T.take j) : Nat) ∧ wr = wc) (fun _ k _ => T.length - (intOf k).toNat)
      case atStart => exact ⟨0, rfl, Nat.zero_le _, rfl, rfl⟩
      case round =>
        obtain ⟨j, rfl, hj, rfl, rfl⟩ := hrel
        have hj0 : (0 : Int) ≤ (j : Int) := Int.natCast_nonneg _
        have hsz := HSZT.out
        have hnl : nlK (T.take j) ≤ 200000 := by
          have := nl_le (T.take j)
          rw [List.length_take] at this; omega
        by_cases hjl : j < T.length
        · have hjs : j < S0.size := by omega
          have hjl2 : (j : Int) < (S0.size : Int) := by omega
          have HNX := Lib.hid (nl_take T j hjl)
          have hby := HBY.out j hjl hjs
          clear hsz
          generalize nlK (T.take j) = n at hnl HNX ⊢
          by_cases h10 : T[j] = 10
          · have hbb : (((S0[j]'hjs).toNat : Int) == 10) = true := by rw [← hby, h10]; rfl
            have HNX2 : Hid (nlK (T.take (j + 1)) = n + 1) := by show _ = _; rw [HNX.out, if_pos h10]
            clear hby HNX h10
            go_wp2_with fail
            go_roundw
            case rel => exact ⟨j + 1, by go_num, by omega, by rw [HNX2.out]; go_num, by first | rfl | trivial⟩
            case measure => simp [intOf]; omega
          · have hbb : (((S0[j]'hjs).toNat : Int) == 10) = false := by
              rw [← hby]
              rw [beq_eq_false_iff_ne]
              intro e
              have h1 : (T[j]).toNat = 10 := by omega
              exact h10 (UInt8.toNat_inj.1 h1)
            have HNX2 : Hid (nlK (T.take (j + 1)) = n) := by show _ = _; rw [HNX.out, if_neg h10]; rfl
            clear hby HNX h10
            go_wp2_with fail
            go_roundw
            case rel => exact ⟨j + 1, by go_num, by omega, by rw [HNX2.out], by first | rfl | trivial⟩
            case measure => simp [intOf]; omega
        · obtain rfl : j = T.length := by omega
          have hjs : ¬ ((T.length : Int) < (S0.size : Int)) := by omega
          rw [List.take_length]
          have hnk := HNL.out
          rw [hnk, show ((1 + A.sched.length : Nat) : Int) = 1 + (A.sched.length : Int) by omega]
          have heq : (1 + (A.sched.length : Int) == 1 + (A.sched.length : Int)) = true := by simp
          have hlsch : A.sched.length ≤ 200000 := by rw [List.take_length] at hnl; omega
          have q9 := HQC.out.at_.c9
          clear hnk hsz hnl
          go_wp2_with (go_at_call 16; refine (fixed_c _ (HE.out.below HBZ.out)).mono ?_; rintro e w7 ⟨rfl, hb7⟩)
          go_ret
          exact ⟨rfl, bt HBZ.out hb7⟩
end Go.Proofs.YtcgcndmlgfnjbaaGreatDoor
/- The law on results: their ends: the walk. -/
namespace Go.Proofs.YtcgcndmlgfnjbaaGreatDoor
open Go Go.RowKit
set_option linter.unusedVariables false
theorem own_off {S : Nat → Prop} {w : World} {base : Nat} {e : TypeId} {size : Nat} {v : Value} {n : Nat} {xs : List Value} (h : w.ownsRow base e size v n xs) (hS : ∀ k, v.ownBlock = some k → ¬ S k) : Off S w (fun u => u.ownsRow base e size v n xs) := fun w' h1 h2 => by
  refine ⟨h.1, ?_⟩
  rcases h.2 with h3 | ⟨g, cap, cur, hv, hb, hg, hr⟩
  · exact .inl h3
  · refine .inr ⟨g, cap, cur, hv, hb, ?_, hr⟩
    rw [h2 g (by rw [Array.getElem?_eq_some_iff] at hg; exact hg.1) (hS g (by rw [hv]; rfl))]
    exact hg
theorem and3 (x : Int) : 0 ≤ bits BinOp.and IntKind.i64 x 3 ∧ bits BinOp.and IntKind.i64 x 3 < 4 := by
  simp only [bits]
  have h : ((BitVec.ofInt IntKind.i64.bits x) &&& (BitVec.ofInt IntKind.i64.bits 3)).toNat ≤ 3 := by
    rw [BitVec.toNat_and]; exact Nat.and_le_right
  rw [IntKind.wrap_i64]
  omega
theorem info_end : (Tryz.prog.info? 25).map (fun i => (i.zero, i.size, i.bytes)) = some (some (.agg #[.int .i64 0, .int .i64 0, .int .i64 0, .slice none 0 0]), 4, 48) := by kernel_rfl
theorem end_one (l : List Ev) : ∀ u ∈ l.flatMap Ev.cells, u.oneCell' = true := by
  intro u hu
  obtain ⟨x, _, hx⟩ := List.mem_flatMap.1 hu
  simp only [Ev.cells, List.mem_cons, List.not_mem_nil, or_false] at hx
  rcases hx with rfl | rfl | rfl | rfl <;> rfl
theorem sl_end (w : World) (x : Ev) : SlN (w.alloc (.cells #[.int .i64 x.k, .int .i64 x.wh, .int .i64 x.cr, .slice x.a x.n x.c] 25)) (.slice (some ⟨w.heap.size, 0, none⟩) 1 1) 4 1 ([x].flatMap Ev.cells) := by
  have := sl_lit w (Ev.cells x) 25 4 1 1 rfl (Nat.le_refl _)
  rw [show [x].flatMap Ev.cells = Ev.cells x by simp]
  exact this
theorem rev_step (L : List Ev) (j m : Nat) (h : j + (m + 1) = L.length) : (L.reverse.take (j + 1)).flatMap Ev.cells = (L.reverse.take j).flatMap Ev.cells ++ [L[m]'(by omega)].flatMap Ev.cells := by
  rw [List.take_succ_eq_append_getElem (by rw [List.length_reverse]; omega), List.flatMap_append, List.getElem_reverse]
  congr 4
  omega
set_option maxRecDepth 100000 in
set_option maxHeartbeats 8000000 in
theorem lawEnds_c (l : List Ev) (hl : l.length ≤ 9223372036854775807) (p : Int) (hp : I64 p) (b : En) (ev bv sv : Value) (hbv : ∃ A n c, bv = .slice A n c) (hsv : ∃ A n c, sv = .slice A n c) (w : World) (hv : Ends w ev l) (hk : ∀ x ∈ l, I64 x.k) (hE : Env w) :
    Calls Tryz.prog 8 #[reV ev p b bv sv] w (Yes w) := by
  obtain ⟨i0, hi0, hz0, hz1, hz2⟩ := info_parts info_end
  obtain ⟨A1, n1, m1, rfl⟩ := hbv
  obtain ⟨A2, n2, m2, rfl⟩ := hsv
  obtain ⟨_, A0, c0, rfl, hc0, _⟩ := id hv
  have HV := Lib.hid hv
  have HE := Lib.hid hE
  have HKI := Lib.hid hk
  clear hv hE hk
  unfold reV
  go_enter Tryz.func8, Tryz.ntmps8
  go_upto_region 1 with fail
  have hq : ∀ u, Below (w.alloc (.cells #[.slice A0 l.length c0, .int .i64 p, .int .i64 b.kind, .int .i64 b.what, .int .i64 b.crashes, .slice A1 n1 m1, .slice A2 n2 m2] 40)).heap.size (w.alloc (.cells #[.slice A0 l.length c0, .int .i64 p, .int .i64 b.kind, .int .i64 b.what, .int .i64 b.crashes, .slice A1 n1 m1, .slice A2 n2 m2] 40)) u → u.cell? ⟨w.heap.size, 0, none⟩ = some (.slice A0 l.length c0) ∧ u.cell? ⟨w.heap.size, 1, none⟩ = some (.int .i64 p) := fun u hu => by
    have h0 := fun j x (h : (#[.slice A0 l.length c0, .int .i64 p, .int .i64 b.kind, .int .i64 b.what, .int .i64 b.crashes, .slice A1 n1 m1, .slice A2 n2 m2] : Array Value)[j]? = some x) => (hu.cell (p := ⟨w.heap.size, j, none⟩) (by simp only; rw [World.size_alloc]; omega)).trans (cells_new w #[.slice A0 l.length c0, .int .i64 p, .int .i64 b.kind, .int .i64 b.what, .int .i64 b.crashes, .slice A1 n1 m1, .slice A2 n2 m2] 40 j x h)
    exact ⟨h0 0 _ rfl, h0 1 _ rfl⟩
  have ha := al w (.cells #[.slice A0 l.length c0, .int .i64 p, .int .i64 b.kind, .int .i64 b.what, .int .i64 b.crashes, .slice A1 n1 m1, .slice A2 n2 m2] 40)
  have hs : (w.alloc (.cells #[.slice A0 l.length c0, .int .i64 p, .int .i64 b.kind, .int .i64 b.what, .int .i64 b.crashes, .slice A1 n1 m1, .slice A2 n2 m2] 40)).heap.size = w.heap.size + 1 := World.size_alloc _ _
  generalize w.alloc _ = U at hq ha hs ⊢
  have HQ := Lib.hid hq
  have HBU := Lib.hid ha
  have HSU := Lib.hid hs
  have HO1 := Lib.hid (own_below (own_empty U 25 4 (by decide)) (al _ (.cells #[] 25)))
  have HO2 : Hid (((U.alloc (.cells #[] 25)).alloc (.cells #[] 25)).ownsRow (U.heap.size + 1) 25 4 (.slice (some ⟨U.heap.size + 1, 0, none⟩) 0 0) 0 []) := by
    have h := own_empty (U.alloc (.cells #[] 25)) 25 4 (by decide)
    rw [World.size_alloc] at h
    exact h
  have HBV := Lib.hid (balloc (al U (.cells #[] 25)) (.cells #[] 25))
  have hs2 : ((U.alloc (.cells #[] 25)).alloc (.cells #[] 25)).heap.size = U.heap.size + 1 + 1 := by rw [World.size_alloc, World.size_alloc]
  clear hq ha hs
  go_upto_region 2 with fail
  generalize World.alloc (World.alloc U _) _ = V at HO1 HO2 HBV hs2 ⊢
  have HOF := Lib.hid (own_off (S := fun k => k ≠ U.heap.size + 1) HO2.out (fun k hk h => h (by simpa [Value.ownBlock] using hk.symm)))
  have HSV := Lib.hid hs2
  clear hs2 HO2
  go_upto_block 0 with fail
  go_cut [3, 5, 6] from 18 to 41 (fun out _ _ wx => ∃ (L : List Ev) (A : Option Addr) (c : Nat), out = .slice A L.length c ∧ L.length ≤ 60 ∧ (∀ x ∈ L, 0 ≤ x.k ∧ x.k < 4) ∧ wx.ownsRow U.heap.size 25 4 (.slice A L.length c) L.length (L.flatMap Ev.cells) ∧ (Value.slice A L.length c).ownBlock ≠ some (U.heap.size + 1) ∧ Off (fun k => k ≠ U.heap.size + 1) wx (fun u => u.ownsRow (U.heap.size + 1) 25 4 (.slice (some ⟨U.heap.size + 1, 0, none⟩) 0 0) 0 []) ∧ Below U.heap.size U wx ∧ U.heap.size + 1 < wx.heap.size)
  case first =>
    go_wp2_with fail
    go_loopw [3, 5] (fun out k wr => ∃ (j : Nat) (L : List Ev) (A : Option Addr) (c : Nat), k = .int .i64 j ∧ j ≤ l.length ∧ j ≤ 60 ∧ out = .slice A L.length c ∧ L.length = j ∧ (∀ x ∈ L, 0 ≤ x.k ∧ x.k < 4) ∧ wr.ownsRow U.heap.size 25 4 (.slice A L.length c) L.length (L.flatMap Ev.cells) ∧ (Value.slice A L.length c).ownBlock ≠ some (U.heap.size + 1) ∧ Off (fun k => k ≠ U.heap.size + 1) wr (fun u => u.ownsRow (U.heap.size + 1) 25 4 (.slice (some ⟨U.heap.size + 1, 0, none⟩) 0 0) 0 []) ∧ Below U.heap.size U wr ∧ U.heap.size + 1 < wr.heap.size) (fun _ k _ => 60 - (intOf k).toNat)
    case atStart => exact ⟨0, [], some ⟨U.heap.size, 0, none⟩, 0, rfl, Nat.zero_le _, by omega, rfl, rfl, by simp, HO1.out, by simp [Value.ownBlock], HOF.out, HBV.out, by have := HSV.out; omega⟩
    case round =>
      obtain ⟨j, L, A, c, rfl, hj, hj60, rfl, hLj, hLk, hown, hne, hoff, hbu, htb⟩ := hrel
      have HLJ := Lib.hid hLj
      have HLK := Lib.hid hLk
      have HOWN := Lib.hid hown
      have HNE := Lib.hid hne
      have HOFF := Lib.hid hoff
      have HBW := Lib.hid hbu
      have HTB := Lib.hid htb
      obtain ⟨q0, q1⟩ := HQ.out wr hbu
      have hb := bt HBU.out hbu
      have hj0 : (0 : Int) ≤ (j : Int) := Int.natCast_nonneg _
      clear hLk hown hne hoff hbu htb
      by_cases hjl : j < l.length
      · have hjl2 : (j : Int) < (l.length : Int) := by omega
        by_cases hj6 : j < 60
        · have hj62 : (j : Int) < 60 := by omega
          obtain ⟨eb, off, c1, hE0, hcc, hbt, hat⟩ := Ends.at_ (l := l) HV.out (by omega)
          cases hE0
          have hx := hat j hjl
          have hx0 := (hb.cell (p := ⟨eb, _, none⟩) hbt).trans hx.k
          have hx1 := (hb.cell (p := ⟨eb, _, none⟩) hbt).trans hx.wh
          have hx2 := (hb.cell (p := ⟨eb, _, none⟩) hbt).trans hx.cr
          have hx3 := (hb.cell (p := ⟨eb, _, none⟩) hbt).trans hx.v
          have hki := HKI.out _ (List.getElem_mem hjl)
          clear hx hat hb
          generalize l[j] = x at hx0 hx1 hx2 hx3 hki
          obtain ⟨xk, xw, xc, xa, xn, xm⟩ := x
          unfold Ev.v at hx3
          simp only at hx0 hx1 hx2 hx3 hki
          go_upto_region 6 with fail
          have hcn := fun i y h => cells_new wr #[.int .i64 xk, .int .i64 xw, .int .i64 xc, .slice xa xn xm] 25 i y h
          have e0 := hcn 0 _ rfl
          have e1 := hcn 1 _ rfl
          have e2 := hcn 2 _ rfl
          have e3 := hcn 3 _ rfl
          have f0 : (wr.alloc (.cells #[.int .i64 xk, .int .i64 xw, .int .i64 xc, .slice xa xn xm] 25)).frozen? ⟨wr.heap.size, 0, none⟩ = false := by simp
          have HBX := Lib.hid (al wr (.cells #[.int .i64 xk, .int .i64 xw, .int .i64 xc, .slice xa xn xm] 25))
          clear hx0 hx1 hx2 hx3 hcn q0 q1
          generalize wr.alloc _ = X at e0 e1 e2 e3 f0 HBX ⊢
          go_upto_region 7 with fail
          have hy := and3 xk
          generalize bits BinOp.and IntKind.i64 xk 3 = y at hy ⊢
          have e0' : (X.setCell ⟨wr.heap.size, 0, none⟩ (.int .i64 y)).cell? ⟨wr.heap.size, 0, none⟩ = some (.int .i64 y) := by simp [World.cell?_setCell_same', e0]
          have e1' : (X.setCell ⟨wr.heap.size, 0, none⟩ (.int .i64 y)).cell? ⟨wr.heap.size, 1, none⟩ = some (.int .i64 xw) := by simp [World.cell?_setCell_other]; exact e1
          have e2' : (X.setCell ⟨wr.heap.size, 0, none⟩ (.int .i64 y)).cell? ⟨wr.heap.size, 2, none⟩ = some (.int .i64 xc) := by simp [World.cell?_setCell_other]; exact e2
          have e3' : (X.setCell ⟨wr.heap.size, 0, none⟩ (.int .i64 y)).cell? ⟨wr.heap.size, 3, none⟩ = some (.slice xa xn xm) := by simp [World.cell?_setCell_other]; exact e3
          have HB2 : Hid (Below wr.heap.size wr (X.setCell ⟨wr.heap.size, 0, none⟩ (.int .i64 y))) := below_set HBX.out (Nat.le_refl _) _
          clear e0 e1 e2 e3 f0 HBX
          generalize X.setCell _ _ = Y at e0' e1' e2' e3' HB2 ⊢
          have HT4 : Hid (L.length + 1 ≤ maxLen ∧ (L.length + 1) * 48 ≤ 140737488355328) := by show _ ∧ _; unfold maxLen; constructor <;> omega
          have HY := Lib.hid hy
          clear hy hLj
          go_wp2_with (first
            | (at_builtin; refine wpl_appO rfl _ _ 38 rfl U.heap.size 25 i0 _ 4 48 Tryz.underlying38 hi0 hz0 hz1 hz2 rfl (by decide) (.slice A L.length c) L.length (L.flatMap Ev.cells) rfl (own_below (own_below HOWN.out HB2.out) (al Y _)) (.slice (some ⟨Y.heap.size, 0, none⟩) 1 1) 1 ([(⟨y, xw, xc, xa, xn, xm⟩ : Ev)].flatMap Ev.cells) rfl (sl_end Y ⟨y, xw, xc, xa, xn, xm⟩) (end_one _) HT4.out.1 HT4.out.2 (Nat.le_trans HBW.out.size (Nat.le_trans HB2.out.size (al Y _).size)) ?_; intro v6 w6 hown6 hb6 hg6 hat6; obtain ⟨A6, c6, rfl⟩ := own_shape hown6; have hB6 := btB (bt (bt HBW.out HB2.out) (al Y _)) hb6 (Nat.le_refl _)))
          go_roundw
          case rel =>
            refine ⟨j + 1, L ++ [⟨y, xw, xc, xa, xn, xm⟩], A6, c6, by go_num, by omega, by omega, by rw [List.length_append]; rfl, by rw [List.length_append, HLJ.out]; rfl, ?_, ?_, ?_, ?_, hB6, ?_⟩
            · intro x hx
              rcases List.mem_append.1 hx with hx | hx
              · exact HLK.out x hx
              · simp only [List.mem_cons, List.not_mem_nil, or_false] at hx
                subst hx; exact HY.out
            · rw [List.length_append, List.flatMap_append]; exact hown6
            · rw [List.length_append]
              intro e
              rcases hat6 with h | h
              · exact HNE.out (h.symm.trans e)
              · rw [show (Value.slice A6 (L.length + 1) c6).ownBlock = some (U.heap.size + 1) from e] at h
                injection h with h
                have h1 := HTB.out
                have h2 := HB2.out.size
                have h3 := (al Y (.cells #[.int .i64 y, .int .i64 xw, .int .i64 xc, .slice xa xn xm] 25)).size
                omega
            · exact ((HOFF.out.below HB2.out).below (al Y _)).grown hg6 (fun k hk e => HNE.out (hk.trans (congrArg some e)))
            · have h1 := HTB.out
              have h2 := HB2.out.size
              have h3 := (al Y (.cells #[.int .i64 y, .int .i64 xw, .int .i64 xc, .slice xa xn xm] 25)).size
              have h4 := hg6.size
              omega
          case measure => simp [intOf]; omega
        · have hj62 : ¬ (j : Int) < 60 := by omega
          go_wp2_with fail
          go_meet
          exact ⟨L, A, c, by rw [HLJ.out], by omega, HLK.out, HOWN.out, HNE.out, HOFF.out, HBW.out, HTB.out⟩
      · have hjl2 : ¬ (j : Int) < (l.length : Int) := by omega
        go_wp2_with fail
        go_meet
        exact ⟨L, A, c, by rw [HLJ.out], by omega, HLK.out, HOWN.out, HNE.out, HOFF.out, HBW.out, HTB.out⟩
  case rest =>
    obtain ⟨L, A, c, rfl, hL60, hLk, hown, hne, hoff, hbw, htb⟩ := hcut
    have hOL := off_own (S := fun k => (Value.slice A L.length c).ownBlock ≠ some k) hown (fun k hk h => h hk)
    have HLT : Hid (∀ k, (Value.slice A L.length c).ownBlock = some k → U.heap.size ≤ k ∧ k < wc.heap.size) := fun k hk => hown.lt k hk
    have HOL : Hid (Off (fun k => (Value.slice A L.length c).ownBlock ≠ some k) wc (fun u => Ends u (.slice A L.length c) L)) := hOL
    have HLK := Lib.hid hLk
    have HO4 := Lib.hid hoff.now
    have HNE := Lib.hid hne
    have HBW := Lib.hid hbw
    have HTB := Lib.hid htb
    clear hLk hown hne hoff hbw htb hOL HKI HV HOF HO1 HBV HSV
    go_wp2_with fail
    go_loopw [4, 7] (fun out k wr => ∃ (j m : Nat) (A4 : Option Addr) (c4 : Nat), j + m = L.length ∧ k = .int .i64 ((m : Int) - 1) ∧ out = .slice A4 j c4 ∧ wr.ownsRow (U.heap.size + 1) 25 4 (.slice A4 j c4) j ((L.reverse.take j).flatMap Ev.cells) ∧ (Value.slice A L.length c).ownBlock ≠ (Value.slice A4 j c4).ownBlock ∧ Off (fun k => (Value.slice A L.length c).ownBlock ≠ some k) wr (fun u => Ends u (.slice A L.length c) L) ∧ wc.heap.size ≤ wr.heap.size ∧ Below U.heap.size U wr) (fun _ k _ => (intOf k + 1).toNat)
    case atStart => exact ⟨0, L.length, some ⟨U.heap.size + 1, 0, none⟩, 0, by omega, rfl, rfl, HO4.out, HNE.out, HOL.out, Nat.le_refl _, HBW.out⟩
    case round =>
      obtain ⟨j, m, A4, c4, hjm, rfl, rfl, hown, hne, hoff, hsz, hbu⟩ := hrel
      have HOWN := Lib.hid hown
      have HN4 := Lib.hid hne
      have HOF4 := Lib.hid hoff
      have HS4 := Lib.hid hsz
      have HBU4 := Lib.hid hbu
      have HJM := Lib.hid hjm
      clear hown hne hoff hsz hbu
      cases m with
      | succ m =>
        have hk1 : ((m + 1 : Nat) : Int) - 1 = (m : Int) := by omega
        rw [hk1]
        obtain ⟨eb, off, c1, hE0, hcc, hbt, hat⟩ := Ends.at_ (l := L) HOF4.out.now (by omega)
        cases hE0
        have hx := hat m (by omega)
        have hx0 := hx.k
        have hx1 := hx.wh
        have hx2 := hx.cr
        have hx3 := hx.v
        have HNX := Lib.hid (rev_step L j m hjm)
        have hm0 : (0 : Int) ≤ (m : Int) := Int.natCast_nonneg _
        have hm1 : (m : Int) < (L.length : Int) := by omega
        clear hx hat
        generalize L[m] = x at hx0 hx1 hx2 hx3 HNX
        obtain ⟨xk, xw, xc, xa, xn, xm⟩ := x
        unfold Ev.v at hx3
        simp only at hx0 hx1 hx2 hx3
        have HT4 : Hid (j + 1 ≤ maxLen ∧ (j + 1) * 48 ≤ 140737488355328) := by show _ ∧ _; unfold maxLen; constructor <;> omega
        go_wp2_with (first
          | (at_builtin; refine wpl_appO rfl _ _ 38 rfl (U.heap.size + 1) 25 i0 _ 4 48 Tryz.underlying38 hi0 hz0 hz1 hz2 rfl (by decide) (.slice A4 j c4) j ((L.reverse.take j).flatMap Ev.cells) rfl (own_below HOWN.out (al wr _)) (.slice (some ⟨wr.heap.size, 0, none⟩) 1 1) 1 ([(⟨xk, xw, xc, xa, xn, xm⟩ : Ev)].flatMap Ev.cells) rfl (sl_end wr ⟨xk, xw, xc, xa, xn, xm⟩) (end_one _) HT4.out.1 HT4.out.2 (by have h1 := HTB.out; have h2 := HS4.out; have h3 := (al wr (.cells #[.int .i64 xk, .int .i64 xw, .int .i64 xc, .slice xa xn xm] 25)).size; omega) ?_; intro v6 w6 hown6 hb6 hg6 hat6; obtain ⟨A6, c6, rfl⟩ := own_shape hown6; have hB6 := btB (bt HBU4.out (al wr _)) hb6 (Nat.le_succ _)))
        go_roundw
        case rel =>
          have hs3 := (al wr (.cells #[.int .i64 xk, .int .i64 xw, .int .i64 xc, .slice xa xn xm] 25)).size
          refine ⟨j + 1, m, A6, c6, by have := HJM.out; omega, by go_num, rfl, by rw [HNX.out]; exact hown6, ?_, ?_, by have h1 := HS4.out; have h2 := hg6.size; omega, hB6⟩
          · intro e
            rcases hat6 with h | h
            · exact HN4.out (e.trans h)
            · have h1 := (HLT.out _ (e.trans h)).2
              have h2 := HS4.out
              omega
          · exact (HOF4.out.below (al wr _)).grown hg6 (fun k hk e => HN4.out (e.trans hk.symm))
        case measure => simp [intOf]
      | zero =>
        obtain rfl : j = L.length := by omega
        have hm0 : ¬ (0 : Int) ≤ ((0 : Nat) : Int) - 1 := by omega
        have HR4 : Hid (Ends wr (.slice A4 L.length c4) L.reverse) := by
          have h := sl_of_own HOWN.out
          rw [show L.reverse.take L.length = L.reverse from List.take_of_length_le (by rw [List.length_reverse]; omega)] at h
          show SlN wr _ 4 L.reverse.length _
          rw [List.length_reverse]; exact h
        have HR3 := Lib.hid HOF4.out.now
        clear HOWN HN4 HOF4 HJM
        have hks : ∀ x ∈ ksE L, x < 4 := fun x hx => by
          unfold ksE at hx
          obtain ⟨y, hy, rfl⟩ := List.mem_map.1 hx
          exact (HLK.out y hy).2
        have HNL : Hid (nlK (countsK (ksE L) p) = kindsK (ksE L) 4 + 1) := by show _ = _; rw [nl_counts, kinds_four _ hks]
        have hkl : (ksE L).length ≤ 60 := by unfold ksE; rw [List.length_map]; exact hL60
        have HTL : Hid ((countsK (ksE L) p).length ≤ 300) := by
          show _ ≤ _
          have h1 := headC_len (ksE L) (by omega) 5
          have h2 := itoaZ_len p hp
          unfold countsK endC
          simp only [List.length_append, List.length_cons, List.length_nil, wPaths]
          omega
        obtain ⟨S0, hS0⟩ : ∃ S0, S0 = str (countsK (ksE L) p) := ⟨_, rfl⟩
        have HSZT : Hid (S0.size = (countsK (ksE L) p).length) := by show _ = _; rw [hS0]; exact str_size _
        have HBY : Hid (∀ (j : Nat) (h : j < (countsK (ksE L) p).length) (h2 : j < S0.size), (countsK (ksE L) p)[j] = S0[j]'h2) := fun j h h2 => by
          rw [← byte_at S0 j h2]
          have e : S0.data.toList = countsK (ksE L) p := by rw [hS0]; exact str_data _
          exact (List.getElem_of_eq e _).symm
        have HC1 : Hid (∀ u, Below wr.heap.size wr u → Calls Tryz.prog 19 #[reV (.slice A L.length c) p zeroE (.slice none 0 0) (.slice none 0 0)] u fun e w' => e = .returned (.string S0) ∧ Below u.heap.size u w') := fun u hu => by
          rw [hS0]
          exact pCounts_c L (by omega) p hp zeroE _ _ _ u (SlN.below HR3.out hu) (HE.out.below (bt HBU.out (bt HBU4.out hu)))
        have HC2 : Hid (∀ u, Below wr.heap.size wr u → Calls Tryz.prog 19 #[reV (.slice A4 L.length c4) p zeroE (.slice none 0 0) (.slice none 0 0)] u fun e w' => e = .returned (.string S0) ∧ Below u.heap.size u w') := fun u hu => by
          have h := pCounts_c L.reverse (by rw [List.length_reverse]; omega) p hp zeroE _ (.slice none 0 0) (.slice none 0 0) u (SlN.below HR4.out hu) (HE.out.below (bt HBU.out (bt HBU4.out hu)))
          rw [show ksE L.reverse = (ksE L).reverse by unfold ksE; rw [List.map_reverse], counts_turn, ← hS0] at h
          exact h
        clear hS0 hks hkl
        unfold reV zeroE at HC1 HC2
        simp only at HC1 HC2
        have HKS : Hid (∀ k j : Nat, cntK (ksE (L.take j)) (k : Int) ≤ 60) := fun k j => by
          have h1 := cntK_le (ksE (L.take j)) (k : Int)
          have h2 : (ksE (L.take j)).length ≤ 60 := by unfold ksE; rw [List.length_map, List.length_take]; omega
          omega
        have HKK : Hid (∀ k : Nat, kindsK (ksE L) k ≤ k) := fun k => by
          induction k with
          | zero => exact Nat.le_refl _
          | succ k ih =>
            show kindsK (ksE L) k + (if 0 < cntK (ksE L) (k : Int) then 1 else 0) ≤ k + 1
            split <;> omega
        obtain ⟨q0, q1⟩ := HQ.out wr HBU4.out
        go_upto_region 13 with (go_at_call 19; (with_reducible refine (HC1.out _ (Below.refl _ _)).mono ?_); rintro e w2 ⟨rfl, hb2⟩)
        clear q0 q1
        obtain ⟨q0, q1⟩ := HQ.out w2 (bt HBU4.out hb2)
        go_upto_region 14 with (go_at_call 19; (with_reducible refine (HC2.out _ hb2).mono ?_); rintro e w3 ⟨rfl, hb3⟩)
        clear q0 q1
        have HR5 := Lib.hid (SlN.below HR3.out (bt hb2 hb3))
        have HBF := Lib.hid (bt HBU.out (bt HBU4.out (bt hb2 hb3)))
        clear HC1 HC2 hb2 hb3 HR4 HR3
        generalize countsK (ksE L) p = T at HNL HTL HSZT HBY
        go_upto_block 4 with fail
        go_cut [10, 11, 12, 13] from 66 to 88 (fun n _ _ _ wx => n = .int .i64 (kindsK (ksE L) 4 : Nat) ∧ wx = w3)
        case first =>
          go_wp2_with fail
          go_loopw [10, 11] (fun n k wx => ∃ i : Nat, k = .int .i64 i ∧ i ≤ 4 ∧ n = .int .i64 (kindsK (ksE L) i : Nat) ∧ wx = w3) (fun _ k _ => 4 - (intOf k).toNat)
          case atStart => exact ⟨0, rfl, by decide, rfl, rfl⟩
          case round =>
            obtain ⟨i, rfl, hi, rfl, rfl⟩ := hrel
            have hi0 : (0 : Int) ≤ (i : Int) := Int.natCast_nonneg _
            have hkn := HKK.out i
            by_cases hi4 : i < 4
            · have hi42 : (i : Int) < 4 := by omega
              have HKN : Hid (kindsK (ksE L) (i + 1) = kindsK (ksE L) i + if 0 < cntK (ksE L) (i : Int) then 1 else 0) := rfl
              generalize kindsK (ksE L) i = kn at hkn HKN ⊢
              go_wp2_with fail
              go_loopw [12, 13] (fun t k wy => ∃ j : Nat, k = .int .i64 j ∧ j ≤ L.length ∧ t = .bool (decide (0 < cntK (ksE (L.take j)) (i : Int))) ∧ wy = wr) (fun _ k _ => L.length - (intOf k).toNat)
              case atStart => exact ⟨0, rfl, Nat.zero_le _, rfl, rfl⟩
              case round =>
                obtain ⟨j, rfl, hj, rfl, rfl⟩ := hrel
                have hj0 : (0 : Int) ≤ (j : Int) := Int.natCast_nonneg _
                by_cases hjl : j < L.length
                · have hjl2 : (j : Int) < (L.length : Int) := by omega
                  have HNX := Lib.hid (cnt_step L j hjl (i : Int))
                  obtain ⟨eb, off, c1, hE0, hcc, hbt, hat⟩ := Ends.at_ (l := L) HR5.out (by omega)
                  cases hE0
                  have hx0 := (hat j hjl).k
                  clear hat
                  generalize (L[j]).k = xk at hx0 HNX
                  generalize cntK (ksE (L.take j)) (i : Int) = m at HNX ⊢
                  cases hm : decide (0 < m)
                  · have hm0 : m = 0 := by have := of_decide_eq_false hm; omega
                    by_cases hk : xk = (i : Int)
                    · have hkq : (xk == (i : Int)) = true := by simpa using hk
                      have HN2 : Hid (decide (0 < cntK (ksE (L.take (j + 1))) (i : Int)) = true) := by show _ = _; rw [HNX.out, if_pos hk]; simp
                      clear hk HNX hm
                      go_wp2_with fail
                      go_roundw
                      case rel => exact ⟨j + 1, by go_num, by omega, by rw [HN2.out], by first | rfl | trivial⟩
                      case measure => simp [intOf]; omega
                    · have hkq : (xk == (i : Int)) = false := by simpa using hk
                      have HN2 : Hid (decide (0 < cntK (ksE (L.take (j + 1))) (i : Int)) = false) := by show _ = _; rw [HNX.out, if_neg hk, hm0]; rfl
                      clear hk HNX hm
                      go_wp2_with fail
                      go_roundw
                      case rel => exact ⟨j + 1, by go_num, by omega, by rw [HN2.out], by first | rfl | trivial⟩
                      case measure => simp [intOf]; omega
                  · have HN2 : Hid (decide (0 < cntK (ksE (L.take (j + 1))) (i : Int)) = true) := by
                      show _ = _
                      rw [HNX.out]
                      have := of_decide_eq_true hm
                      exact decide_eq_true (by omega)
                    clear HNX hm
                    go_wp2_with fail
                    go_roundw
                    case rel => exact ⟨j + 1, by go_num, by omega, by rw [HN2.out], by first | rfl | trivial⟩
                    case measure => simp [intOf]; omega
                · obtain rfl : j = L.length := by omega
                  rw [List.take_length]
                  by_cases hc : 0 < cntK (ksE L) (i : Int)
                  · have HK2 : Hid (kindsK (ksE L) (i + 1) = kn + 1) := by show _ = _; rw [HKN.out, if_pos hc]
                    rw [decide_eq_true hc]
                    clear hc HKN
                    go_wp2_with fail
                    go_roundw
                    case rel => exact ⟨i + 1, by go_num, by omega, by rw [HK2.out]; go_num, by first | rfl | trivial⟩
                    case measure => simp [intOf]; omega
                  · have HK2 : Hid (kindsK (ksE L) (i + 1) = kn) := by show _ = _; rw [HKN.out, if_neg hc]; rfl
                    rw [decide_eq_false hc]
                    clear hc HKN
                    go_wp2_with fail
                    go_roundw
                    case rel => exact ⟨i + 1, by go_num, by omega, by rw [HK2.out], by first | rfl | trivial⟩
                    case measure => simp [intOf]; omega
            · obtain rfl : i = 4 := by omega
              go_wp2_with fail
              go_meet
              exact ⟨rfl, rfl⟩
        case rest =>
          obtain ⟨rfl, rfl⟩ := hcut
          have hK4 := HKK.out 4
          have HNN := HNL
          generalize kindsK (ksE L) 4 = kn at HNL hK4 HNN ⊢
          have HK4 := Lib.hid hK4
          clear hK4 HKK HR5 HNN
          go_wp2_with fail
          go_loopw [14, 15] (fun n k wr => ∃ j : Nat, k = .int .i64 j ∧ j ≤ T.length ∧ n = .int .i64 (nlK (T.take j) : Nat) ∧ wr = wc) (fun _ k _ => T.length - (intOf k).toNat)
          case atStart => exact ⟨0, rfl, Nat.zero_le _, rfl, rfl⟩
          case round =>
            obtain ⟨j, rfl, hj, rfl, rfl⟩ := hrel
            have hj0 : (0 : Int) ≤ (j : Int) := Int.natCast_nonneg _
            have hsz := HSZT.out
            have hnl : nlK (T.take j) ≤ 300 := by
              have := nl_le (T.take j)
              have := HTL.out
              rw [List.length_take] at *; omega
            have HTLS := HTL.out
            by_cases hjl : j < T.length
            · have hjs : j < S0.size := by omega
              have hjl2 : (j : Int) < (S0.size : Int) := by omega
              have HNX := Lib.hid (nl_take T j hjl)
              have hby := HBY.out j hjl hjs
              clear hsz
              generalize nlK (T.take j) = n at hnl HNX ⊢
              by_cases h10 : T[j] = 10
              · have hbb : (((S0[j]'hjs).toNat : Int) == 10) = true := by rw [← hby, h10]; rfl
                have HNX2 : Hid (nlK (T.take (j + 1)) = n + 1) := by show _ = _; rw [HNX.out, if_pos h10]
                clear hby HNX h10
                go_wp2_with fail
                go_roundw
                case rel => exact ⟨j + 1, by go_num, by omega, by rw [HNX2.out]; go_num, by first | rfl | trivial⟩
                case measure => simp [intOf]; omega
              · have hbb : (((S0[j]'hjs).toNat : Int) == 10) = false := by
                  rw [← hby]
                  rw [beq_eq_false_iff_ne]
                  intro e
                  have h1 : (T[j]).toNat = 10 := by omega
                  exact h10 (UInt8.toNat_inj.1 h1)
                have HNX2 : Hid (nlK (T.take (j + 1)) = n) := by show _ = _; rw [HNX.out, if_neg h10]; rfl
                clear hby HNX h10
                go_wp2_with fail
                go_roundw
                case rel => exact ⟨j + 1, by go_num, by omega, by rw [HNX2.out], by first | rfl | trivial⟩
                case measure => simp [intOf]; omega
            · obtain rfl : j = T.length := by omega
              have hjs : ¬ ((T.length : Int) < (S0.size : Int)) := by omega
              rw [List.take_length]
              have hnk := HNL.out
              rw [hnk, show ((kn + 1 : Nat) : Int) = (kn : Int) + 1 by omega]
              have heq : ((kn : Int) + 1 == (kn : Int) + 1) = true := by simp
              have hkn4 := HK4.out
              have HBA := Lib.hid (fun u => rBad_c zeroE (.slice none 0 0) u)
              unfold enV zeroE badE at HBA
              simp only at HBA
              clear hnk hsz hnl
              go_wp2_with (first
                | (go_at_call 21; (with_reducible refine (HBA.out _).mono ?_); rintro e w6 ⟨rfl, hb6⟩)
                | (go_at_call 16; refine (fixed_c _ (HE.out.below (bt HBF.out hb6))).mono ?_; rintro e w7 ⟨rfl, hb7⟩))
              go_ret
              exact ⟨rfl, bt HBF.out (bt hb6 hb7)⟩
end Go.Proofs.YtcgcndmlgfnjbaaGreatDoor

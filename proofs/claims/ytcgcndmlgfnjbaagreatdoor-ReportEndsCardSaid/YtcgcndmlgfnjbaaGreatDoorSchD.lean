/- A pick's line: the reference's walk. -/
import Derived.Test.YtcgcndmlgfnjbaaGreatDoorSchC
namespace Go.Proofs.YtcgcndmlgfnjbaaGreatDoor
open Go Go.RowKit
set_option linter.unusedVariables false
theorem rline_one (t : Int) (ht : inE t 99 = true) (v : Value) (w : World) (i : Int) :
    Calls Tryz.prog 55 #[.agg #[.int .i64 1, .int .i64 t, .int .i64 i, v]] w fun e w' => e = .returned (.string (str ((wStep ++ 32 :: Lib.itoa t) ++ [10]))) ∧ Below w.heap.size w w' := by
  obtain ⟨h0, h1⟩ := in_le ht
  have HT := Lib.hid (fun u => rtext_c t h0 (by omega) u)
  have hz := itoa_str_le t h0 (by omega)
  have HS : Hid ((⟨#[115, 116, 101, 112, 32]⟩ ++ str (Lib.itoa t)) ++ ⟨#[10]⟩ = str ((wStep ++ 32 :: Lib.itoa t) ++ [10])) := by
    show (str [115, 116, 101, 112, 32] ++ _) ++ str [10] = _
    rw [str_snoc, str_snoc]; rfl
  generalize str (Lib.itoa t) = s at HT hz HS
  go_enter Tryz.func55, Tryz.ntmps55
  go_wp2_with (go_at_call 34; refine (HT.out _).mono ?_; rintro e w' ⟨rfl, hb⟩)
  go_ret
  exact ⟨ret_str HS.out, bt (al _ _) hb⟩
set_option maxRecDepth 100000 in
set_option maxHeartbeats 4000000 in
theorem rline_two (t i : Int) (ht : inE t 99 = true) (hi : inE i 99 = true) (v : Value) (w : World) :
    Calls Tryz.prog 55 #[.agg #[.int .i64 2, .int .i64 t, .int .i64 i, v]] w fun e w' => e = .returned (.string (str ((wOut ++ 32 :: (Lib.itoa t ++ 32 :: Lib.itoa i)) ++ [10]))) ∧ Below w.heap.size w w' := by
  obtain ⟨h0, h1⟩ := in_le ht
  obtain ⟨h2, h3⟩ := in_le hi
  have HT := Lib.hid (fun u => rtext_c t h0 (by omega) u)
  have HI := Lib.hid (fun u => rtext_c i h2 (by omega) u)
  have hz := itoa_str_le t h0 (by omega)
  have hy := itoa_str_le i h2 (by omega)
  have HS : Hid ((((⟨#[111, 117, 116, 32]⟩ ++ str (Lib.itoa t)) ++ ⟨#[32]⟩) ++ str (Lib.itoa i)) ++ ⟨#[10]⟩ = str ((wOut ++ 32 :: (Lib.itoa t ++ 32 :: Lib.itoa i)) ++ [10])) := by
    show (((str [111, 117, 116, 32] ++ _) ++ str [32]) ++ _) ++ str [10] = _
    rw [str_snoc, str_snoc, str_snoc, str_snoc]
    congr 1
    simp [wOut]
  generalize str (Lib.itoa t) = s at HT hz HS
  generalize str (Lib.itoa i) = r at HI hy HS
  go_enter Tryz.func55, Tryz.ntmps55
  go_upto_region 4 with fail
  generalize hW : World.alloc w _ = wd
  have hwd : Below w.heap.size w wd := by subst hW; exact al _ _
  have hlt : w.heap.size < wd.heap.size := by subst hW; rw [World.size_alloc]; omega
  have hc1 : wd.cell? ⟨w.heap.size, 1, none⟩ = some (.int .i64 t) := by subst hW; exact cells_new _ _ _ _ _ rfl
  have hc2 : wd.cell? ⟨w.heap.size, 2, none⟩ = some (.int .i64 i) := by subst hW; exact cells_new _ _ _ _ _ rfl
  have HC1 := Lib.hid hc1
  have HC2 := Lib.hid hc2
  have HWD := Lib.hid hwd
  clear hW hwd h0 h1 h2 h3 ht hi
  have f1 : ¬ (9223372036854775807 < 4 + s.size) := by omega
  have f2 : ¬ (9223372036854775807 < 4 + s.size + 1) := by omega
  have f2' : ¬ (9223372036854775806 < 4 + s.size) := by omega
  have f3 : ¬ (9223372036854775807 < 4 + s.size + 1 + r.size) := by omega
  have f4 : ¬ (9223372036854775807 < 4 + s.size + 1 + r.size + 1) := by omega
  have f4' : ¬ (9223372036854775806 < 4 + s.size + 1 + r.size) := by omega
  go_region_held3 (fun w' => w'.cell? ⟨w.heap.size, 1, none⟩ = some (.int .i64 t) ∧ w'.cell? ⟨w.heap.size, 2, none⟩ = some (.int .i64 i)) (first | exact ⟨by assumption, by assumption⟩ | go_keep)
    (first
    | (go_at_call_of 34 (Value.int .i64 t); refine (HT.out _).mono ?_; rintro e w3 ⟨rfl, hb3⟩; have hB3 : Below wd.heap.size wd w3 := bt (by repeat (first | exact Below.refl _ _ | refine bdrN ?_ _ | refine bdr ?_)) hb3; have hd1 := (hB3.cell (p := ⟨w.heap.size, 1, none⟩) hlt).trans HC1.out; have hd2 := (hB3.cell (p := ⟨w.heap.size, 2, none⟩) hlt).trans HC2.out; have hD3 := bt HWD.out hB3)
    | (go_at_call_of 34 (Value.int .i64 i); refine (HI.out _).mono ?_; rintro e w4 ⟨rfl, hb4⟩; have hB4 : Below wd.heap.size wd w4 := bt (by repeat (first | exact hB3 | refine bdrN ?_ _ | refine bdr ?_)) hb4; have hd3 := (hB4.cell (p := ⟨w.heap.size, 1, none⟩) hlt).trans HC1.out; have hd4 := (hB4.cell (p := ⟨w.heap.size, 2, none⟩) hlt).trans HC2.out; have hD4 := bt HWD.out hB4))
  all_goals
    go_wp2_with fail
    go_ret
    exact ⟨ret_str HS.out, (by repeat (first | exact hD4 | refine bdrN ?_ _ | refine bdr ?_))⟩
set_option maxRecDepth 100000 in
set_option maxHeartbeats 4000000 in
theorem rline_three (t i : Int) (l : List Int) (hl : l.length ≤ 20) (ha : allIn l = true) (v : Value) (w : World) (hv : Zs w v l) :
    Calls Tryz.prog 55 #[.agg #[.int .i64 3, .int .i64 t, .int .i64 i, v]] w fun e w' => e = .returned (.string (str ((wCrash ++ tailB (l.map Lib.itoa)) ++ [10]))) ∧ Below w.heap.size w w' := by
  obtain ⟨A0, c0, rfl, hc0⟩ := hv.shape
  have HV := Lib.hid (SlN.below hv (al w (.cells #[.int .i64 3, .int .i64 t, .int .i64 i, .slice A0 l.length c0] 48)))
  have HA := Lib.hid ha
  clear hv ha
  go_enter Tryz.func55, Tryz.ntmps55
  go_wp2_with fail
  generalize hW : World.alloc w _ = wd at HV ⊢
  have hwd : Below w.heap.size w wd := by subst hW; exact al _ _
  have hlt : w.heap.size < wd.heap.size := by subst hW; rw [World.size_alloc]; omega
  have hc3 : wd.cell? ⟨w.heap.size, 3, none⟩ = some (.slice A0 l.length c0) := by subst hW; exact cells_new _ _ _ _ _ rfl
  have HC3 := Lib.hid hc3
  have HWD := Lib.hid hwd
  clear hW hwd hc3
  go_loopw [3, 4] (fun s k wr => Below wd.heap.size wd wr ∧ ∃ j : Nat, j ≤ l.length ∧ k = .int .i64 j ∧ s = .string (str (wCrash ++ tailB ((l.take j).map Lib.itoa)))) (fun _ k _ => l.length - (intOf k).toNat)
  case atStart => exact ⟨Below.refl _ _, 0, Nat.zero_le _, rfl, rfl⟩
  case round =>
    obtain ⟨hb, j, hj, rfl, rfl⟩ := hrel
    have HB := Lib.hid hb
    have hj0 : (0 : Int) ≤ (j : Int) := Int.natCast_nonneg _
    have hcc3 := (hb.cell (p := ⟨w.heap.size, 3, none⟩) hlt).trans HC3.out
    have hso : (str (wCrash ++ tailB ((l.take j).map Lib.itoa))).size ≤ 1000 := by
      have := tail_le (l.take j) (allIn_take HA.out j)
      rw [List.length_take] at this
      rw [str_size, List.length_append]
      show 5 + _ ≤ _
      omega
    by_cases hjl : j < l.length
    · have hjl2 : (j : Int) < (l.length : Int) := by omega
      obtain ⟨b, off, c, hE0, hcc, hbt, hat⟩ := Zs.at_ (l := l) HV.out (by omega)
      cases hE0
      have hx0 := (hb.cell (p := ⟨_, _, none⟩) hbt).trans (hat j hjl)
      have hin := allIn_at HA.out j hjl
      have HS : Hid (str (wCrash ++ tailB ((l.take j).map Lib.itoa)) ++ (⟨#[32]⟩ ++ str (Lib.itoa l[j])) = str (wCrash ++ tailB ((l.take (j + 1)).map Lib.itoa))) := by
        show _ ++ (str [32] ++ _) = _
        rw [itoa_take l j hjl, str_snoc, str_snoc, List.append_assoc]
        rfl
      have HT := Lib.hid (rtext_c (l[j]) hin.1 (by omega) wr)
      have hz := itoa_str_le (l[j]) hin.1 (by omega)
      clear hb hat hin
      generalize str (wCrash ++ tailB ((l.take j).map Lib.itoa)) = so at HS hso ⊢
      generalize str (Lib.itoa l[j]) = tx at HS HT hz
      generalize l[j] = x at hx0 HT
      go_wp2_with (go_at_call 34; refine (HT.out).mono ?_; rintro e w3 ⟨rfl, hb3⟩)
      go_roundw
      case rel => exact ⟨bt HB.out hb3, j + 1, by omega, by go_num, by rw [← HS.out]⟩
      case measure => simp [intOf]; omega
    · obtain rfl : j = l.length := by omega
      have HF : Hid (str (wCrash ++ tailB ((l.take l.length).map Lib.itoa)) ++ ⟨#[10]⟩ = str ((wCrash ++ tailB (l.map Lib.itoa)) ++ [10])) := by
        show _ ++ str [10] = _
        rw [List.take_length, str_snoc]
      generalize str (wCrash ++ tailB ((l.take l.length).map Lib.itoa)) = so at HF hso ⊢
      go_wp2_with fail
      go_ret
      exact ⟨by first | rfl | exact ret_str HF.out, bt HWD.out HB.out⟩
theorem rline_c (p : Pk) (hr : rightK p = true) (v : Value) (w : World) (hv : Zs w v p.cut) :
    Calls Tryz.prog 55 #[pkV p v] w fun e w' => e = .returned (.string (str (lineK p ++ [10]))) ∧ Below w.heap.size w w' := by
  unfold pkV
  by_cases k1 : p.kind = 1
  · have h := right_one k1
    rw [hr] at h
    have ht : inE p.t 99 = true := by
      cases h1 : inE p.t 99
      · rw [h1] at h; simp at h
      · rfl
    have e : lineK p = wStep ++ 32 :: Lib.itoa p.t := by unfold lineK; rw [if_pos k1]; simp [joinB, tailB]
    rw [e, k1]
    exact rline_one p.t ht v w p.i
  · by_cases k2 : p.kind = 2
    · have h := right_two k2
      rw [hr] at h
      have ht : inE p.t 99 = true ∧ inE p.i 99 = true := by
        cases h1 : inE p.t 99
        · rw [h1] at h; simp at h
        · cases h2 : inE p.i 99
          · rw [h1, h2] at h; simp at h
          · exact ⟨rfl, rfl⟩
      have e : lineK p = wOut ++ 32 :: (Lib.itoa p.t ++ 32 :: Lib.itoa p.i) := by unfold lineK; rw [if_neg k1, if_pos k2]; simp [joinB, tailB]
      rw [e, k2]
      exact rline_two p.t p.i ht.1 ht.2 v w
    · by_cases k3 : p.kind = 3
      · have h := right_three k3
        rw [hr] at h
        have h2 := h.symm
        simp only [Bool.and_eq_true, decide_eq_true_eq] at h2
        have e : lineK p = wCrash ++ tailB (p.cut.map Lib.itoa) := by unfold lineK; rw [if_neg k1, if_neg k2]; rfl
        rw [e, k3]
        exact rline_three p.t p.i p.cut (by omega) h2.2 v w hv
      · rw [right_else k1 k2 k3] at hr; cases hr
end Go.Proofs.YtcgcndmlgfnjbaaGreatDoor

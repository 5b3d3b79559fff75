/- A pick's line: the program's walk. -/
import Derived.Test.YtcgcndmlgfnjbaaGreatDoorSchA
import Derived.Test.YtcgcndmlgfnjbaaGreatDoorTxtA
namespace Go.Proofs.YtcgcndmlgfnjbaaGreatDoor
open Go Go.RowKit
set_option linter.unusedVariables false
theorem bdr {B : Nat} {a w : World} (h : Below B a w) : Below B a w.drew := ⟨h.os, h.tape, h.output, h.size, h.block⟩
theorem bdrN {B : Nat} {a w : World} (h : Below B a w) (n : Nat) : Below B a (w.drewN n) := ⟨h.os, h.tape, h.output, h.size, h.block⟩
theorem in_le {n m : Int} (h : inE n m = true) : 0 ≤ n ∧ n ≤ m := by
  unfold inE at h
  simp only [Bool.and_eq_true, decide_eq_true_eq] at h
  exact h
theorem itoa_str_le (n : Int) (h0 : 0 ≤ n) (h1 : n ≤ 4294967296) : (str (Lib.itoa n)).size ≤ 10 := by
  rw [str_size]; exact itoa_len n h0 (by omega)
theorem line_one (t : Int) (ht : inE t 99 = true) (v : Value) (w : World) (hE : Env w) (i : Int) :
    Calls Tryz.prog 53 #[.agg #[.int .i64 1, .int .i64 t, .int .i64 i, v]] w fun e w' => e = .returned (.string (str (wStep ++ 32 :: Lib.itoa t))) ∧ Below w.heap.size w w' := by
  obtain ⟨h0, h1⟩ := in_le ht
  have HT := Lib.hid (text_c t h0 (by omega) _ (hE.below (al w (.cells #[.int .i64 1, .int .i64 t, .int .i64 i, v] 48))))
  have hz := itoa_str_le t h0 (by omega)
  have HS : Hid (⟨#[115, 116, 101, 112, 32]⟩ ++ str (Lib.itoa t) = str (wStep ++ 32 :: Lib.itoa t)) := by
    show str [115, 116, 101, 112, 32] ++ _ = _
    rw [str_snoc]; rfl
  generalize str (Lib.itoa t) = s at HT hz HS
  clear hE
  go_enter Tryz.func53, Tryz.ntmps53
  go_wp2_with (go_at_call 49; refine (HT.out).mono ?_; rintro e w' ⟨rfl, hb⟩)
  go_ret
  exact ⟨ret_str HS.out, bt (al _ _) hb⟩
set_option maxRecDepth 100000 in
set_option maxHeartbeats 4000000 in
theorem line_two (t i : Int) (ht : inE t 99 = true) (hi : inE i 99 = true) (v : Value) (w : World) (hE : Env w) :
    Calls Tryz.prog 53 #[.agg #[.int .i64 2, .int .i64 t, .int .i64 i, v]] w fun e w' => e = .returned (.string (str (wOut ++ 32 :: (Lib.itoa t ++ 32 :: Lib.itoa i)))) ∧ Below w.heap.size w w' := by
  obtain ⟨h0, h1⟩ := in_le ht
  obtain ⟨h2, h3⟩ := in_le hi
  have HT := Lib.hid (fun u hu => text_c t h0 (by omega) u hu)
  have HI := Lib.hid (fun u hu => text_c i h2 (by omega) u hu)
  have hz := itoa_str_le t h0 (by omega)
  have hy := itoa_str_le i h2 (by omega)
  have HS : Hid (((⟨#[111, 117, 116, 32]⟩ ++ str (Lib.itoa t)) ++ ⟨#[32]⟩) ++ str (Lib.itoa i) = str (wOut ++ 32 :: (Lib.itoa t ++ 32 :: Lib.itoa i))) := by
    show ((str [111, 117, 116, 32] ++ _) ++ str [32]) ++ _ = _
    rw [str_snoc, str_snoc, str_snoc]
    congr 1
    simp [wOut]
  generalize str (Lib.itoa t) = s at HT hz HS
  generalize str (Lib.itoa i) = r at HI hy HS
  go_enter Tryz.func53, Tryz.ntmps53
  go_upto_region 5 with fail
  generalize hW : World.alloc w _ = wd
  have hwd : Below w.heap.size w wd := by subst hW; exact al _ _
  have hlt : w.heap.size < wd.heap.size := by subst hW; rw [World.size_alloc]; omega
  have hc1 : wd.cell? ⟨w.heap.size, 1, none⟩ = some (.int .i64 t) := by subst hW; exact cells_new _ _ _ _ _ rfl
  have hc2 : wd.cell? ⟨w.heap.size, 2, none⟩ = some (.int .i64 i) := by subst hW; exact cells_new _ _ _ _ _ rfl
  have HC1 := Lib.hid hc1
  have HC2 := Lib.hid hc2
  have HWD := Lib.hid hwd
  have HE := Lib.hid hE
  clear hW hwd hE h0 h1 h2 h3 ht hi
  have f1 : ¬ (9223372036854775807 < 4 + s.size) := by omega
  have f2 : ¬ (9223372036854775807 < 4 + s.size + 1) := by omega
  have f2' : ¬ (9223372036854775806 < 4 + s.size) := by omega
  have f3 : ¬ (9223372036854775807 < 4 + s.size + 1 + r.size) := by omega
  go_region_held3 (fun w' => w'.cell? ⟨w.heap.size, 1, none⟩ = some (.int .i64 t) ∧ w'.cell? ⟨w.heap.size, 2, none⟩ = some (.int .i64 i)) (first | exact ⟨by assumption, by assumption⟩ | go_keep)
    (first
    | (go_at_call_of 49 (Value.int .i64 t); refine (HT.out _ ?_).mono ?_; (refine HE.out.below ?_; (repeat (first | exact HWD.out | refine bdrN ?_ _ | refine bdr ?_))); rintro e w3 ⟨rfl, hb3⟩; have hB3 : Below wd.heap.size wd w3 := bt (by repeat (first | exact Below.refl _ _ | refine bdrN ?_ _ | refine bdr ?_)) hb3; have hd1 := (hB3.cell (p := ⟨w.heap.size, 1, none⟩) hlt).trans HC1.out; have hd2 := (hB3.cell (p := ⟨w.heap.size, 2, none⟩) hlt).trans HC2.out; have hD3 := bt HWD.out hB3)
    | (go_at_call_of 49 (Value.int .i64 i); refine (HI.out _ ?_).mono ?_; (refine HE.out.below ?_; (repeat (first | exact hD3 | refine bdrN ?_ _ | refine bdr ?_))); rintro e w4 ⟨rfl, hb4⟩; have hB4 : Below wd.heap.size wd w4 := bt (by repeat (first | exact hB3 | refine bdrN ?_ _ | refine bdr ?_)) hb4; have hd3 := (hB4.cell (p := ⟨w.heap.size, 1, none⟩) hlt).trans HC1.out; have hd4 := (hB4.cell (p := ⟨w.heap.size, 2, none⟩) hlt).trans HC2.out; have hD4 := bt HWD.out hB4))
  all_goals
    go_wp2_with fail
    go_ret
    exact ⟨ret_str HS.out, (by repeat (first | exact hD4 | refine bdrN ?_ _ | refine bdr ?_))⟩
theorem tailB_snoc (l : List (List UInt8)) (x : List UInt8) : tailB (l ++ [x]) = tailB l ++ 32 :: x := by simp [tailB]
theorem itoa_take (l : List Int) (j : Nat) (h : j < l.length) : tailB ((l.take (j + 1)).map Lib.itoa) = tailB ((l.take j).map Lib.itoa) ++ 32 :: Lib.itoa l[j] := by
  rw [List.take_succ_eq_append_getElem h, List.map_append, List.map_singleton, tailB_snoc]
theorem tail_le : ∀ (l : List Int), allIn l = true → (tailB (l.map Lib.itoa)).length ≤ 11 * l.length
  | [], _ => by simp [tailB]
  | n :: l, h => by
    unfold allIn at h
    rw [List.all_cons, Bool.and_eq_true] at h
    have h1 := tail_le l h.2
    obtain ⟨h2, h3⟩ := in_le h.1
    have := itoa_len n h2 (by omega)
    have e : (tailB ((n :: l).map Lib.itoa)).length = 1 + (Lib.itoa n).length + (tailB (l.map Lib.itoa)).length := by
      simp only [tailB, List.map_cons, List.flatMap_cons, List.length_append, List.length_cons]; omega
    rw [e, List.length_cons]; omega
theorem allIn_take {l : List Int} (h : allIn l = true) (j : Nat) : allIn (l.take j) = true := by
  unfold allIn at h ⊢
  rw [List.all_eq_true] at h ⊢
  exact fun x hx => h x (List.mem_of_mem_take hx)
theorem allIn_at {l : List Int} (h : allIn l = true) (j : Nat) (hj : j < l.length) : 0 ≤ l[j] ∧ l[j] ≤ 9999 := by
  unfold allIn at h
  rw [List.all_eq_true] at h
  exact in_le (h _ (List.getElem_mem hj))
set_option maxRecDepth 100000 in
set_option maxHeartbeats 4000000 in
theorem line_three (t i : Int) (l : List Int) (hl : l.length ≤ 20) (ha : allIn l = true) (v : Value) (w : World) (hv : Zs w v l) (hE : Env w) :
    Calls Tryz.prog 53 #[.agg #[.int .i64 3, .int .i64 t, .int .i64 i, v]] w fun e w' => e = .returned (.string (str (wCrash ++ tailB (l.map Lib.itoa)))) ∧ Below w.heap.size w w' := by
  obtain ⟨A0, c0, rfl, hc0⟩ := hv.shape
  have HV := Lib.hid hv
  have HE := Lib.hid hE
  have HA := Lib.hid ha
  clear hv hE ha
  go_enter Tryz.func53, Tryz.ntmps53
  go_wp2_with fail
  go_loopw [3, 28] (fun s k wr => Below w.heap.size w wr ∧ ∃ j : Nat, j ≤ l.length ∧ k = .int .i64 j ∧ s = .string (str (wCrash ++ tailB ((l.take j).map Lib.itoa)))) (fun _ k _ => l.length - (intOf k).toNat)
  case atStart => exact ⟨al _ _, 0, Nat.zero_le _, rfl, rfl⟩
  case round =>
    obtain ⟨hb, j, hj, rfl, rfl⟩ := hrel
    have HB := Lib.hid hb
    have hj0 : (0 : Int) ≤ (j : Int) := Int.natCast_nonneg _
    by_cases hjl : j < l.length
    · have hjl2 : (j : Int) < (l.length : Int) := by omega
      obtain ⟨b, off, c, hE0, hcc, hbt, hat⟩ := HV.out.at_ (by omega)
      cases hE0
      have hx0 := (hb.cell (p := ⟨_, _, none⟩) hbt).trans (hat j hjl)
      have hin := allIn_at HA.out j hjl
      have hso : (str (wCrash ++ tailB ((l.take j).map Lib.itoa))).size ≤ 1000 := by
        have := tail_le (l.take j) (allIn_take HA.out j)
        rw [List.length_take] at this
        rw [str_size, List.length_append]
        show 5 + _ ≤ _
        omega
      have HS : Hid (str (wCrash ++ tailB ((l.take j).map Lib.itoa)) ++ (⟨#[32]⟩ ++ str (Lib.itoa l[j])) = str (wCrash ++ tailB ((l.take (j + 1)).map Lib.itoa))) := by
        show _ ++ (str [32] ++ _) = _
        rw [itoa_take l j hjl, str_snoc, str_snoc, List.append_assoc]
        rfl
      have HT := Lib.hid (text_c (l[j]) hin.1 (by omega) wr (HE.out.below hb))
      have hz := itoa_str_le (l[j]) hin.1 (by omega)
      clear hb hat hin
      generalize str (wCrash ++ tailB ((l.take j).map Lib.itoa)) = so at HS hso ⊢
      generalize str (Lib.itoa l[j]) = tx at HS HT hz
      generalize l[j] = x at hx0 HT
      go_wp2_with (go_at_call 49; refine (HT.out).mono ?_; rintro e w3 ⟨rfl, hb3⟩)
      go_roundw
      case rel => exact ⟨bt HB.out hb3, j + 1, by omega, by go_num, by rw [← HS.out]⟩
      case measure => simp [intOf]; omega
    · obtain rfl : j = l.length := by omega
      have HF : Hid (str (wCrash ++ tailB ((l.take l.length).map Lib.itoa)) = str (wCrash ++ tailB (l.map Lib.itoa))) := by show _ = _; rw [List.take_length]
      go_wp2_with fail
      go_ret
      exact ⟨by first | rfl | exact ret_str HF.out, HB.out⟩
theorem pline_c (p : Pk) (hr : rightK p = true) (v : Value) (w : World) (hv : Zs w v p.cut) (hE : Env w) :
    Calls Tryz.prog 53 #[pkV p v] w fun e w' => e = .returned (.string (str (lineK p))) ∧ Below w.heap.size w w' := by
  unfold pkV
  by_cases k1 : p.kind = 1
  · have h := right_one k1
    rw [hr] at h
    have ht : inE p.t 99 = true := by
      cases h1 : inE p.t 99
      · rw [h1] at h; simp at h
      · rfl
    have e : lineK p = wStep ++ 32 :: Lib.itoa p.t := by unfold lineK; rw [if_pos k1]; simp [joinB, tailB]
    rw [e, k1]
    exact line_one p.t ht v w hE p.i
  · by_cases k2 : p.kind = 2
    · have h := right_two k2
      rw [hr] at h
      have ht : inE p.t 99 = true ∧ inE p.i 99 = true := by
        cases h1 : inE p.t 99
        · rw [h1] at h; simp at h
        · cases h2 : inE p.i 99
          · rw [h1, h2] at h; simp at h
          · exact ⟨rfl, rfl⟩
      have e : lineK p = wOut ++ 32 :: (Lib.itoa p.t ++ 32 :: Lib.itoa p.i) := by unfold lineK; rw [if_neg k1, if_pos k2]; simp [joinB, tailB]
      rw [e, k2]
      exact line_two p.t p.i ht.1 ht.2 v w hE
    · by_cases k3 : p.kind = 3
      · have h := right_three k3
        rw [hr] at h
        have h2 := h.symm
        simp only [Bool.and_eq_true, decide_eq_true_eq] at h2
        have e : lineK p = wCrash ++ tailB (p.cut.map Lib.itoa) := by unfold lineK; rw [if_neg k1, if_neg k2]; rfl
        rw [e, k3]
        exact line_three p.t p.i p.cut (by omega) h2.2 v w hv hE
      · rw [right_else k1 k2 k3] at hr; cases hr
end Go.Proofs.YtcgcndmlgfnjbaaGreatDoor

/- A line of words and numbers: the program's walk. -/
import Derived.Test.YtcgcndmlgfnjbaaGreatDoorSchK
import Derived.Test.YtcgcndmlgfnjbaaGreatDoorTxtB
import Derived.Test.YtcgcndmlgfnjbaaGreatDoorRepPlain
import Derived.Test.YtcgcndmlgfnjbaaGreatDoorRepE1
import Derived.Deep.RegionHeld3
import Derived.Test.YtcgcndmlgfnjbaaGreatDoorSchF
namespace Go.Proofs.YtcgcndmlgfnjbaaGreatDoor
open Go Go.RowKit
set_option linter.unusedVariables false
/-- what may stand in a line -/
inductive It where
  | txt (l : List UInt8)
  | num (n : Int)
  | nums (v : Value) (l : List Int)
def It.words : It → List (List UInt8)
  | .txt l => [l]
  | .num n => [Lib.itoa n]
  | .nums _ l => l.map Lib.itoa
def It.val : It → Value
  | .txt l => .iface 9 (.string (str l))
  | .num n => .iface 3 (.int .i64 n)
  | .nums v _ => .iface 23 v
def It.cells (x : It) : List Value := [x.val]
def It.ok (w : World) : It → Prop
  | .txt _ => True
  | .num n => I64 n
  | .nums v l => Zs w v l ∧ ∀ n ∈ l, I64 n
theorem It.ok_below {w w' : World} {x : It} (h : x.ok w) (hb : Below w.heap.size w w') : x.ok w' := by
  cases x with
  | txt l => exact True.intro
  | num n => exact h
  | nums v l => exact ⟨SlN.below h.1 hb, h.2⟩
abbrev Its (w : World) (v : Value) (l : List It) : Prop := SlN w v 1 l.length (l.flatMap It.cells)
theorem Its.at_ {w : World} {v : Value} {l : List It} (h : Its w v l) (h0 : 0 < l.length) :
    ∃ b off c, v = .slice (some ⟨b, off, none⟩) l.length c ∧ l.length ≤ c ∧ b < w.heap.size ∧ ∀ i (hi : i < l.length), w.cell? ⟨b, off + i, none⟩ = some (l[i]).val := by
  obtain ⟨_, A, c, hv, hc, hf⟩ := h
  obtain ⟨b, off, hA, hlt, hcell⟩ := hf h0
  subst hA
  refine ⟨b, off, c, hv, hc, hlt, fun i hi => ?_⟩
  have hg := flat_getElem It.cells 1 (fun _ => rfl) l i 0 hi (by omega)
  have := hcell (i * 1 + 0) _ hg
  rw [show off + (i * 1 + 0) = off + i by omega] at this
  exact this
theorem as_str (v : Value) (W : World) : (Instr.typeAssert (.iface 9 v) 20 9 true).run Tryz.prog W = .ok (.tuple #[v, .bool true]) W := by kernel_rfl
theorem as_int (v : Value) (W : World) : (Instr.typeAssert (.iface 3 v) 20 3 true).run Tryz.prog W = .ok (.tuple #[v, .bool true]) W := by kernel_rfl
theorem as_ints (v : Value) (W : World) : (Instr.typeAssert (.iface 23 v) 20 23 true).run Tryz.prog W = .ok (.tuple #[v, .bool true]) W := by kernel_rfl
theorem no_str1 (v : Value) (W : World) : (Instr.typeAssert (.iface 3 v) 20 9 true).run Tryz.prog W = .ok (.tuple #[.string ⟨#[]⟩, .bool false]) W := by kernel_rfl
theorem no_str2 (v : Value) (W : World) : (Instr.typeAssert (.iface 23 v) 20 9 true).run Tryz.prog W = .ok (.tuple #[.string ⟨#[]⟩, .bool false]) W := by kernel_rfl
theorem no_int (v : Value) (W : World) : (Instr.typeAssert (.iface 23 v) 20 3 true).run Tryz.prog W = .ok (.tuple #[.int .i64 0, .bool false]) W := by kernel_rfl
theorem join_is : ∀ (l : List (List UInt8)), Lib.join l [32] = joinB l
  | [] => rfl
  | x :: r => by
    rw [Lib.join_cons]
    show _ = x ++ tailB r
    unfold tailB Lib.joinTail
    rw [List.flatMap_def]
    rfl
theorem join_c (L : List (List UInt8)) (hn : L.length ≤ 100000000) (hl : (joinB L).length ≤ 1000000000000) (v : Value) (w : World) (hv : Strs w v L) :
    Calls Tryz.prog 50 #[v, .string ⟨#[32]⟩] w fun e w' => e = .returned (.string (str (joinB L))) ∧ Below w.heap.size w w' := by
  by_cases h0 : 0 < L.length
  · obtain ⟨b, off, c, rfl, hc, hb, hat⟩ := Strs.at_ hv h0
    have e : (L.map str).map (·.data.toList) = L := by
      rw [List.map_map]
      conv => rhs; rw [← List.map_id L]
      exact List.map_congr_left fun x _ => by simp [str]
    have e2 : Lib.join ((L.map str).map (·.data.toList)) (⟨#[32]⟩ : ByteArray).data.toList = joinB L := by rw [e]; exact join_is L
    have h := Tryz.strings_Join b off c (L.map str) ⟨#[32]⟩ w (fun j x hj => by
      rw [List.getElem?_map] at hj
      cases hg : L[j]? with
      | none => rw [hg] at hj; cases hj
      | some y =>
        rw [hg] at hj
        obtain ⟨hjl, rfl⟩ := List.getElem?_eq_some_iff.1 hg
        rw [hat j hjl]
        simpa using hj) hb (by rw [List.length_map]; omega) (by rw [List.length_map]; exact hc) (by rw [e2]; omega)
    rw [e2, List.length_map] at h
    exact h
  · obtain rfl : L = [] := List.eq_nil_of_length_eq_zero (by omega)
    obtain ⟨_, A, c, rfl, _⟩ := hv
    refine (Tryz.strings_Join_none A c ⟨#[32]⟩ w).mono ?_
    rintro e w' ⟨rfl, rfl⟩
    exact ⟨rfl, Below.refl _ _⟩
theorem fm_take {α β : Type} (f : α → List β) (l : List α) (j : Nat) (h : j < l.length) : (l.take (j + 1)).flatMap f = (l.take j).flatMap f ++ f l[j] := by
  rw [List.take_succ_eq_append_getElem h, List.flatMap_append]; simp
set_option maxRecDepth 100000 in
set_option maxHeartbeats 8000000 in
theorem line_c (its : List It) (hi : its.length ≤ 100000000) (hn : (its.flatMap It.words).length ≤ 100000000) (hl : (joinB (its.flatMap It.words)).length ≤ 1000000000000) (v : Value) (w : World) (hv : Its w v its) (hok : ∀ x ∈ its, x.ok w) (hE : Env w) :
    Calls Tryz.prog 31 #[v] w fun e w' => e = .returned (.string (str (joinB (its.flatMap It.words) ++ [10]))) ∧ Below w.heap.size w w' := by
  obtain ⟨i0, hi0, hz0, hz1, hz2⟩ := info_parts info_string
  obtain ⟨_, A0, c0, rfl, hc0, _⟩ := id hv
  have HV := Lib.hid hv
  have HK := Lib.hid hok
  have HE := Lib.hid hE
  have HN := Lib.hid hn
  have HL := Lib.hid hl
  have hu := Tryz.underlying43
  clear hv hok hE hn hl
  have HT : Hid (∀ (k : Nat), (∃ j, ((its.take j).flatMap It.words).length ≥ k) → k ≤ 100000000) := fun k ⟨j, hj⟩ => by
    have e : (its.flatMap It.words) = (its.take j).flatMap It.words ++ (its.drop j).flatMap It.words := by
      rw [← List.flatMap_append, List.take_append_drop]
    have := HN.out
    rw [e, List.length_append] at this
    omega
  go_enter Tryz.func31, Tryz.ntmps31
  go_wp2_with fail
  go_loopw [3, 13] (fun out k wr => ∃ (j m : Nat) (L : List (List UInt8)), j ≤ its.length ∧ k = .int .i64 j ∧ L = (its.take j).flatMap It.words ∧ L.length = m ∧ (∃ A c, out = .slice A m c) ∧ wr.ownsRow w.heap.size 9 1 out m (L.flatMap strCell) ∧ Below w.heap.size w wr) (fun _ k _ => its.length - (intOf k).toNat)
  case atStart => exact ⟨0, 0, [], Nat.zero_le _, rfl, rfl, rfl, ⟨_, _, rfl⟩, ⟨rfl, .inl ⟨rfl, rfl⟩⟩, Below.refl _ _⟩
  case round =>
    obtain ⟨j, m, L, hj, rfl, hL, hm, ⟨A, cc, rfl⟩, hown, hb⟩ := hrel
    have HLL := Lib.hid hL
    have HM := Lib.hid hm
    have HOWN := Lib.hid hown
    have HB := Lib.hid hb
    clear hL hm hown
    by_cases hjl : j < its.length
    · obtain ⟨b, off, c, hE0, hcc, hbt, hat⟩ := Its.at_ (l := its) HV.out (by omega)
      cases hE0
      have hx0 := (hb.cell (p := ⟨_, _, none⟩) hbt).trans (hat j hjl)
      have HZW := Lib.hid (HK.out _ (List.getElem_mem hjl))
      have HOK := Lib.hid (It.ok_below HZW.out hb)
      have hnx := fm_take It.words its j hjl
      rw [← HLL.out] at hnx
      have HNX := Lib.hid hnx
      have hjl2 : (j : Int) < (its.length : Int) := by omega
      have hM2 : m + (its[j]).words.length ≤ 100000000 := HT.out _ ⟨j + 1, by rw [hnx, List.length_append, HM.out]; exact Nat.le_refl _⟩
      clear hnx hat hb
      generalize its[j] = x at hx0 HOK HZW HNX hM2
      cases x with
      | txt l =>
        have a1 := as_str (.string (str l)) wr
        have HT4 : Hid (m + 1 ≤ maxLen ∧ (m + 1) * 16 ≤ 140737488355328) := by
          show _ ∧ _
          have : (It.txt l).words.length = 1 := rfl
          unfold maxLen; constructor <;> omega
        unfold It.val at hx0
        simp only at hx0
        go_wp2_with (first
          | (at_builtin; refine wpl_app rfl _ _ 43 rfl w.heap.size 9 i0 _ 1 16 Tryz.underlying43 hi0 hz0 hz1 hz2 rfl (by decide) (.slice A m cc) m (L.flatMap strCell) rfl (own_below HOWN.out (al wr _)) (.slice (some ⟨wr.heap.size, 0, none⟩) 1 1) 1 ([l].flatMap strCell) rfl (sl_str wr _ _ rfl) (str_one _) HT4.out.1 HT4.out.2 (Nat.le_trans HB.out.size (al wr _).size) ?_; intro v6 w6 hown6 hb6; obtain ⟨A6, c6, rfl⟩ := own_shape hown6; have hB6 := btB (balloc HB.out _) hb6 (Nat.le_refl _)))
        go_roundw
        case rel =>
          refine ⟨j + 1, m + 1, _, by omega, by go_num, HNX.out.symm, by rw [List.length_append, HM.out]; rfl, ⟨A6, c6, rfl⟩, ?_, hB6⟩
          rw [List.flatMap_append]
          exact hown6
        case measure => simp [intOf]; omega
      | num n =>
        have a1 := no_str1 (.int .i64 n) wr
        have a2 := as_int (.int .i64 n) wr
        have HT4 : Hid (m + 1 ≤ maxLen ∧ (m + 1) * 16 ≤ 140737488355328) := by
          show _ ∧ _
          have : (It.num n).words.length = 1 := rfl
          unfold maxLen; constructor <;> omega
        have HX := Lib.hid (textZ_c n HOK.out wr (HE.out.below HB.out))
        unfold It.val at hx0
        simp only at hx0
        go_wp2_with (first
          | (go_at_call 49; (with_reducible refine (HX.out).mono ?_); rintro e w2 ⟨rfl, hb2⟩; have HB2 := Lib.hid (bt HB.out hb2); have HO2 := Lib.hid (own_below HOWN.out hb2))
          | (at_builtin; refine wpl_app rfl _ _ 43 rfl w.heap.size 9 i0 _ 1 16 Tryz.underlying43 hi0 hz0 hz1 hz2 rfl (by decide) (.slice A m cc) m (L.flatMap strCell) rfl (own_below HO2.out (al w2 _)) (.slice (some ⟨w2.heap.size, 0, none⟩) 1 1) 1 ([Lib.itoa n].flatMap strCell) rfl (sl_str w2 _ _ rfl) (str_one _) HT4.out.1 HT4.out.2 (Nat.le_trans HB2.out.size (al w2 _).size) ?_; intro v6 w6 hown6 hb6; obtain ⟨A6, c6, rfl⟩ := own_shape hown6; have hB6 := btB (balloc HB2.out _) hb6 (Nat.le_refl _)))
        go_roundw
        case rel =>
          refine ⟨j + 1, m + 1, _, by omega, by go_num, HNX.out.symm, by rw [List.length_append, HM.out]; rfl, ⟨A6, c6, rfl⟩, ?_, hB6⟩
          rw [List.flatMap_append]
          exact hown6
        case measure => simp [intOf]; omega
      | nums nv nl =>
        have hzw := HZW.out
        unfold It.ok at hzw
        obtain ⟨_, A3, c3, rfl, hc3, _⟩ := id hzw.1
        have HZ := Lib.hid hzw.1
        have HI := Lib.hid hzw.2
        clear hzw
        have a1 := no_str2 (.slice A3 nl.length c3) wr
        have a2 := no_int (.slice A3 nl.length c3) wr
        have a3 := as_ints (.slice A3 nl.length c3) wr
        have hM3 : m + nl.length ≤ 100000000 := by
          have : (It.nums (.slice A3 nl.length c3) nl).words.length = nl.length := by unfold It.words; rw [List.length_map]
          omega
        unfold It.val at hx0
        simp only at hx0
        go_wp2_with fail
        clear hx0 a1 a2 a3
        go_loopw [3, 38] (fun out k wr2 => ∃ (i m2 : Nat) (L2 : List (List UInt8)), i ≤ nl.length ∧ k = .int .i64 i ∧ L2 = L ++ (nl.take i).map Lib.itoa ∧ L2.length = m2 ∧ (∃ A c, out = .slice A m2 c) ∧ wr2.ownsRow w.heap.size 9 1 out m2 (L2.flatMap strCell) ∧ Below w.heap.size w wr2) (fun _ k _ => nl.length - (intOf k).toNat)
        case atStart => exact ⟨0, m, L, Nat.zero_le _, rfl, by simp, HM.out, ⟨_, _, rfl⟩, HOWN.out, HB.out⟩
        case round =>
          obtain ⟨i, m2, L2, hi2, rfl, hL2, hm2, ⟨A4, c4, rfl⟩, hown2, hb2⟩ := hrel
          have HM2 := Lib.hid hm2
          have HL2 := Lib.hid hL2
          have HOWN2 := Lib.hid hown2
          have HB2 := Lib.hid hb2
          have hmm : m2 = m + i := by rw [← HM2.out, HL2.out, List.length_append, HM.out, List.length_map, List.length_take]; omega
          clear hm2 hL2 hown2
          by_cases hil : i < nl.length
          · obtain ⟨b3, off3, c3', hE3, hcc3, hbt3, hat3⟩ := Zs.at_ (l := nl) HZ.out (by omega)
            cases hE3
            have hy0 := (hb2.cell (p := ⟨_, _, none⟩) hbt3).trans (hat3 i hil)
            have hil2 : (i : Int) < (nl.length : Int) := by omega
            have HNX2 : Hid (L2 ++ [Lib.itoa nl[i]] = L ++ (nl.take (i + 1)).map Lib.itoa) := by
              show _ = _
              rw [HL2.out, List.take_succ_eq_append_getElem hil, List.map_append, List.append_assoc]; rfl
            have HX := Lib.hid (textZ_c nl[i] (HI.out _ (List.getElem_mem hil)) wr (HE.out.below hb2))
            have HT4 : Hid (m2 + 1 ≤ maxLen ∧ (m2 + 1) * 16 ≤ 140737488355328) := by
              show _ ∧ _
              unfold maxLen; constructor <;> omega
            clear hat3 hb2 hmm
            generalize nl[i] = n at hy0 HNX2 HX
            go_wp2_with (first
              | (go_at_call 49; (with_reducible refine (HX.out).mono ?_); rintro e w2 ⟨rfl, hb3⟩; have HB3 := Lib.hid (bt HB2.out hb3); have HO3 := Lib.hid (own_below HOWN2.out hb3))
              | (at_builtin; refine wpl_app rfl _ _ 43 rfl w.heap.size 9 i0 _ 1 16 Tryz.underlying43 hi0 hz0 hz1 hz2 rfl (by decide) (.slice A4 m2 c4) m2 (L2.flatMap strCell) rfl (own_below HO3.out (al w2 _)) (.slice (some ⟨w2.heap.size, 0, none⟩) 1 1) 1 ([Lib.itoa n].flatMap strCell) rfl (sl_str w2 _ _ rfl) (str_one _) HT4.out.1 HT4.out.2 (Nat.le_trans HB3.out.size (al w2 _).size) ?_; intro v6 w6 hown6 hb6; obtain ⟨A6, c6, rfl⟩ := own_shape hown6; have hB6 := btB (balloc HB3.out _) hb6 (Nat.le_refl _)))
            go_roundw
            case rel =>
              refine ⟨i + 1, m2 + 1, _, by omega, by go_num, HNX2.out, by rw [List.length_append, HM2.out]; rfl, ⟨A6, c6, rfl⟩, ?_, hB6⟩
              rw [List.flatMap_append]
              exact hown6
            case measure => simp [intOf]; omega
          · obtain rfl : i = nl.length := by omega
            have HF : Hid (L2 = (its.take (j + 1)).flatMap It.words) := by
              show _ = _
              rw [HNX.out, HL2.out, List.take_length]
              rfl
            go_wp2_with fail
            go_roundw
            case rel => exact ⟨j + 1, m2, L2, by omega, by go_num, HF.out, HM2.out, ⟨_, _, rfl⟩, HOWN2.out, HB2.out⟩
            case measure => simp [intOf]; omega
    · obtain rfl : j = its.length := by omega
      have HF : Hid (L = its.flatMap It.words) := by
        show _ = _
        rw [HLL.out, List.take_length]
      have HJ := Lib.hid (join_c L (by rw [HF.out]; exact HN.out) (by rw [HF.out]; exact HL.out) (.slice A m cc) wr (by have h := sl_of_own HOWN.out; rw [← HM.out] at h ⊢; exact h))
      have HS : Hid (str (joinB L) ++ ⟨#[10]⟩ = str (joinB (its.flatMap It.words) ++ [10])) := by
        show _ ++ str [10] = _
        rw [str_snoc, HF.out]
      have hsz : (str (joinB L)).size ≤ 1000000000000 := by rw [str_size, HF.out]; exact HL.out
      generalize str (joinB L) = S at HJ HS hsz
      go_wp2_with (go_at_call 50; (with_reducible refine (HJ.out).mono ?_); rintro e w2 ⟨rfl, hb2⟩)
      go_ret
      exact ⟨ret_str HS.out, bt HB.out hb2⟩
end Go.Proofs.YtcgcndmlgfnjbaaGreatDoor
/- A verdict as a text: the program's walk. -/
namespace Go.Proofs.YtcgcndmlgfnjbaaGreatDoor
open Go Go.RowKit
set_option linter.unusedVariables false
/-- the numbers of a verdict's end are numbers of the machine -/
def VdNums (v : Vd) : Prop := ∀ n ∈ v.bad.cells, I64 n
theorem joinB_le (k : Nat) : ∀ (l : List (List UInt8)), (∀ x ∈ l, x.length ≤ k) → (joinB l).length ≤ (k + 1) * l.length
  | [], _ => by simp [joinB]
  | x :: r, h => by
    have h0 := h x (by simp)
    have ht : ∀ (r : List (List UInt8)), (∀ x ∈ r, x.length ≤ k) → (tailB r).length ≤ (k + 1) * r.length := by
      intro r
      induction r with
      | nil => intro _; simp [tailB]
      | cons y r ih =>
        intro h
        have h1 := h y (by simp)
        have h2 := ih (fun x hx => h x (List.mem_cons_of_mem _ hx))
        unfold tailB at h2 ⊢
        simp only [List.flatMap_cons, List.length_append, List.length_cons]
        rw [Nat.mul_add]
        omega
    have h1 := ht r (fun x hx => h x (List.mem_cons_of_mem _ hx))
    show (x ++ tailB r).length ≤ _
    rw [List.length_append, List.length_cons, Nat.mul_add]
    omega
/-- what stands in the line of a verdict -/
def itsV (v : Vd) (cv : Value) : List It :=
  if v.kind = 1 then [.txt wError, .num v.e, .txt wAt, .num v.pos]
  else if v.kind = 2 then [.txt wSafe, .num v.paths, .num v.ends]
  else if v.kind = 3 then [.txt wViol, .txt (nameK v.bad.kind), .num v.bad.what, .num v.bad.crashes, .nums cv v.bad.cells]
  else [.txt wBudget]
theorem itsV_words (v : Vd) (cv : Value) : (itsV v cv).flatMap It.words = wordsV v := by
  unfold itsV wordsV
  split
  · rfl
  · split
    · rfl
    · split
      · simp [It.words]
      · rfl
theorem itsV_len (v : Vd) (cv : Value) : (itsV v cv).length ≤ 100000000 := by
  unfold itsV
  split
  · simp
  · split
    · simp
    · split
      · simp
      · simp
theorem name_le (k : Int) : (nameK k).length ≤ 20 := by
  unfold nameK
  repeat' split
  all_goals decide
theorem words_le (v : Vd) (h : rightV v = true) (hc : VdNums v) : (∀ x ∈ wordsV v, x.length ≤ 20) ∧ (wordsV v).length ≤ 24 := by
  have hr := right_kind h
  unfold rightV at h
  unfold wordsV
  rcases hr with hk | hk | hk | hk
  · rw [if_pos hk] at h ⊢
    simp only [Bool.and_eq_true] at h
    have h1 := itoaZ_len _ (between_I64 h.1.2 (by decide) (by decide))
    have h2 := itoaZ_len _ (between_I64 h.2 (by decide) (by decide))
    refine ⟨fun x hx => ?_, by simp⟩
    simp only [List.mem_cons, List.not_mem_nil, or_false] at hx
    rcases hx with rfl | rfl | rfl | rfl
    · decide
    · exact h1
    · decide
    · exact h2
  · rw [if_neg (by omega), if_pos hk] at h ⊢
    simp only [Bool.and_eq_true] at h
    have h1 := itoaZ_len _ (between_I64 h.1.2 (by decide) (by decide))
    have h2 := itoaZ_len _ (between_I64 h.2 (by decide) (by decide))
    refine ⟨fun x hx => ?_, by simp⟩
    simp only [List.mem_cons, List.not_mem_nil, or_false] at hx
    rcases hx with rfl | rfl | rfl
    · decide
    · exact h1
    · exact h2
  · rw [if_neg (by omega), if_neg (by omega), if_pos hk] at h ⊢
    simp only [Bool.and_eq_true, decide_eq_true_eq] at h
    have h1 := itoaZ_len _ (between_I64 h.1.1.1.2 (by decide) (by decide))
    have h2 := itoaZ_len _ (between_I64 h.1.1.2 (by decide) (by decide))
    refine ⟨fun x hx => ?_, by have := h.1.2; simp; omega⟩
    simp only [List.mem_cons, List.mem_map] at hx
    rcases hx with rfl | rfl | rfl | rfl | ⟨n, hn, rfl⟩
    · decide
    · exact name_le _
    · exact h1
    · exact h2
    · exact itoaZ_len _ (hc n hn)
  · rw [if_neg (by omega), if_neg (by omega), if_neg (by omega)]
    exact ⟨by intro x hx; simp only [List.mem_cons, List.not_mem_nil, or_false] at hx; subst hx; decide, by simp⟩
theorem line_le (v : Vd) (h : rightV v = true) (hc : VdNums v) : (joinB (wordsV v)).length ≤ 504 := by
  have h1 := joinB_le 20 _ (words_le v h hc).1
  have h2 := (words_le v h hc).2
  omega
/-- the line of a verdict that may be -/
theorem lineV_c (v : Vd) (cv sv : Value) (h : rightV v = true) (hc : VdNums v) (B : World) (hA : VdOk B v cv sv) (hE : Env B) (u : World) (hu : Below B.heap.size B u) (a : Value) (ha : SlN u a 1 (itsV v cv).length ((itsV v cv).flatMap It.cells)) :
    Calls Tryz.prog 31 #[a] u fun e w' => e = .returned (.string (str (joinB (wordsV v) ++ [10]))) ∧ Below u.heap.size u w' := by
  have hl := line_le v h hc
  have hw := (words_le v h hc).2
  have := line_c (itsV v cv) (itsV_len v cv) (by rw [itsV_words]; omega) (by rw [itsV_words]; omega) a u ha (fun x hx => by
    have hr := right_kind h
    unfold rightV at h
    unfold itsV at hx
    rcases hr with hk | hk | hk | hk
    · rw [if_pos hk] at h hx
      simp only [Bool.and_eq_true] at h
      simp only [List.mem_cons, List.not_mem_nil, or_false] at hx
      rcases hx with rfl | rfl | rfl | rfl
      · exact True.intro
      · exact between_I64 h.1.2 (by decide) (by decide)
      · exact True.intro
      · exact between_I64 h.2 (by decide) (by decide)
    · rw [if_neg (by omega), if_pos hk] at h hx
      simp only [Bool.and_eq_true] at h
      simp only [List.mem_cons, List.not_mem_nil, or_false] at hx
      rcases hx with rfl | rfl | rfl
      · exact True.intro
      · exact between_I64 h.1.2 (by decide) (by decide)
      · exact between_I64 h.2 (by decide) (by decide)
    · rw [if_neg (by omega), if_neg (by omega), if_pos hk] at h hx
      simp only [Bool.and_eq_true, decide_eq_true_eq] at h
      simp only [List.mem_cons, List.not_mem_nil, or_false] at hx
      rcases hx with rfl | rfl | rfl | rfl | rfl
      · exact True.intro
      · exact True.intro
      · exact between_I64 h.1.1.1.2 (by decide) (by decide)
      · exact between_I64 h.1.1.2 (by decide) (by decide)
      · exact ⟨(hA.below hu).cells, hc⟩
    · rw [if_neg (by omega), if_neg (by omega), if_neg (by omega)] at hx
      simp only [List.mem_cons, List.not_mem_nil, or_false] at hx
      subst hx
      exact True.intro) (hE.below hu)
  rw [itsV_words] at this
  exact this
theorem sl_new (w : World) (l : List Value) (t : TypeId) (n : Nat) (h : l.length = n) : SlN (w.alloc (.cells l.toArray t)) (.slice (some ⟨w.heap.size, 0, none⟩) n n) 1 n l :=
  sl_lit w l t 1 n n (by omega) (Nat.le_refl _)
set_option maxRecDepth 100000 in
set_option maxHeartbeats 8000000 in
theorem pShowV_c (v : Vd) (cv sv : Value) (w : World) (hA : VdOk w v cv sv) (hE : Env w) (hc : VdNums v) :
    Calls Tryz.prog 12 #[vdV v cv sv] w fun e w' => e = .returned (.string (str (showV v))) ∧ Below w.heap.size w w' := by
  have hR := fun u (hu : Below w.heap.size w u) => pRightV_c v cv sv u (hA.below hu)
  obtain ⟨A1, k1, rfl, _⟩ := hA.cells.shape
  obtain ⟨A2, k2, rfl, _⟩ := hA.sched.shape
  have HB0 : Hid (Below w.heap.size w (w.alloc (.cells (vdA v (.slice A1 v.bad.cells.length k1) (.slice A2 v.sched.length k2)) 28))) := al w _
  have H1 := Lib.hid (vdBox_new w v (.slice A1 v.bad.cells.length k1) (.slice A2 v.sched.length k2))
  cases hr : rightV v
  · have HS : Hid (showV v = []) := showV_not hr
    have HR := Lib.hid hR
    rw [hr] at HR
    clear hR hA hE hc hr
    unfold vdV vdA at *
    go_enter Tryz.func12, Tryz.ntmps12
    go_upto_region 1 with fail
    generalize World.alloc _ _ = X at H1 HB0 ⊢
    obtain ⟨p0, p1, p2, p3, p4, p5, p6, p7, p8, p9⟩ := H1.out.at_
    go_wp2_with (go_at_call 10; (with_reducible refine (HR.out _ HB0.out).mono ?_); rintro e w2 ⟨rfl, hb2⟩)
    go_ret
    exact ⟨ret_str (by rw [HS.out]; rfl), bt HB0.out hb2⟩
  · have HS : Hid (showV v = textV v) := showV_right hr
    have HL := Lib.hid (lineV_c v (.slice A1 v.bad.cells.length k1) (.slice A2 v.sched.length k2) hr hc w hA hE)
    have HLE := Lib.hid (line_le v hr hc)
    have HOK := Lib.hid hA
    have HE := Lib.hid hE
    have HK := Lib.hid (right_kind hr)
    have HRT := Lib.hid hr
    have HR := Lib.hid hR
    rw [hr] at HR
    clear hR hA hE hc hr
    unfold vdV vdA at *
    go_enter Tryz.func12, Tryz.ntmps12
    go_upto_region 1 with fail
    generalize World.alloc _ _ = X at H1 HB0 ⊢
    have HAT : Hid (∀ u, Below X.heap.size X u → VdAt u w.heap.size v (.slice A1 v.bad.cells.length k1) (.slice A2 v.sched.length k2)) := fun u hu => H1.out.at_.below hu
    obtain ⟨p0, p1, p2, p3, p4, p5, p6, p7, p8, p9⟩ := H1.out.at_
    clear H1
    go_upto_region 3 with (go_at_call 10; (with_reducible refine (HR.out _ HB0.out).mono ?_); rintro e w2 ⟨rfl, hb2⟩)
    clear p0 p1 p2 p3 p4 p5 p6 p7 p8 p9 HR
    have HB2 := Lib.hid (bt HB0.out hb2)
    have HAT2 : Hid (∀ u, Below w2.heap.size w2 u → VdAt u w.heap.size v (.slice A1 v.bad.cells.length k1) (.slice A2 v.sched.length k2)) := fun u hu => HAT.out u (bt hb2 hu)
    clear hb2 HAT HB0
    obtain ⟨p0, p1, p2, p3, p4, p5, p6, p7, p8, p9⟩ := HAT2.out w2 (Below.refl _ _)
    rcases HK.out with hk | hk | hk | hk
    · have h1 : (v.kind == 1) = true := by simpa using hk
      have HT : Hid (textV v = joinB (wordsV v) ++ [10]) := by show _ = _; unfold textV; rw [if_neg (by omega)]
      have HLC : Hid (∀ u a, Below w2.heap.size w2 u → SlN u a 1 4 [.iface 9 (.string (str wError)), .iface 3 (.int .i64 v.e), .iface 9 (.string (str wAt)), .iface 3 (.int .i64 v.pos)] → Calls Tryz.prog 31 #[a] u fun e w' => e = .returned (.string (str (joinB (wordsV v) ++ [10]))) ∧ Below u.heap.size u w') := fun u a hu ha => HL.out u (bt HB2.out hu) a (by unfold itsV; rw [if_pos hk]; exact ha)
      clear HL HRT
      generalize joinB (wordsV v) ++ [10] = S at HT HLC
      go_wp2_with (go_at_call 31; refine (HLC.out _ _ (al w2 _) (sl_new w2 [_, _, _, _] _ 4 rfl)).mono ?_; rintro e w3 ⟨rfl, hb3⟩)
      go_ret
      exact ⟨ret_str (by rw [HS.out, HT.out]), bt (balloc HB2.out _) hb3⟩
    · have h1 : (v.kind == 2) = true := by simpa using hk
      have h2 : (v.kind == 1) = false := by rw [hk]; rfl
      have HT : Hid (textV v = joinB (wordsV v) ++ [10]) := by show _ = _; unfold textV; rw [if_neg (by omega)]
      have HLC : Hid (∀ u a, Below w2.heap.size w2 u → SlN u a 1 3 [.iface 9 (.string (str wSafe)), .iface 3 (.int .i64 v.paths), .iface 3 (.int .i64 v.ends)] → Calls Tryz.prog 31 #[a] u fun e w' => e = .returned (.string (str (joinB (wordsV v) ++ [10]))) ∧ Below u.heap.size u w') := fun u a hu ha => HL.out u (bt HB2.out hu) a (by unfold itsV; rw [if_neg (by omega), if_pos hk]; exact ha)
      clear HL HRT
      generalize joinB (wordsV v) ++ [10] = S at HT HLC
      go_wp2_with (go_at_call 31; refine (HLC.out _ _ (al w2 _) (sl_new w2 [_, _, _] _ 3 rfl)).mono ?_; rintro e w3 ⟨rfl, hb3⟩)
      go_ret
      exact ⟨ret_str (by rw [HS.out, HT.out]), bt (balloc HB2.out _) hb3⟩
    · have h1 : (v.kind == 3) = true := by simpa using hk
      have h2 : (v.kind == 1) = false := by rw [hk]; rfl
      have h3 : (v.kind == 2) = false := by rw [hk]; rfl
      have HT : Hid (textV v = (joinB (wordsV v) ++ [10]) ++ showK v.sched) := by show _ = _; unfold textV; rw [if_pos hk, List.append_assoc]; rfl
      have HLC : Hid (∀ u a, Below w2.heap.size w2 u → SlN u a 1 5 [.iface 9 (.string (str wViol)), .iface 9 (.string (str (nameK v.bad.kind))), .iface 3 (.int .i64 v.bad.what), .iface 3 (.int .i64 v.bad.crashes), .iface 23 (.slice A1 v.bad.cells.length k1)] → Calls Tryz.prog 31 #[a] u fun e w' => e = .returned (.string (str (joinB (wordsV v) ++ [10]))) ∧ Below u.heap.size u w') := fun u a hu ha => HL.out u (bt HB2.out hu) a (by unfold itsV; rw [if_neg (by omega), if_neg (by omega), if_pos hk]; exact ha)
      have HNM := Lib.hid (pName_c v.bad.kind)
      have HSH : Hid (∀ u, Below w2.heap.size w2 u → Calls Tryz.prog 33 #[.slice A2 v.sched.length k2] u fun e w' => e = .returned (.string (str (showK v.sched))) ∧ Below u.heap.size u w') := fun u hu => pShow_c v.sched HOK.out.ls (fun x hx => by have := HOK.out.lp x hx; omega) _ u (HOK.out.below (bt HB2.out hu)).sched (HE.out.below (bt HB2.out hu))
      have hz1 : (str (joinB (wordsV v) ++ [10])).size ≤ 505 := by rw [str_size, List.length_append]; have := HLE.out; simp; omega
      have hz2 : (str (showK v.sched)).size ≤ 22600000000 := by
        rw [str_size]
        unfold showK
        split
        · rename_i ha
          have := textK_len v.sched ha
          have := HOK.out.ls
          omega
        · simp
      have HX : Hid (∀ u, Below w2.heap.size w2 u → u.cell? ⟨w.heap.size, 5, none⟩ = some (.int .i64 v.bad.kind) ∧ u.cell? ⟨w.heap.size, 6, none⟩ = some (.int .i64 v.bad.what) ∧ u.cell? ⟨w.heap.size, 7, none⟩ = some (.int .i64 v.bad.crashes) ∧ u.cell? ⟨w.heap.size, 8, none⟩ = some (.slice A1 v.bad.cells.length k1) ∧ u.cell? ⟨w.heap.size, 9, none⟩ = some (.slice A2 v.sched.length k2)) := fun u hu => by
        have h := HAT2.out u hu
        exact ⟨h.c5, h.c6, h.c7, h.c8, h.c9⟩
      have HAP : Hid (str (joinB (wordsV v) ++ [10]) ++ str (showK v.sched) = str (textV v)) := (str_snoc _ _).trans (by rw [HT.out])
      clear HL HRT HT HLE
      go_upto_region 9 with fail
      clear p0 p1 p2 p3 p4
      generalize str (joinB (wordsV v) ++ [10]) = S1 at HLC hz1 HAP
      generalize str (showK v.sched) = S2 at HSH hz2 HAP
      generalize str (nameK v.bad.kind) = S3 at HLC HNM
      have e1 : ¬ (9223372036854775807 < S1.size + S2.size) := by omega
      go_region_held3 (fun u => u.cell? ⟨w.heap.size, 5, none⟩ = some (.int .i64 v.bad.kind) ∧ u.cell? ⟨w.heap.size, 6, none⟩ = some (.int .i64 v.bad.what) ∧ u.cell? ⟨w.heap.size, 7, none⟩ = some (.int .i64 v.bad.crashes) ∧ u.cell? ⟨w.heap.size, 8, none⟩ = some (.slice A1 v.bad.cells.length k1) ∧ u.cell? ⟨w.heap.size, 9, none⟩ = some (.slice A2 v.sched.length k2))
        (exact HX.out _ (by repeat (first | exact Below.refl _ _ | assumption | refine bdrN ?_ _ | refine bdr ?_ | refine balloc ?_ _)))
        (first
          | (go_at_call 32; (with_reducible refine (HNM.out _).mono ?_); rintro e w3 ⟨rfl, rfl⟩)
          | (go_at_call 31; refine (HLC.out _ _ (by repeat (first | exact Below.refl _ _ | assumption | refine bdrN ?_ _ | refine bdr ?_ | refine balloc ?_ _)) (by first | exact SlN.below (sl_new w2 [_, _, _, _, _] _ 5 rfl) (bdr (Below.refl _ _)) | exact sl_new _ [_, _, _, _, _] _ 5 rfl)).mono ?_; rintro e w4 ⟨rfl, hb4⟩; have h4 : Below w2.heap.size w2 w4 := bt (by repeat (first | exact Below.refl _ _ | assumption | refine bdrN ?_ _ | refine bdr ?_ | refine balloc ?_ _)) hb4; clear hb4)
          | (go_at_call 33; (with_reducible refine (HSH.out _ (by repeat (first | exact Below.refl _ _ | assumption | refine bdrN ?_ _ | refine bdr ?_ | refine balloc ?_ _))).mono ?_); rintro e w5 ⟨rfl, hb5⟩; have h5 : Below w2.heap.size w2 w5 := bt (by repeat (first | exact Below.refl _ _ | assumption | refine bdrN ?_ _ | refine bdr ?_ | refine balloc ?_ _)) hb5; clear hb5))
      all_goals
        go_wp2_with fail
        go_ret
        exact ⟨ret_str (by rw [HS.out, HAP.out]), bt HB2.out (by repeat (first | assumption | refine bdrN ?_ _ | refine bdr ?_))⟩
    · have h1 : (v.kind == 4) = true := by simpa using hk
      have h2 : (v.kind == 1) = false := by rw [hk]; rfl
      have h3 : (v.kind == 2) = false := by rw [hk]; rfl
      have h4 : (v.kind == 3) = false := by rw [hk]; rfl
      have HT : Hid (textV v = joinB (wordsV v) ++ [10]) := by show _ = _; unfold textV; rw [if_neg (by omega)]
      have HLC : Hid (∀ u a, Below w2.heap.size w2 u → SlN u a 1 1 [.iface 9 (.string (str wBudget))] → Calls Tryz.prog 31 #[a] u fun e w' => e = .returned (.string (str (joinB (wordsV v) ++ [10]))) ∧ Below u.heap.size u w') := fun u a hu ha => HL.out u (bt HB2.out hu) a (by unfold itsV; rw [if_neg (by omega), if_neg (by omega), if_neg (by omega)]; exact ha)
      clear HL HRT
      generalize joinB (wordsV v) ++ [10] = S at HT HLC
      go_wp2_with (go_at_call 31; refine (HLC.out _ _ (al w2 _) (sl_new w2 [_] _ 1 rfl)).mono ?_; rintro e w3 ⟨rfl, hb3⟩)
      go_ret
      exact ⟨ret_str (by rw [HS.out, HT.out]), bt (balloc HB2.out _) hb3⟩
end Go.Proofs.YtcgcndmlgfnjbaaGreatDoor
/- A verdict as a text: the reference's walk. -/
namespace Go.Proofs.YtcgcndmlgfnjbaaGreatDoor
open Go Go.RowKit
set_option linter.unusedVariables false
/-- the words of a violation ahead of its cells -/
def headV (v : Vd) : List UInt8 := wViol ++ 32 :: (nameK v.bad.kind ++ 32 :: (Lib.itoa v.bad.what ++ 32 :: Lib.itoa v.bad.crashes))
theorem tailB_cons (x : List UInt8) (r : List (List UInt8)) : tailB (x :: r) = 32 :: (x ++ tailB r) := by
  unfold tailB; rw [List.flatMap_cons]; rfl
theorem tailB_nil : tailB [] = [] := rfl
theorem head_is (v : Vd) (hk : v.kind = 3) : joinB (wordsV v) = headV v ++ tailB (v.bad.cells.map Lib.itoa) := by
  unfold wordsV headV
  rw [if_neg (by omega), if_neg (by omega), if_pos hk]
  show wViol ++ tailB _ = _
  rw [tailB_cons, tailB_cons, tailB_cons]
  simp [List.append_assoc]
theorem tailB_take (l : List Int) (j : Nat) (h : j < l.length) : tailB ((l.take (j + 1)).map Lib.itoa) = tailB ((l.take j).map Lib.itoa) ++ (32 :: Lib.itoa l[j]) := by
  rw [List.take_succ_eq_append_getElem h, List.map_append]
  unfold tailB
  rw [List.flatMap_append]
  simp
theorem tailB_part (l : List Int) (j : Nat) : (tailB ((l.take j).map Lib.itoa)).length ≤ (tailB (l.map Lib.itoa)).length := by
  conv => rhs; rw [← List.take_append_drop j l, List.map_append]
  unfold tailB
  rw [List.flatMap_append, List.length_append]
  omega
theorem one_is (v : Vd) (hk : v.kind = 1) : joinB (wordsV v) ++ [10] = [101, 114, 114, 111, 114, 32] ++ Lib.itoa v.e ++ [32, 97, 116, 32] ++ Lib.itoa v.pos ++ [10] := by
  unfold wordsV
  rw [if_pos hk]
  show wError ++ tailB _ ++ [10] = _
  rw [tailB_cons, tailB_cons, tailB_cons, tailB_nil]
  unfold wError wAt
  simp [List.append_assoc]
theorem two_is (v : Vd) (hk : v.kind = 2) : joinB (wordsV v) ++ [10] = [115, 97, 102, 101, 32] ++ Lib.itoa v.paths ++ [32] ++ Lib.itoa v.ends ++ [10] := by
  unfold wordsV
  rw [if_neg (by omega), if_pos hk]
  show wSafe ++ tailB _ ++ [10] = _
  rw [tailB_cons, tailB_cons, tailB_nil]
  unfold wSafe
  simp [List.append_assoc]
theorem three_is (v : Vd) : headV v = [118, 105, 111, 108, 97, 116, 105, 111, 110, 32] ++ nameK v.bad.kind ++ [32] ++ Lib.itoa v.bad.what ++ [32] ++ Lib.itoa v.bad.crashes := by
  unfold headV wViol
  simp [List.append_assoc]
set_option maxRecDepth 100000 in
set_option maxHeartbeats 8000000 in
theorem rShowV_c (v : Vd) (cv sv : Value) (w : World) (hA : VdOk w v cv sv) (hc : VdNums v) :
    Calls Tryz.prog 13 #[vdV v cv sv] w fun e w' => e = .returned (.string (str (showV v))) ∧ Below w.heap.size w w' := by
  have hR := fun u (hu : Below w.heap.size w u) => rRightV_c v cv sv u (hA.below hu)
  obtain ⟨A1, k1, rfl, _⟩ := hA.cells.shape
  obtain ⟨A2, k2, rfl, _⟩ := hA.sched.shape
  have HB0 : Hid (Below w.heap.size w (w.alloc (.cells (vdA v (.slice A1 v.bad.cells.length k1) (.slice A2 v.sched.length k2)) 28))) := al w _
  have H1 := Lib.hid (vdBox_new w v (.slice A1 v.bad.cells.length k1) (.slice A2 v.sched.length k2))
  cases hr : rightV v
  · have HS : Hid (showV v = []) := showV_not hr
    have HR := Lib.hid hR
    rw [hr] at HR
    clear hR hA hc hr
    unfold vdV vdA at *
    go_enter Tryz.func13, Tryz.ntmps13
    go_upto_region 1 with fail
    generalize World.alloc _ _ = X at H1 HB0 ⊢
    obtain ⟨p0, p1, p2, p3, p4, p5, p6, p7, p8, p9⟩ := H1.out.at_
    go_wp2_with (go_at_call 11; (with_reducible refine (HR.out _ HB0.out).mono ?_); rintro e w2 ⟨rfl, hb2⟩)
    go_ret
    exact ⟨ret_str (by rw [HS.out]; rfl), bt HB0.out hb2⟩
  · have HS : Hid (showV v = textV v) := showV_right hr
    have HLE := Lib.hid (line_le v hr hc)
    have HOK := Lib.hid hA
    have HC := Lib.hid hc
    have HK := Lib.hid (right_kind hr)
    have HRT := Lib.hid hr
    have HR := Lib.hid hR
    rw [hr] at HR
    clear hR hA hc hr
    unfold vdV vdA at *
    go_enter Tryz.func13, Tryz.ntmps13
    go_upto_region 1 with fail
    generalize World.alloc _ _ = X at H1 HB0 ⊢
    have HAT : Hid (∀ u, Below X.heap.size X u → VdAt u w.heap.size v (.slice A1 v.bad.cells.length k1) (.slice A2 v.sched.length k2)) := fun u hu => H1.out.at_.below hu
    obtain ⟨p0, p1, p2, p3, p4, p5, p6, p7, p8, p9⟩ := H1.out.at_
    clear H1
    go_upto_region 3 with (go_at_call 11; (with_reducible refine (HR.out _ HB0.out).mono ?_); rintro e w2 ⟨rfl, hb2⟩)
    clear p0 p1 p2 p3 p4 p5 p6 p7 p8 p9 HR
    have HB2 := Lib.hid (bt HB0.out hb2)
    have HAT2 : Hid (∀ u, Below w2.heap.size w2 u → VdAt u w.heap.size v (.slice A1 v.bad.cells.length k1) (.slice A2 v.sched.length k2)) := fun u hu => HAT.out u (bt hb2 hu)
    clear hb2 HAT HB0
    obtain ⟨p0, p1, p2, p3, p4, p5, p6, p7, p8, p9⟩ := HAT2.out w2 (Below.refl _ _)
    rcases HK.out with hk | hk | hk | hk
    · have h1 : (v.kind == 1) = true := by simpa using hk
      have HT : Hid (str [101, 114, 114, 111, 114, 32] ++ str (Lib.itoa v.e) ++ str [32, 97, 116, 32] ++ str (Lib.itoa v.pos) ++ str [10] = str (textV v)) := by
        show _ = _
        unfold textV; rw [if_neg (by omega), one_is v hk]; simp only [← str_app]
      have hr := HRT.out
      unfold rightV at hr
      rw [if_pos hk] at hr
      simp only [Bool.and_eq_true] at hr
      have g1 := between_I64 hr.1.2 (by decide) (by decide)
      have g2 := between_I64 hr.2 (by decide) (by decide)
      have T1 := Lib.hid (rtextZ_c v.e g1)
      have T2 := Lib.hid (rtextZ_c v.pos g2)
      have z1 := str_itoaZ_le v.e g1
      have z2 := str_itoaZ_le v.pos g2
      have HX : Hid (∀ u, Below w2.heap.size w2 u → u.cell? ⟨w.heap.size, 1, none⟩ = some (.int .i64 v.e) ∧ u.cell? ⟨w.heap.size, 2, none⟩ = some (.int .i64 v.pos)) := fun u hu => by
        have h := HAT2.out u hu
        exact ⟨h.c1, h.c2⟩
      clear HRT hr g1 g2
      generalize str (Lib.itoa v.e) = S1 at T1 z1 HT
      generalize str (Lib.itoa v.pos) = S2 at T2 z2 HT
      have f1 : ¬ (9223372036854775807 < 6 + S1.size) := by omega
      have f2 : ¬ (9223372036854775807 < 6 + S1.size + 4) := by omega
      have f2' : ¬ (9223372036854775803 < 6 + S1.size) := by omega
      have f3 : ¬ (9223372036854775807 < 6 + S1.size + 4 + S2.size) := by omega
      have f4 : ¬ (9223372036854775806 < 6 + S1.size + 4 + S2.size) := by omega
      go_upto_region 4 with fail
      have e1a : ¬ (9223372036854775807 < 6 + S1.size + 4 + S2.size + 1) := by omega
      have e2a : ¬ (9223372036854775807 ≤ 6 + S1.size + 4 + S2.size) := by omega
      have e3a : 6 + S1.size + 4 + S2.size < 9223372036854775807 := by omega
      clear p0 p3 p4 p5 p6 p7 p8 p9
      go_region_held3 (fun u => u.cell? ⟨w.heap.size, 1, none⟩ = some (.int .i64 v.e) ∧ u.cell? ⟨w.heap.size, 2, none⟩ = some (.int .i64 v.pos))
        (exact HX.out _ (by repeat (first | exact Below.refl _ _ | assumption | refine bdrN ?_ _ | refine bdr ?_)))
        (first
          | (go_at_call_of 34 (Value.int .i64 v.e); (with_reducible refine (T1.out _).mono ?_); rintro e w3 ⟨rfl, hb3⟩; have h3 : Below w2.heap.size w2 w3 := bt (by repeat (first | exact Below.refl _ _ | assumption | refine bdrN ?_ _ | refine bdr ?_)) hb3; clear hb3)
          | (go_at_call_of 34 (Value.int .i64 v.pos); (with_reducible refine (T2.out _).mono ?_); rintro e w4 ⟨rfl, hb4⟩; have h4 : Below w2.heap.size w2 w4 := bt (by repeat (first | exact Below.refl _ _ | assumption | refine bdrN ?_ _ | refine bdr ?_)) hb4; clear hb4))
      all_goals
        go_wp2_with fail
        go_ret
        exact ⟨ret_str (by rw [HS.out]; exact HT.out), bt HB2.out (by repeat (first | assumption | refine bdrN ?_ _ | refine bdr ?_))⟩
    · have h1 : (v.kind == 2) = true := by simpa using hk
      have h2 : (v.kind == 1) = false := by rw [hk]; rfl
      have HT : Hid (str [115, 97, 102, 101, 32] ++ str (Lib.itoa v.paths) ++ str [32] ++ str (Lib.itoa v.ends) ++ str [10] = str (textV v)) := by
        show _ = _
        unfold textV; rw [if_neg (by omega), two_is v hk]; simp only [← str_app]
      have hr := HRT.out
      unfold rightV at hr
      rw [if_neg (by omega), if_pos hk] at hr
      simp only [Bool.and_eq_true] at hr
      have g1 := between_I64 hr.1.2 (by decide) (by decide)
      have g2 := between_I64 hr.2 (by decide) (by decide)
      have T1 := Lib.hid (rtextZ_c v.paths g1)
      have T2 := Lib.hid (rtextZ_c v.ends g2)
      have z1 := str_itoaZ_le v.paths g1
      have z2 := str_itoaZ_le v.ends g2
      have HX : Hid (∀ u, Below w2.heap.size w2 u → u.cell? ⟨w.heap.size, 3, none⟩ = some (.int .i64 v.paths) ∧ u.cell? ⟨w.heap.size, 4, none⟩ = some (.int .i64 v.ends)) := fun u hu => by
        have h := HAT2.out u hu
        exact ⟨h.c3, h.c4⟩
      clear HRT hr g1 g2
      generalize str (Lib.itoa v.paths) = S1 at T1 z1 HT
      generalize str (Lib.itoa v.ends) = S2 at T2 z2 HT
      have f1 : ¬ (9223372036854775807 < 5 + S1.size) := by omega
      have f2 : ¬ (9223372036854775807 < 5 + S1.size + 1) := by omega
      have f2' : ¬ (9223372036854775806 < 5 + S1.size) := by omega
      have f3 : ¬ (9223372036854775807 < 5 + S1.size + 1 + S2.size) := by omega
      have f4 : ¬ (9223372036854775806 < 5 + S1.size + 1 + S2.size) := by omega
      go_upto_region 6 with fail
      have e1a : ¬ (9223372036854775807 < 5 + S1.size + 1 + S2.size + 1) := by omega
      have e2a : ¬ (9223372036854775807 ≤ 5 + S1.size + 1 + S2.size) := by omega
      have e3a : 5 + S1.size + 1 + S2.size < 9223372036854775807 := by omega
      clear p0 p1 p2 p5 p6 p7 p8 p9
      go_region_held3 (fun u => u.cell? ⟨w.heap.size, 3, none⟩ = some (.int .i64 v.paths) ∧ u.cell? ⟨w.heap.size, 4, none⟩ = some (.int .i64 v.ends))
        (exact HX.out _ (by repeat (first | exact Below.refl _ _ | assumption | refine bdrN ?_ _ | refine bdr ?_)))
        (first
          | (go_at_call_of 34 (Value.int .i64 v.paths); (with_reducible refine (T1.out _).mono ?_); rintro e w3 ⟨rfl, hb3⟩; have h3 : Below w2.heap.size w2 w3 := bt (by repeat (first | exact Below.refl _ _ | assumption | refine bdrN ?_ _ | refine bdr ?_)) hb3; clear hb3)
          | (go_at_call_of 34 (Value.int .i64 v.ends); (with_reducible refine (T2.out _).mono ?_); rintro e w4 ⟨rfl, hb4⟩; have h4 : Below w2.heap.size w2 w4 := bt (by repeat (first | exact Below.refl _ _ | assumption | refine bdrN ?_ _ | refine bdr ?_)) hb4; clear hb4))
      all_goals
        go_wp2_with fail
        go_ret
        exact ⟨ret_str (by rw [HS.out]; exact HT.out), bt HB2.out (by repeat (first | assumption | refine bdrN ?_ _ | refine bdr ?_))⟩
    · have h1 : (v.kind == 3) = true := by simpa using hk
      have h2 : (v.kind == 1) = false := by rw [hk]; rfl
      have h3 : (v.kind == 2) = false := by rw [hk]; rfl
      have h4 : (v.kind == 4) = false := by rw [hk]; rfl
      have HHD := Lib.hid (head_is v hk)
      have HTX : Hid (textV v = joinB (wordsV v) ++ 10 :: showK v.sched) := by show _ = _; unfold textV; rw [if_pos hk]
      have hr := HRT.out
      unfold rightV at hr
      rw [if_neg (by omega), if_neg (by omega), if_pos hk] at hr
      simp only [Bool.and_eq_true, decide_eq_true_eq] at hr
      have g1 := between_I64 hr.1.1.1.2 (by decide) (by decide)
      have g2 := between_I64 hr.1.1.2 (by decide) (by decide)
      have hc20 : v.bad.cells.length ≤ 20 := hr.1.2
      have HN3 := Lib.hid (rName_c v.bad.kind)
      have T1 := Lib.hid (rtextZ_c v.bad.what g1)
      have T2 := Lib.hid (rtextZ_c v.bad.crashes g2)
      have z1 := str_itoaZ_le v.bad.what g1
      have z2 := str_itoaZ_le v.bad.crashes g2
      have z3 : (str (nameK v.bad.kind)).size ≤ 20 := by rw [str_size]; exact name_le _
      have HT : Hid (str [118, 105, 111, 108, 97, 116, 105, 111, 110, 32] ++ str (nameK v.bad.kind) ++ str [32] ++ str (Lib.itoa v.bad.what) ++ str [32] ++ str (Lib.itoa v.bad.crashes) = str (headV v)) := by
        show _ = _
        rw [three_is v]; simp only [← str_app]
      have HX : Hid (∀ u, Below w2.heap.size w2 u → u.cell? ⟨w.heap.size, 5, none⟩ = some (.int .i64 v.bad.kind) ∧ u.cell? ⟨w.heap.size, 6, none⟩ = some (.int .i64 v.bad.what) ∧ u.cell? ⟨w.heap.size, 7, none⟩ = some (.int .i64 v.bad.crashes)) := fun u hu => by
        have h := HAT2.out u hu
        exact ⟨h.c5, h.c6, h.c7⟩
      clear HRT hr g1 g2 hk
      go_upto_region 9 with fail
      go_cut [3] from 37 to 53 (fun x wx => x = .string (str (headV v)) ∧ Below w2.heap.size w2 wx)
      case first =>
        generalize str (nameK v.bad.kind) = S3 at HN3 z3 HT
        generalize str (Lib.itoa v.bad.what) = S1 at T1 z1 HT
        generalize str (Lib.itoa v.bad.crashes) = S2 at T2 z2 HT
        have f1 : ¬ (9223372036854775807 < 10 + S3.size) := by omega
        have f1' : ¬ (9223372036854775806 < 10 + S3.size) := by omega
        have f2 : ¬ (9223372036854775807 < 10 + S3.size + 1 + S1.size) := by omega
        have f2' : ¬ (9223372036854775806 < 10 + S3.size + 1 + S1.size) := by omega
        have f3 : ¬ (9223372036854775807 < 10 + S3.size + 1 + S1.size + 1 + S2.size) := by omega
        have e1a : ¬ (9223372036854775807 < 10 + S3.size + 1) := by omega
        have e2a : ¬ (9223372036854775807 ≤ 10 + S3.size) := by omega
        have e3a : 10 + S3.size < 9223372036854775807 := by omega
        have e1b : ¬ (9223372036854775807 < 10 + S3.size + 1 + S1.size + 1) := by omega
        have e2b : ¬ (9223372036854775807 ≤ 10 + S3.size + 1 + S1.size) := by omega
        have e3b : 10 + S3.size + 1 + S1.size < 9223372036854775807 := by omega
        clear p0 p1 p2 p3 p4 p8 p9
        go_region_held3 (fun u => u.cell? ⟨w.heap.size, 5, none⟩ = some (.int .i64 v.bad.kind) ∧ u.cell? ⟨w.heap.size, 6, none⟩ = some (.int .i64 v.bad.what) ∧ u.cell? ⟨w.heap.size, 7, none⟩ = some (.int .i64 v.bad.crashes))
          (exact HX.out _ (by repeat (first | exact Below.refl _ _ | assumption | refine bdrN ?_ _ | refine bdr ?_)))
          (first
            | (go_at_call 35; (with_reducible refine (HN3.out _).mono ?_); rintro e w3 ⟨rfl, hb3⟩; have h3 : Below w2.heap.size w2 w3 := bt (by repeat (first | exact Below.refl _ _ | assumption | refine bdrN ?_ _ | refine bdr ?_)) hb3; clear hb3)
            | (go_at_call_of 34 (Value.int .i64 v.bad.what); (with_reducible refine (T1.out _).mono ?_); rintro e w4 ⟨rfl, hb4⟩; have h4 : Below w2.heap.size w2 w4 := bt (by repeat (first | exact Below.refl _ _ | assumption | refine bdrN ?_ _ | refine bdr ?_)) hb4; clear hb4)
            | (go_at_call_of 34 (Value.int .i64 v.bad.crashes); (with_reducible refine (T2.out _).mono ?_); rintro e w5 ⟨rfl, hb5⟩; have h5 : Below w2.heap.size w2 w5 := bt (by repeat (first | exact Below.refl _ _ | assumption | refine bdrN ?_ _ | refine bdr ?_)) hb5; clear hb5))
        all_goals
          go_wp2_with fail
          go_meet
          exact ⟨by rw [← HT.out]; rfl, (by repeat (first | assumption | refine bdrN ?_ _ | refine bdr ?_))⟩
      case rest =>
        obtain ⟨rfl, hbx⟩ := hcut
        have HBX := Lib.hid hbx
        clear hbx p0 p1 p2 p3 p4 p5 p6 p7 p8 p9 HT HX HN3 T1 T2 z1 z2 z3
        have HCC := Lib.hid hc20
        have hP : ∀ j, (headV v ++ tailB ((v.bad.cells.take j).map Lib.itoa)).length ≤ 504 := fun j => by
          have h1 := HLE.out
          have h2 := tailB_part v.bad.cells j
          rw [HHD.out, List.length_append] at h1
          rw [List.length_append]; omega
        have HP := Lib.hid hP
        clear hP
        go_wp2_with fail
        go_loopw [3, 4] (fun x k wr => ∃ j : Nat, j ≤ v.bad.cells.length ∧ k = .int .i64 j ∧ x = .string (str (headV v ++ tailB ((v.bad.cells.take j).map Lib.itoa))) ∧ Below w2.heap.size w2 wr) (fun _ k _ => v.bad.cells.length - (intOf k).toNat)
        case atStart => exact ⟨0, Nat.zero_le _, rfl, by simp [tailB], HBX.out⟩
        case round =>
          obtain ⟨j, hj, rfl, rfl, hb⟩ := hrel
          have HB := Lib.hid hb
          have zP : (str (headV v ++ tailB ((v.bad.cells.take j).map Lib.itoa))).size ≤ 504 := by rw [str_size]; exact HP.out j
          obtain ⟨p0, p1, p2, p3, p4, p5, p6, p7, p8, p9⟩ := HAT2.out wr hb
          by_cases hjl : j < v.bad.cells.length
          · obtain ⟨b3, off3, c3, hE3, hcc3, hbt3, hat3⟩ := Zs.at_ (l := v.bad.cells) (HOK.out.cells) (by omega)
            cases hE3
            have hy0 := ((bt HB2.out hb).cell (p := ⟨_, _, none⟩) hbt3).trans (hat3 j hjl)
            have hjl2 : (j : Int) < (v.bad.cells.length : Int) := by omega
            have g3 := HC.out _ (List.getElem_mem hjl)
            have T3 := Lib.hid (rtextZ_c v.bad.cells[j] g3 wr)
            have z3 := str_itoaZ_le v.bad.cells[j] g3
            have HNX : Hid (str (headV v ++ tailB ((v.bad.cells.take j).map Lib.itoa)) ++ (⟨#[32]⟩ ++ str (Lib.itoa v.bad.cells[j])) = str (headV v ++ tailB ((v.bad.cells.take (j + 1)).map Lib.itoa))) := by
              show _ = _
              rw [tailB_take _ j hjl, ← List.append_assoc, ← str_cons]
              exact str_snoc _ _
            clear hat3 hb g3
            generalize v.bad.cells[j] = n at hy0 T3 z3 HNX
            generalize str (Lib.itoa n) = S3 at T3 z3 HNX
            generalize str (headV v ++ tailB ((v.bad.cells.take j).map Lib.itoa)) = S1 at zP HNX ⊢
            go_wp2_with (go_at_call 34; (with_reducible refine (T3.out).mono ?_); rintro e w3 ⟨rfl, hb3⟩)
            go_roundw
            case rel => exact ⟨j + 1, by omega, by go_num, by rw [HNX.out], bt HB.out hb3⟩
            case measure => simp [intOf]; omega
          · obtain rfl : j = v.bad.cells.length := by omega
            have HSH : Hid (∀ u, Below wr.heap.size wr u → Calls Tryz.prog 36 #[.slice A2 v.sched.length k2] u fun e w' => e = .returned (.string (str (showK v.sched))) ∧ Below u.heap.size u w') := fun u hu => rShow_c v.sched HOK.out.ls (fun x hx => by have := HOK.out.lp x hx; omega) _ u (HOK.out.below (bt HB2.out (bt HB.out hu))).sched
            have hz2 : (str (showK v.sched)).size ≤ 22600000000 := by
              rw [str_size]
              unfold showK
              split
              · rename_i ha
                have := textK_len v.sched ha
                have := HOK.out.ls
                omega
              · simp
            have HF : Hid (str (headV v ++ tailB ((v.bad.cells.take v.bad.cells.length).map Lib.itoa)) ++ ⟨#[10]⟩ ++ str (showK v.sched) = str (textV v)) := by
              show _ ++ str [10] ++ _ = _
              rw [HTX.out, HHD.out, List.take_length, str_snoc, str_snoc, List.append_assoc _ [10]]; rfl
            clear hb
            generalize str (showK v.sched) = S2 at HSH hz2 HF
            generalize str (headV v ++ tailB ((v.bad.cells.take v.bad.cells.length).map Lib.itoa)) = S1 at zP HF ⊢
            go_wp2_with (go_at_call 36; (with_reducible refine (HSH.out _ (Below.refl _ _)).mono ?_); rintro e w3 ⟨rfl, hb3⟩)
            go_ret
            exact ⟨ret_str (by rw [HS.out]; exact HF.out), bt HB2.out (bt HB.out hb3)⟩
    · have h1 : (v.kind == 4) = true := by simpa using hk
      have h2 : (v.kind == 1) = false := by rw [hk]; rfl
      have h3 : (v.kind == 2) = false := by rw [hk]; rfl
      have HT : Hid (textV v = [98, 117, 100, 103, 101, 116, 10]) := by
        show _ = _
        unfold textV wordsV
        rw [if_neg (by omega), if_neg (by omega), if_neg (by omega), if_neg (by omega)]
        rfl
      clear HRT
      go_wp2_with fail
      go_ret
      exact ⟨ret_str (by rw [HS.out, HT.out]; rfl), HB2.out⟩
end Go.Proofs.YtcgcndmlgfnjbaaGreatDoor

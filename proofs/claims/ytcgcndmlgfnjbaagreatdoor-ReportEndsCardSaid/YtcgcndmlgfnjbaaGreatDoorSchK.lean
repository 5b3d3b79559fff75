/- A line cut at blanks: the reference's walk. -/
import Derived.Test.YtcgcndmlgfnjbaaGreatDoorSchJ
namespace Go.Proofs.YtcgcndmlgfnjbaaGreatDoor
open Go Go.RowKit
set_option linter.unusedVariables false
structure WS (d : List UInt8) (L : List (List UInt8)) (f j : Nat) : Prop where
  is : splitK d = L ++ splitK (d.drop f)
  le : f ≤ j
  top : j ≤ d.length
  no : 32 ∉ (d.drop f).take (j - f)
  len : L.length ≤ f
theorem WS.zero (d : List UInt8) : WS d [] 0 0 := ⟨rfl, Nat.le_refl _, Nat.zero_le _, by simp, Nat.le_refl _⟩
theorem take_more {α : Type} (d : List α) (f j : Nat) (h : f ≤ j) (hj : j < d.length) : (d.drop f).take (j + 1 - f) = (d.drop f).take (j - f) ++ [d[j]] := by
  rw [show j + 1 - f = (j - f) + 1 by omega, List.take_succ_eq_append_getElem (by rw [List.length_drop]; omega)]
  congr 2
  rw [List.getElem_drop]
  congr 1; omega
theorem WS.other {d : List UInt8} {L : List (List UInt8)} {f j : Nat} (h : WS d L f j) (hj : j < d.length) (hn : ¬ d[j] = 32) : WS d L f (j + 1) := by
  refine ⟨h.is, by have := h.le; omega, hj, ?_, h.len⟩
  rw [take_more d f j h.le hj]
  intro hm
  rcases List.mem_append.1 hm with hm | hm
  · exact h.no hm
  · simp only [List.mem_cons, List.not_mem_nil, or_false] at hm; exact hn hm.symm
theorem drop_split {α : Type} (d : List α) (f j : Nat) (h : f ≤ j) (hj : j < d.length) : d.drop f = (d.drop f).take (j - f) ++ d[j] :: d.drop (j + 1) := by
  have h1 := (List.take_append_drop (j - f) (d.drop f)).symm
  rw [List.drop_drop, show f + (j - f) = j by omega, List.drop_eq_getElem_cons hj] at h1
  exact h1
theorem WS.blank {d : List UInt8} {L : List (List UInt8)} {f j : Nat} (h : WS d L f j) (hj : j < d.length) (hn : d[j] = 32) : WS d (L ++ [(d.drop f).take (j - f)]) (j + 1) (j + 1) := by
  refine ⟨?_, Nat.le_refl _, hj, by simp, by rw [List.length_append]; have := h.len; have := h.le; simp; omega⟩
  have e := drop_split d f j h.le hj
  rw [hn] at e
  rw [h.is]
  conv => lhs; rw [e]
  rw [split_app _ _ h.no]
  simp
theorem WS.fin {d : List UInt8} {L : List (List UInt8)} {f : Nat} (h : WS d L f d.length) : splitK d = L ++ [d.drop f] := by
  have hn := h.no
  rw [List.take_of_length_le (by rw [List.length_drop]; omega)] at hn
  rw [h.is, split_one _ hn]
theorem ext_mid (s : ByteArray) (a b : Nat) : s.extract a b = str ((s.data.toList.drop a).take (b - a)) := by
  rw [← str_of (s.extract a b)]
  congr 1
  rw [← ByteArray.toList_eq, extract_toList]
theorem ext_end (s : ByteArray) (a : Nat) : s.extract a s.size = str (s.data.toList.drop a) := by
  rw [ext_mid, List.take_of_length_le]
  rw [List.length_drop, Array.length_toList]
  show s.size - a ≤ _
  omega
theorem info_string : (Tryz.prog.info? 9).map (fun i => (i.zero, i.size, i.bytes)) = some (some (.string ⟨#[]⟩), 1, 16) := by kernel_rfl
theorem str_one (l : List (List UInt8)) : ∀ u ∈ l.flatMap strCell, u.oneCell' = true := by
  intro u hu
  obtain ⟨x, _, hx⟩ := List.mem_flatMap.1 hu
  simp only [strCell, List.mem_cons, List.not_mem_nil, or_false] at hx
  rw [hx]; rfl
theorem byte_at (s : ByteArray) (j : Nat) (h : j < s.size) : s.data.toList[j]'(by rw [Array.length_toList]; exact h) = s[j] := by simp; rfl
theorem sl_str (w : World) (b : ByteArray) (y : List UInt8) (h : b = str y) : SlN (w.alloc (.cells #[.string b] 9)) (.slice (some ⟨w.heap.size, 0, none⟩) 1 1) 1 1 ([y].flatMap strCell) := by
  subst h
  exact sl_lit w [.string (str y)] 9 1 1 1 rfl (Nat.le_refl _)
set_option maxRecDepth 100000 in
set_option maxHeartbeats 4000000 in
theorem rwords_c (s : ByteArray) (hs : s.size ≤ 1000000) (w : World) :
    Calls Tryz.prog 98 #[.string s] w fun e w' => ∃ A c, e = .returned (.slice A (splitK s.data.toList).length c) ∧ Strs w' (.slice A (splitK s.data.toList).length c) (splitK s.data.toList) ∧ Below w.heap.size w w' := by
  obtain ⟨i0, hi0, hz0, hz1, hz2⟩ := info_parts info_string
  have HE0 := Lib.hid (own_empty w 9 1 (by decide))
  have hsl : s.data.toList.length = s.size := by rw [Array.length_toList]; rfl
  have HSL := Lib.hid hsl
  clear hsl
  go_enter Tryz.func98, Tryz.ntmps98
  go_wp2_with fail
  go_loopw [3, 4, 5] (fun out f k wr => ∃ (m g j : Nat) (L : List (List UInt8)), WS s.data.toList L g j ∧ L.length = m ∧ f = .int .i64 g ∧ k = .int .i64 j ∧ (∃ A c, out = .slice A m c) ∧ wr.ownsRow w.heap.size 9 1 out m (L.flatMap strCell) ∧ Below w.heap.size w wr) (fun _ _ k _ => s.size - (intOf k).toNat)
  case atStart => exact ⟨0, 0, 0, [], WS.zero _, rfl, rfl, rfl, ⟨_, _, rfl⟩, HE0.out, al _ _⟩
  case round =>
    obtain ⟨m, g, j, L, hws, hm, rfl, rfl, ⟨A, cc, rfl⟩, hown, hb⟩ := hrel
    have hg1 := hws.le
    have hj1 : j ≤ s.size := by have := hws.top; rw [HSL.out] at this; exact this
    have hml : m ≤ g := by rw [← hm]; exact hws.len
    have HWS := Lib.hid hws
    have HOWN := Lib.hid hown
    have HB := Lib.hid hb
    have HM := Lib.hid hm
    have HSZ := Lib.hid hb.size
    have HT4 : Hid (m + 1 ≤ maxLen ∧ (m + 1) * 16 ≤ 140737488355328) := by show _ ∧ _; unfold maxLen; constructor <;> omega
    have hj0 : (0 : Int) ≤ (j : Int) := Int.natCast_nonneg _
    have hg0 : (0 : Int) ≤ (g : Int) := Int.natCast_nonneg _
    have hgj : (g : Int) ≤ (j : Int) := by omega
    have hjs : (j : Int) ≤ (s.size : Int) := by omega
    clear hws hown hb hm hml
    by_cases hjl : j < s.size
    · have hjl2 : (j : Int) < (s.size : Int) := by omega
      have hby := byte_at s j hjl
      have HBY := Lib.hid hby
      cases hv : (((s[j]'hjl).toNat : Int) == 32)
      · have HN : Hid (¬ s.data.toList[j]'(by rw [HSL.out]; exact hjl) = 32) := by
          intro e
          rw [HBY.out] at e
          rw [e] at hv
          exact absurd hv (by decide)
        clear hby
        go_wp2_with fail
        go_roundw
        case rel => exact ⟨m, g, j + 1, L, HWS.out.other _ HN.out, HM.out, rfl, by go_num, ⟨A, cc, rfl⟩, HOWN.out, HB.out⟩
        case measure => simp [intOf]; omega
      · have HN : Hid (s.data.toList[j]'(by rw [HSL.out]; exact hjl) = 32) := by
          show _ = _
          rw [HBY.out]
          have h1 : (s[j]'hjl).toNat = 32 := by rw [beq_iff_eq] at hv; omega
          exact UInt8.toNat_inj.1 h1
        clear hby
        go_wp2_with (first
          | (at_builtin; refine wpl_app rfl _ _ 43 rfl w.heap.size 9 i0 _ 1 16 Tryz.underlying43 hi0 hz0 hz1 hz2 rfl (by decide) (.slice A m cc) m (L.flatMap strCell) rfl (own_below HOWN.out (al wr _)) (.slice (some ⟨wr.heap.size, 0, none⟩) 1 1) 1 ([(s.data.toList.drop g).take (j - g)].flatMap strCell) rfl (sl_str wr _ _ (ext_mid s g j)) (str_one _) HT4.out.1 HT4.out.2 (Nat.le_trans HSZ.out (al wr _).size) ?_; intro v6 w6 hown6 hb6; obtain ⟨A6, c6, rfl⟩ := own_shape hown6; have hB6 := btB (balloc HB.out _) hb6 (Nat.le_refl _)))
        go_roundw
        case rel =>
          refine ⟨m + 1, j + 1, j + 1, _, HWS.out.blank _ HN.out, by rw [List.length_append, HM.out]; rfl, by go_num, by go_num, ⟨A6, c6, rfl⟩, ?_, hB6⟩
          rw [List.flatMap_append]
          exact hown6
        case measure => simp [intOf]; omega
    · obtain rfl : j = s.size := by omega
      have HF : Hid (splitK s.data.toList = L ++ [s.data.toList.drop g]) := by
        have := HWS.out
        rw [← HSL.out] at this
        exact this.fin
      go_wp2_with (first
        | (at_builtin; refine wpl_app rfl _ _ 43 rfl w.heap.size 9 i0 _ 1 16 Tryz.underlying43 hi0 hz0 hz1 hz2 rfl (by decide) (.slice A m cc) m (L.flatMap strCell) rfl (own_below HOWN.out (al wr _)) (.slice (some ⟨wr.heap.size, 0, none⟩) 1 1) 1 ([s.data.toList.drop g].flatMap strCell) rfl (sl_str wr _ _ (ext_end s g)) (str_one _) HT4.out.1 HT4.out.2 (Nat.le_trans HSZ.out (al wr _).size) ?_; intro v6 w6 hown6 hb6; obtain ⟨A6, c6, rfl⟩ := own_shape hown6; have hB6 := btB (balloc HB.out _) hb6 (Nat.le_refl _)))
      go_ret
      rw [HF.out, List.length_append, HM.out]
      refine ⟨A6, c6, rfl, ?_, hB6⟩
      have := sl_of_own hown6
      rw [← List.flatMap_append] at this
      show SlN _ _ 1 (L ++ _).length _
      rw [List.length_append, HM.out]
      exact this
end Go.Proofs.YtcgcndmlgfnjbaaGreatDoor

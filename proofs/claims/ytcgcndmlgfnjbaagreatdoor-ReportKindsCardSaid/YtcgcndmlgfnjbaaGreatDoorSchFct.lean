/- Facts on schedules' texts: plain. -/
import Derived.Test.YtcgcndmlgfnjbaaGreatDoorSchE
namespace Go.Proofs.YtcgcndmlgfnjbaaGreatDoor
open Go
set_option linter.unusedVariables false
theorem text_ge : ∀ (l : List Pk), l.length ≤ (textK l).length
  | [] => Nat.le_refl _
  | p :: l => by
    have := text_ge l
    have e : textK (p :: l) = lineK p ++ 10 :: textK l := by simp [textK]
    rw [e, List.length_append, List.length_cons, List.length_cons]
    omega
theorem right_cut {p : Pk} (h : rightK p = true) : p.cut.length ≤ 20 := by
  unfold rightK at h
  split at h
  · simp only [Bool.and_eq_true, List.isEmpty_iff] at h
    rw [h.2]; exact Nat.zero_le _
  · split at h
    · simp only [Bool.and_eq_true, List.isEmpty_iff] at h
      rw [h.2]; exact Nat.zero_le _
    · split at h
      · simp only [Bool.and_eq_true, decide_eq_true_eq] at h
        exact h.1.2
      · cases h
theorem parse_facts (s : List UInt8) : (∃ l, parseK s = (l, 0, 0) ∧ l.all rightK = true ∧ textK l = s) ∨ (∃ e n : Nat, parseK s = ([], (e : Int), (n : Int)) ∧ ¬ (e : Int) = 0) := by
  unfold parseK
  split
  · cases h : parG [] s with
    | ok l =>
      obtain ⟨h1, h2⟩ := par_back s [] l h
      exact .inl ⟨l, rfl, h1, h2⟩
    | error n => exact .inr ⟨8, n, rfl, by decide⟩
  · exact .inr ⟨2, 0, rfl, by decide⟩
theorem all_cut {l : List Pk} (h : l.all rightK = true) : ∀ x ∈ l, x.cut.length ≤ 20 := fun x hx => right_cut (List.all_eq_true.1 h x hx)
theorem parse_small (s : List UInt8) (hs : s.length ≤ 1000000) : (parseK s).1.length ≤ 1000000 ∧ ∀ x ∈ (parseK s).1, x.cut.length ≤ 20 := by
  rcases parse_facts s with ⟨l, h, h1, h2⟩ | ⟨e, n, h, _⟩
  · rw [h]
    have := text_ge l
    rw [h2] at this
    exact ⟨Nat.le_trans this hs, all_cut h1⟩
  · rw [h]; exact ⟨Nat.zero_le _, by simp⟩
theorem parse_shown (l : List Pk) (h : l.all rightK = true) (hl : l.length ≤ 400) : parseK (textK l) = (l, 0, 0) := by
  have := textK_len l h
  unfold parseK
  rw [if_pos (by omega), par_shown l h]; rfl
theorem parse_empty : parseK [] = ([], 0, 0) := rfl
theorem show_all {l : List Pk} (h : l.all rightK = true) : showK l = textK l := by unfold showK; rw [if_pos h]
theorem show_none {l : List Pk} (h : l.all rightK = false) : showK l = [] := by unfold showK; rw [h]; rfl
theorem all_step (l : List Pk) (j : Nat) (h : j < l.length) : (l.take (j + 1)).all rightK = ((l.take j).all rightK && rightK l[j]) := by
  rw [List.take_succ_eq_append_getElem h, List.all_append]; simp
theorem text_app (a b : List Pk) : textK (a ++ b) = textK a ++ textK b := by unfold textK; rw [List.flatMap_append]
theorem all_app {a b : List Pk} (ha : a.all rightK = true) (hb : b.all rightK = true) : (a ++ b).all rightK = true := by rw [List.all_append, ha, hb]; rfl
theorem all_upto {l : List Pk} (h : ∀ j (hj : j < l.length), rightK l[j] = true) : l.all rightK = true := by
  have := all_take h l.length
  rwa [List.take_length] at this
theorem small_up {l : List Pk} (h : ∀ x ∈ l, x.cut.length ≤ 25) : ∀ x ∈ l, x.cut.length ≤ 4611686018427387904 := fun x hx => by have := h x hx; omega
theorem small_mid {l : List Pk} (h : ∀ x ∈ l, x.cut.length ≤ 25) : ∀ x ∈ l, x.cut.length ≤ 100000000 := fun x hx => by have := h x hx; omega
end Go.Proofs.YtcgcndmlgfnjbaaGreatDoor

/- The number that a token's digits spell, as the program reads it: plain. No program in this text. -/
import Derived.Test.YtknfimagjkndnaaDoorNumPlain
import Derived.Test.YtknfimagjkndnaaDoorRScanPlain
import Derived.Lib.TrimByte
namespace Go.Proofs.YtknfimagjkndnaaDoor
open Go Go.RowKit
set_option linter.unusedVariables false
theorem dw_head {p : UInt8 → Bool} : ∀ {l : List UInt8} {y : UInt8} {ys : List UInt8}, l.dropWhile p = y :: ys → p y = false
  | [], _, _, h => by cases h
  | c :: l, y, ys, h => by
    rw [List.dropWhile_cons] at h
    cases hp : p c with
    | true => rw [if_pos hp] at h; exact dw_head h
    | false => rw [hp] at h; injection h with h _; rw [← h]; exact hp
theorem dw_nil {p : UInt8 → Bool} : ∀ {l : List UInt8}, l.dropWhile p = [] → l.all p = true
  | [], _ => rfl
  | c :: l, h => by
    rw [List.dropWhile_cons] at h
    cases hp : p c with
    | true => rw [if_pos hp] at h; rw [List.all_cons, hp, dw_nil h]; rfl
    | false => rw [hp] at h; cases h
theorem dw_all {p : UInt8 → Bool} : ∀ {l : List UInt8}, l.all p = true → l.dropWhile p = []
  | [], _ => rfl
  | c :: l, h => by
    rw [List.all_cons, Bool.and_eq_true] at h
    rw [List.dropWhile_cons, if_pos h.1, dw_all h.2]
theorem trimB_all (l : List UInt8) (c : UInt8) : Lib.trimB l c = [] ↔ l.all (· == c) = true := by
  unfold Lib.trimB Lib.trimLeftB Lib.trimRightB
  constructor
  · intro h
    have h1 := dw_nil h
    cases hm : l.reverse.dropWhile (· == c) with
    | nil =>
      have := dw_nil hm
      rw [List.all_reverse] at this
      exact this
    | cons y ys =>
      have h2 := dw_head hm
      rw [hm, List.all_reverse, List.all_cons, Bool.and_eq_true] at h1
      rw [h1.1] at h2
      cases h2
  · intro h
    have e : l.reverse.dropWhile (· == c) = [] := dw_all (by rw [List.all_reverse]; exact h)
    rw [e]
    rfl
theorem valD_N (l : List UInt8) : valD l = valN l := by
  have : ∀ (l : List UInt8) (a : Nat), l.foldl (fun n c => 10 * n + (c.toNat - 48)) a = valF a l := by
    intro l
    induction l with
    | nil => intro a; rfl
    | cons c r ih => intro a; rw [List.foldl_cons, ih, valF_cons]; congr 1; unfold stepN; omega
  exact this l 0
theorem valF_zeros : ∀ (l : List UInt8), valF 0 (l.dropWhile (· == 48)) = valF 0 l
  | [] => rfl
  | c :: l => by
    rw [List.dropWhile_cons]
    cases hc : (c == 48) with
    | true =>
      rw [if_pos rfl, valF_zeros l, valF_cons]
      have : c = 48 := by simpa using hc
      subst this
      rfl
    | false => rfl
theorem valF_zero {l : List UInt8} (h : l.all (· == 48) = true) : valF 0 l = 0 := by
  rw [← valF_zeros, dw_all h]; rfl
/-- the digits without the noughts ahead, but for the last one -/
def bareD (l : List UInt8) : List UInt8 := Lib.trimLeftB (l.take (l.length - 1)) 48 ++ l.drop (l.length - 1)
theorem valF_app' (a b : List UInt8) (k : Nat) : valF k (a ++ b) = valF (valF k a) b := valF_app a b k
theorem bareD_val (l : List UInt8) : valN (bareD l) = valD l := by
  unfold bareD valN Lib.trimLeftB
  rw [valF_app', valF_zeros, ← valF_app', List.take_append_drop, valD_N]
  rfl
theorem isDig_eq (c : UInt8) : isDig c = digitE c := rfl
theorem all_drop {p : UInt8 → Bool} : ∀ {l : List UInt8} {q : UInt8 → Bool}, l.all p = true → (l.dropWhile q).all p = true
  | [], _, _ => rfl
  | c :: l, q, h => by
    rw [List.dropWhile_cons]
    have h2 := h
    rw [List.all_cons, Bool.and_eq_true] at h2
    split
    · exact all_drop h2.2
    · exact h
/-- what the program reads of a token's digits -/
def tokN (l : List UInt8) : Int × Int := if Lib.trimB l 48 = [] then (0, 0) else numE (bareD l)
theorem bareD_form {l : List UInt8} (hn : l ≠ []) (hd : l.all digitE = true) (hz : ¬ Lib.trimB l 48 = []) : ∃ c r, bareD l = c :: r ∧ digitE c = true ∧ (bareD l).all isDig = true ∧ (c = 48 → r = []) := by
  have hpos : 0 < l.length := List.length_pos_iff.2 hn
  have hall : (bareD l).all isDig = true := by
    unfold bareD
    rw [List.all_append, Bool.and_eq_true]
    have h1 : (l.take (l.length - 1)).all digitE = true := by
      rw [List.all_eq_true] at hd ⊢
      exact fun x hx => hd x (List.mem_of_mem_take hx)
    have h2 : (l.drop (l.length - 1)).all digitE = true := by
      rw [List.all_eq_true] at hd ⊢
      exact fun x hx => hd x (List.mem_of_mem_drop hx)
    exact ⟨all_drop h1, h2⟩
  have hdl : (l.drop (l.length - 1)).length = 1 := by rw [List.length_drop]; omega
  obtain ⟨z, hzl⟩ : ∃ z, l.drop (l.length - 1) = [z] := by
    match l.drop (l.length - 1), hdl with
    | [z], _ => exact ⟨z, rfl⟩
  cases hm : Lib.trimLeftB (l.take (l.length - 1)) 48 with
  | nil =>
    have e : bareD l = [z] := by unfold bareD; rw [hm, hzl]; rfl
    rw [e] at hall ⊢
    refine ⟨z, [], rfl, ?_, hall, fun _ => rfl⟩
    simpa [isDig_eq] using hall
  | cons y ys =>
    have e : bareD l = y :: (ys ++ [z]) := by unfold bareD; rw [hm, hzl]; rfl
    rw [e] at hall ⊢
    refine ⟨y, _, rfl, ?_, hall, fun h => ?_⟩
    · rw [List.all_cons, Bool.and_eq_true] at hall; exact hall.1
    · have := dw_head (p := (· == 48)) hm
      rw [h] at this
      cases this
theorem digit_ne {c : UInt8} (h : digitE c = true) : c ≠ 45 := by
  intro e
  subst e
  cases h
theorem bareD_num {l : List UInt8} (hn : l ≠ []) (hd : l.all digitE = true) (hz : ¬ Lib.trimB l 48 = []) : numE (bareD l) = if I64 (valD l) then ((valD l : Int), 0) else (0, 4) := by
  obtain ⟨c, r, e, hc, hall, h0⟩ := bareD_form hn hd hz
  have hne := digit_ne hc
  have h1 : digitsOf (bareD l) = bareD l := by rw [e, digitsOf_cons, if_neg hne]
  have hform : formN (bareD l) = true := by
    unfold formN
    rw [h1, hall]
    have h2 : (bareD l).isEmpty = false := by rw [e]; rfl
    rw [h2]
    have h3 : (decide ((bareD l).head? = some 48) && !decide (bareD l = [48])) = false := by
      by_cases h : c = 48
      · have := h0 h
        rw [e, this, h]
        simp
      · rw [e]
        simp [h]
    rw [h3]
    rfl
  have hsg : signed (bareD l) = (valD l : Int) := by
    unfold signed
    rw [h1, if_neg (by rw [e]; simp only [List.head?_cons, Option.some.injEq]; exact hne), bareD_val]
  unfold numE
  rw [if_pos hform, hsg]
theorem tokN_ok {l : List UInt8} (hn : l ≠ []) (hd : l.all digitE = true) (h : valD l ≤ 4294967296) : tokN l = ((valD l : Int), 0) := by
  unfold tokN
  split
  · rename_i hz
    rw [valD_N, valN, valF_zero ((trimB_all l 48).1 hz)]
    rfl
  · rename_i hz
    rw [bareD_num hn hd hz, if_pos]
    unfold I64
    omega
theorem tokN_big {l : List UInt8} (hn : l ≠ []) (hd : l.all digitE = true) (h : ¬ valD l ≤ 4294967296) : tokN l = (0, 4) ∨ ∃ n : Int, 4294967296 < n ∧ n ≤ 9223372036854775807 ∧ tokN l = (n, 0) := by
  unfold tokN
  split
  · rename_i hz
    exfalso
    rw [valD_N, valN, valF_zero ((trimB_all l 48).1 hz)] at h
    exact h (by decide)
  · rename_i hz
    rw [bareD_num hn hd hz]
    split
    · rename_i hI
      exact .inr ⟨_, by omega, hI.2, rfl⟩
    · exact .inl rfl
end Go.Proofs.YtknfimagjkndnaaDoor

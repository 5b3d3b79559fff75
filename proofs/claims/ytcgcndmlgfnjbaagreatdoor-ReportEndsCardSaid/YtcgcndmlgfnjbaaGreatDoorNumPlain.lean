/- Numbers of texts, as plain functions of lists of bytes. No program in this text. -/
import Derived.Lib.ParseIntB
import Derived.Lib.ItoaLen
import Derived.Lib.Strings
namespace Go.Proofs.YtcgcndmlgfnjbaaGreatDoor
open Go
set_option linter.unusedVariables false
def I64 (a : Int) : Prop := -9223372036854775808 ≤ a ∧ a ≤ 9223372036854775807
instance (a : Int) : Decidable (I64 a) := inferInstanceAs (Decidable (_ ∧ _))
/-- is a byte a digit? -/
def isDig (c : UInt8) : Bool := decide (48 ≤ c.toNat) && decide (c.toNat ≤ 57)
theorem isDig_iff (c : UInt8) : isDig c = true ↔ 48 ≤ c.toNat ∧ c.toNat ≤ 57 := by simp [isDig]
theorem isDig_false (c : UInt8) : isDig c = false ↔ c.toNat < 48 ∨ 57 < c.toNat := by
  rw [← Bool.not_eq_true, isDig_iff]; omega
def stepN (acc : Nat) (c : UInt8) : Nat := acc * 10 + (c.toNat - 48)
/-- the number that digits spell behind others -/
def valF (acc : Nat) (l : List UInt8) : Nat := l.foldl stepN acc
theorem valF_nil (acc : Nat) : valF acc [] = acc := rfl
def valN (l : List UInt8) : Nat := valF 0 l
theorem valF_cons (acc : Nat) (c : UInt8) (r : List UInt8) : valF acc (c :: r) = valF (stepN acc c) r := by
  unfold valF; rw [List.foldl_cons]
theorem valF_snoc (l : List UInt8) (c : UInt8) (acc : Nat) : valF acc (l ++ [c]) = stepN (valF acc l) c := by
  unfold valF; rw [List.foldl_append, List.foldl_cons, List.foldl_nil]
theorem valF_ge (l : List UInt8) : ∀ acc, acc ≤ valF acc l := by
  induction l with
  | nil => intro acc; exact Nat.le_refl _
  | cons x l ih => intro acc; have := ih (stepN acc x); rw [valF_cons]; unfold stepN at *; omega
theorem valF_app (l m : List UInt8) : ∀ acc, valF acc (l ++ m) = valF (valF acc l) m := by
  induction l with
  | nil => intro acc; simp only [List.nil_append, valF_nil]
  | cons x l ih => intro acc; rw [List.cons_append, valF_cons, valF_cons, ih]
/-- what stands behind a sign -/
def digitsOf (s : List UInt8) : List UInt8 := Lib.trimPrefix s [45]
/-- is a text of the form of a number? -/
def formN (s : List UInt8) : Bool := (digitsOf s).all isDig && !(digitsOf s).isEmpty && !(decide ((digitsOf s).head? = some 48) && !decide (s = [48]))
def signed (s : List UInt8) : Int := if s.head? = some 45 then -(valN (digitsOf s) : Int) else valN (digitsOf s)
/-- the number of a text, and what is wrong -/
def numE (s : List UInt8) : Int × Int := if formN s then (if I64 (signed s) then (signed s, 0) else (0, 4)) else (0, 8)
theorem digitsOf_cons (c : UInt8) (r : List UInt8) : digitsOf (c :: r) = if c = 45 then r else c :: r := by
  unfold digitsOf Lib.trimPrefix Lib.hasPrefix
  by_cases h : c = 45
  · simp [h]
  · have : ¬ (45 = c) := fun e => h e.symm
    simp [h, this]
theorem digitsOf_nil : digitsOf [] = [] := by unfold digitsOf Lib.trimPrefix Lib.hasPrefix; simp
/-! ### strconv's reading -/
theorem parseUintM_digits (l : List UInt8) : ∀ acc, acc ≤ 18446744073709551615 → l.all isDig = true →
    Lib.parseUintM 18446744073709551615 acc l = if valF acc l ≤ 18446744073709551615 then .ok (valF acc l) else .range := by
  induction l with
  | nil => intro acc h _; simp [Lib.parseUintM, valF_nil, h]
  | cons c r ih =>
    intro acc h hd
    simp only [List.all_cons, Bool.and_eq_true] at hd
    have hc := (isDig_iff c).1 hd.1
    unfold Lib.parseUintM
    rw [if_pos hc]
    have hge := valF_ge r (stepN acc c)
    rw [valF_cons]
    unfold stepN at hge ⊢
    by_cases h1 : 1844674407370955162 ≤ acc
    · rw [if_pos h1, if_neg (by omega)]
    · rw [if_neg h1]
      by_cases h2 : 18446744073709551615 < acc * 10 + (c.toNat - 48)
      · rw [if_pos h2, if_neg (by omega)]
      · rw [if_neg h2]
        exact ih _ (by omega) hd.2
theorem parseIntB_form (s : List UInt8) (h : formN s = true) : Lib.parseIntB 64 s = if I64 (signed s) then .ok (signed s) else .range := by
  unfold formN at h
  simp only [Bool.and_eq_true] at h
  obtain ⟨⟨hd, hne⟩, _⟩ := h
  cases s with
  | nil => rw [digitsOf_nil] at hne; simp at hne
  | cons c r =>
    have e64 : (2 : Nat) ^ 64 - 1 = 18446744073709551615 := by decide +kernel
    have e63 : (2 : Nat) ^ (64 - 1) = 9223372036854775808 := by decide +kernel
    rw [digitsOf_cons] at hd hne
    unfold Lib.parseIntB
    simp only [Lib.parseUintB, e64, e63]
    by_cases hc : c = 45
    · subst hc
      simp only [if_true] at hd hne
      have hr : r ≠ [] := by intro e; subst e; simp at hne
      have h45 : (45 : UInt8).toNat = 45 := rfl
      simp only [h45, or_true, if_true, hr, if_false, parseUintM_digits r 0 (by omega) hd, not_true_eq_false, false_and, true_and]
      have es : signed (45 :: r) = -(valN r : Int) := by simp [signed, digitsOf_cons]
      rw [es]
      show _ = if I64 (-(valN r : Int)) then _ else _
      unfold valN
      generalize valF 0 r = v
      by_cases h1 : v ≤ 18446744073709551615
      · rw [if_pos h1]
        simp only
        by_cases h2 : 9223372036854775808 < v
        · rw [if_pos h2, if_neg (by unfold I64; omega)]
        · rw [if_neg h2, if_pos (by unfold I64; omega)]
      · rw [if_neg h1, if_neg (by unfold I64; omega)]
    · rw [if_neg hc] at hd hne
      have hd' := hd
      simp only [List.all_cons, Bool.and_eq_true] at hd'
      have hcd := (isDig_iff c).1 hd'.1
      have n1 : ¬ (c.toNat = 43 ∨ c.toNat = 45) := by omega
      have n2 : ¬ c.toNat = 45 := by omega
      have n3 : (c.toNat = 43 ∨ c.toNat = 45) = False := eq_false n1
      rw [if_neg n1, if_neg (by simp), parseUintM_digits (c :: r) 0 (by omega) hd]
      simp only [n2, if_false, not_false_eq_true, true_and, false_and]
      have es : signed (c :: r) = (valN (c :: r) : Int) := by simp [signed, digitsOf_cons, hc]
      rw [es]
      unfold valN
      generalize valF 0 (c :: r) = v
      by_cases h1 : v ≤ 18446744073709551615
      · rw [if_pos h1]
        simp only
        by_cases h2 : 9223372036854775808 ≤ v
        · rw [if_pos h2, if_neg (by unfold I64; omega)]
        · rw [if_neg h2, if_pos (by unfold I64; omega)]
      · rw [if_neg h1, if_neg (by unfold I64; omega)]
end Go.Proofs.YtcgcndmlgfnjbaaGreatDoor

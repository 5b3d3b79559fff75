/- Plain laws of numbers and their texts. No program in this text. -/
import Derived.Test.YtcgcndmlgfnjbaaGreatDoorNumRef
namespace Go.Proofs.YtcgcndmlgfnjbaaGreatDoor
open Go Go.RowKit
set_option linter.unusedVariables false
theorem head_app (l m : List UInt8) (h : l ≠ []) : (l ++ m).head? = l.head? := by
  cases l with
  | nil => exact absurd rfl h
  | cons c r => rfl
theorem decDigits_dig : ∀ (k u : Nat), u ≤ k → (Lib.decDigits u).all isDig = true
  | 0, u, h => by
    rw [Lib.decDigits, dif_pos (by omega)]
    have : u = 0 := by omega
    subst this; rfl
  | k + 1, u, h => by
    rw [Lib.decDigits]
    split
    · rename_i h1
      simp [isDig, Nat.mod_eq_of_lt (show 48 + u < 256 by omega)]; omega
    · rw [List.all_append, decDigits_dig k (u / 10) (by omega)]
      simp [isDig, Nat.mod_eq_of_lt (show 48 + u % 10 < 256 by omega)]; omega
theorem digit_val (d : Nat) (h : d < 10) : (UInt8.ofNat (48 + d)).toNat - 48 = d := by
  rw [UInt8.toNat_ofNat_of_lt' (by show 48 + d < 256; omega)]; omega
theorem valN_decDigits : ∀ (k u : Nat), u ≤ k → valN (Lib.decDigits u) = u
  | 0, u, h => by
    have : u = 0 := by omega
    subst this; rw [Lib.decDigits, dif_pos (by omega)]; rfl
  | k + 1, u, h => by
    rw [Lib.decDigits]
    split
    · rename_i h1
      have := valN_snoc [] (UInt8.ofNat (48 + u))
      rw [List.nil_append, digit_val u h1] at this
      rw [this]; show 0 * 10 + u = u; omega
    · rw [valN_snoc, valN_decDigits k (u / 10) (by omega), digit_val _ (by omega)]; omega
theorem decDigits_ne (u : Nat) : Lib.decDigits u ≠ [] := by
  rw [Lib.decDigits]; split <;> simp
theorem decDigits_head : ∀ (k u : Nat), u ≤ k → 0 < u → (Lib.decDigits u).head? ≠ some 48
  | 0, u, h, h0 => by omega
  | k + 1, u, h, h0 => by
    rw [Lib.decDigits]
    split
    · rename_i h1
      simp only [List.head?_cons, ne_eq, Option.some.injEq]
      intro e
      have := congrArg UInt8.toNat e
      rw [UInt8.toNat_ofNat_of_lt' (by show 48 + u < 256; omega)] at this
      have h48 : (48 : UInt8).toNat = 48 := rfl
      omega
    · have ih := decDigits_head k (u / 10) (by omega) (by omega)
      rw [head_app _ _ (decDigits_ne _)]
      exact ih
theorem valN_pos : ∀ (l : List UInt8), l.all isDig = true → l ≠ [] → l.head? ≠ some 48 → 0 < valN l
  | [], _, h, _ => absurd rfl h
  | c :: r, hd, _, h => by
    have hc := (isDig_iff c).1 (by simp at hd; exact hd.1)
    have h48 : ¬ c.toNat = 48 := by
      intro e
      apply h
      rw [List.head?_cons]
      congr 1
      exact UInt8.toNat_inj.1 e
    have hge := valF_ge r (stepN 0 c)
    unfold valN
    rw [valF_cons]
    have : stepN 0 c = c.toNat - 48 := by unfold stepN; omega
    omega
theorem decDigits_valN : ∀ (n : Nat) (l : List UInt8), l.length = n → l.all isDig = true → l ≠ [] → (l.head? ≠ some 48 ∨ l = [48]) → Lib.decDigits (valN l) = l
  | 0, l, hn, _, h, _ => absurd (List.eq_nil_of_length_eq_zero hn) h
  | n + 1, l, hn, hd, hne, hh => by
    obtain ⟨l', c, rfl⟩ : ∃ l' c, l = l' ++ [c] := ⟨l.dropLast, l.getLast hne, (List.dropLast_concat_getLast hne).symm⟩
    rw [List.all_append, Bool.and_eq_true] at hd
    have hc := (isDig_iff c).1 (by simpa using hd.2)
    have hcc : UInt8.ofNat (48 + (c.toNat - 48)) = c := by
      rw [show 48 + (c.toNat - 48) = c.toNat by omega]; simp
    rw [valN_snoc]
    by_cases hl : l' = []
    · subst hl
      have : valN [] = 0 := rfl
      rw [this, Lib.decDigits, dif_pos (by omega), show 0 * 10 + (c.toNat - 48) = c.toNat - 48 by omega, hcc]; rfl
    · have hh' : l'.head? ≠ some 48 := by
        rcases hh with hh | hh
        · rwa [head_app _ _ hl] at hh
        · have := congrArg List.length hh
          have h2 : l'.length ≠ 0 := fun e => hl (List.eq_nil_of_length_eq_zero e)
          simp only [List.length_append, List.length_cons, List.length_nil] at this; omega
      have hp := valN_pos l' hd.1 hl hh'
      rw [Lib.decDigits, dif_neg (by omega), show (valN l' * 10 + (c.toNat - 48)) / 10 = valN l' by omega, show (valN l' * 10 + (c.toNat - 48)) % 10 = c.toNat - 48 by omega, hcc,
        decDigits_valN n l' (by simp at hn; exact hn) hd.1 hl (.inl hh')]
/-- each number is its text's -/
theorem numE_itoa (n : Int) (h : I64 n) : numE (Lib.itoa n) = (n, 0) := by
  by_cases h0 : n < 0
  · have e : Lib.itoa n = 45 :: Lib.decDigits n.natAbs := by rw [Lib.itoa, if_pos h0]
    have hd : digitsOf (Lib.itoa n) = Lib.decDigits n.natAbs := by rw [e, digitsOf_cons, if_pos rfl]
    have hs : signed (Lib.itoa n) = n := by
      unfold signed
      rw [hd, if_pos (by rw [e]; rfl), valN_decDigits _ _ (Nat.le_refl _)]; omega
    have hf : formN (Lib.itoa n) = true := by
      unfold formN
      rw [hd, decDigits_dig _ _ (Nat.le_refl _)]
      have h1 := decDigits_head _ n.natAbs (Nat.le_refl _) (by omega)
      have h2 := decDigits_ne n.natAbs
      simp [h1, h2]
    unfold numE
    rw [if_pos hf, hs, if_pos h]
  · have e : Lib.itoa n = Lib.decDigits n.toNat := by rw [Lib.itoa, if_neg h0]
    have hne := decDigits_ne n.toNat
    have hdig := decDigits_dig _ n.toNat (Nat.le_refl _)
    have h45 : (Lib.decDigits n.toNat).head? ≠ some 45 := by
      intro e
      cases hl : Lib.decDigits n.toNat with
      | nil => rw [hl] at e; cases e
      | cons c r =>
        rw [hl] at e hdig
        have : c = 45 := by simpa using e
        subst this
        simp [isDig] at hdig
    have hF : IsF (Lib.itoa n) 0 := .inl ⟨rfl, by rw [e]; exact h45⟩
    have hd : digitsOf (Lib.itoa n) = Lib.decDigits n.toNat := by rw [digits_eq hF, e]; rfl
    have hs : signed (Lib.itoa n) = n := by
      rw [signed_eq hF, e]
      show sg 0 (valN (Lib.decDigits n.toNat)) = n
      rw [valN_decDigits _ _ (Nat.le_refl _)]; unfold sg; rw [if_pos rfl]; omega
    have hf : formN (Lib.itoa n) = true := by
      unfold formN
      rw [hd, hdig, e]
      by_cases h1 : n = 0
      · subst h1
        have : Lib.decDigits (Int.toNat 0) = [48] := by rw [Lib.decDigits, dif_pos (by decide)]; rfl
        rw [this]; rfl
      · have h1 := decDigits_head _ n.toNat (Nat.le_refl _) (by omega)
        simp [h1, hne]
    unfold numE
    rw [if_pos hf, hs, if_pos h]
theorem numE_form {l : List UInt8} {k : Int} (h : numE l = (k, 0)) : formN l = true ∧ I64 (signed l) ∧ k = signed l := by
  unfold numE at h
  by_cases hf : formN l = true
  · rw [if_pos hf] at h
    by_cases hI : I64 (signed l)
    · rw [if_pos hI] at h
      exact ⟨hf, hI, by injection h with h1 h2; exact h1.symm⟩
    · rw [if_neg hI] at h; injection h with h1 h2; cases h2
  · rw [if_neg hf] at h; injection h with h1 h2; cases h2
/-- each text that has a number is that number's -/
theorem itoa_numE {l : List UInt8} {k : Int} (h : numE l = (k, 0)) : Lib.itoa k = l := by
  obtain ⟨hf, hI, rfl⟩ := numE_form h
  unfold formN at hf
  simp only [Bool.and_eq_true] at hf
  obtain ⟨⟨hd, hne⟩, hl⟩ := hf
  cases l with
  | nil => rw [digitsOf_nil] at hne; simp at hne
  | cons c r =>
    by_cases hc : c = 45
    · subst hc
      have e : digitsOf (45 :: r) = r := by rw [digitsOf_cons, if_pos rfl]
      rw [e] at hd hne hl
      have hr : r ≠ [] := by intro e; subst e; simp at hne
      have hh : r.head? ≠ some 48 := by
        intro e; rw [e] at hl; simp at hl
      have hp := valN_pos r hd hr hh
      have hs : signed (45 :: r) = -(valN r : Int) := by unfold signed; rw [e]; simp
      rw [hs, Lib.itoa, if_pos (by omega), show (-(valN r : Int)).natAbs = valN r by omega, decDigits_valN _ r rfl hd hr (.inl hh)]
    · have hF : IsF (c :: r) 0 := .inl ⟨rfl, by simpa using hc⟩
      have e : digitsOf (c :: r) = c :: r := by rw [digits_eq hF]; rfl
      rw [e] at hd hl
      have hs : signed (c :: r) = (valN (c :: r) : Int) := by rw [signed_eq hF]; unfold sg; rw [if_pos rfl]; rfl
      have hh : (c :: r).head? ≠ some 48 ∨ c :: r = [48] := by
        by_cases h48 : (c :: r).head? = some 48
        · right
          rw [h48] at hl; simpa using hl
        · exact .inl h48
      rw [hs, Lib.itoa, if_neg (by omega), show ((valN (c :: r) : Int)).toNat = valN (c :: r) by omega, decDigits_valN _ _ rfl hd (by simp) hh]
/-- a text has a number, or something is wrong and there is none -/
theorem numE_cases (l : List UInt8) : (numE l).2 = 0 ∨ (numE l = (0, 8) ∨ numE l = (0, 4)) := by
  unfold numE
  split
  · split
    · exact .inl rfl
    · exact .inr (.inr rfl)
  · exact .inr (.inl rfl)
end Go.Proofs.YtcgcndmlgfnjbaaGreatDoor

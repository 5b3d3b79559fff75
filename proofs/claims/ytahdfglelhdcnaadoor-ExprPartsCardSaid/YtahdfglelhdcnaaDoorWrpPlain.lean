/- An expression behind a sign, or two behind a sign of two: plain. No program in this text. -/
import Derived.Test.YtahdfglelhdcnaaDoorLawPlain
namespace Go.Proofs.YtahdfglelhdcnaaDoor
open Go Go.RowKit
set_option linter.unusedVariables false
theorem mayE_new {op : Int} (h1 : op ≠ 1) (h2 : op ≠ 2) : mayE ⟨op, 0, [], 0⟩ = true := mayE_sign h1 h2 (by decide) (by decide)
theorem dec_two {a b c d : Prop} [Decidable a] [Decidable b] [Decidable c] [Decidable d] (h1 : a ↔ d) (h2 : b ↔ c) : (decide a && true && decide b) = (decide c && decide d) := by
  rw [Bool.eq_iff_iff]
  simp only [Bool.and_true, Bool.and_eq_true, decide_eq_true_eq]
  constructor
  · rintro ⟨x, y⟩; exact ⟨h2.1 y, h1.1 x⟩
  · rintro ⟨x, y⟩; exact ⟨h1.2 y, h2.2 x⟩
theorem wrap_one_right {e : Ex} {op : Int} (ho : e.ok) (hm : e.may) (hop : op = 3 ∨ op = 4) :
    rightE ((⟨op, 0, [], 0⟩ : Nod) :: e.flat) = (decide (e.deep < 12) && decide (e.flat.length < 40)) ∧ (e.deep < 12 → e.flat.length < 40 → depthE ((⟨op, 0, [], 0⟩ : Nod) :: e.flat) = e.deep + 1) := by
  have hk : kidsE op = 1 := by rcases hop with h | h <;> rw [h] <;> rfl
  have hok : (Ex.one ⟨op, 0, [], 0⟩ e).ok := ⟨hk, ho⟩
  have hmy : (Ex.one ⟨op, 0, [], 0⟩ e).may := may_one' (mayE_new (by omega) (by omega)) hm
  have hf : ((⟨op, 0, [], 0⟩ : Nod) :: e.flat) = (Ex.one ⟨op, 0, [], 0⟩ e).flat := rfl
  rw [hf]
  constructor
  · rw [rightE_flat _ hok, List.all_eq_true.2 hmy]
    show (decide (e.flat.length + 1 ≤ 40) && true && decide (e.deep + 1 ≤ 12)) = _
    exact dec_two (by omega) (by omega)
  · intro h1 h2
    exact (right_of hok hmy (by simp only [Ex.deep]; omega) (by simp only [Ex.flat, List.length_cons]; omega)).2.2
theorem wrap_two_right {e f : Ex} {op : Int} (ho : e.ok) (hm : e.may) (ho2 : f.ok) (hm2 : f.may) (hop : 5 ≤ op ∧ op ≤ 15) :
    rightE (((⟨op, 0, [], 0⟩ : Nod) :: e.flat) ++ f.flat) = (decide (max e.deep f.deep < 12) && decide (e.flat.length + f.flat.length < 40)) ∧
    (max e.deep f.deep < 12 → e.flat.length + f.flat.length < 40 → depthE (((⟨op, 0, [], 0⟩ : Nod) :: e.flat) ++ f.flat) = max e.deep f.deep + 1) ∧
    endE (((⟨op, 0, [], 0⟩ : Nod) :: e.flat) ++ f.flat) 1 = ((1 + e.flat.length : Nat) : Int) := by
  have hk : kidsE op = 2 := kidsE_two hop.1 hop.2
  have hok : (Ex.two ⟨op, 0, [], 0⟩ e f).ok := ⟨hk, ho, ho2⟩
  have hmy : (Ex.two ⟨op, 0, [], 0⟩ e f).may := may_two' (mayE_new (by omega) (by omega)) hm hm2
  have hf : (((⟨op, 0, [], 0⟩ : Nod) :: e.flat) ++ f.flat) = (Ex.two ⟨op, 0, [], 0⟩ e f).flat := rfl
  refine ⟨?_, ?_, ?_⟩
  · rw [hf, rightE_flat _ hok, List.all_eq_true.2 hmy]
    show (decide ((e.flat ++ f.flat).length + 1 ≤ 40) && true && decide (max e.deep f.deep + 1 ≤ 12)) = _
    rw [List.length_append]
    exact dec_two (by omega) (by omega)
  · intro h1 h2
    rw [hf]
    exact (right_of hok hmy (by simp only [Ex.deep]; omega) (by simp only [Ex.flat, List.length_cons, List.length_append]; omega)).2.2
  · have := endE_flat [⟨op, 0, [], 0⟩] f.flat e ho
    exact this
/-- a part of an expression that may be, may be -/
theorem part_right {e : Ex} (ho : e.ok) (hm : e.may) (hd : e.deep ≤ 12) (h40 : e.flat.length ≤ 40) (k : Nat) (hk : k < e.flat.length) :
    ∃ s : Ex, endE e.flat k = ((k + s.flat.length : Nat) : Int) ∧ k + s.flat.length ≤ e.flat.length ∧ (e.flat.drop k).take s.flat.length = s.flat ∧ s.ok ∧ s.may ∧ s.deep ≤ 12 ∧ s.flat.length ≤ 40 ∧ (k = 0 → s.deep = e.deep) ∧ (0 < k → s.deep < e.deep) := by
  obtain ⟨s, hat, h3, h4, h5⟩ := Ex.part e k hk
  have hs := h3 ho
  have hle := hat.le
  have hmay : s.may := fun x hx => hm x (by obtain ⟨pre, post, h1, _⟩ := hat; rw [h1]; simp [hx])
  refine ⟨s, hat.fin hs, hle, ?_, hs, hmay, ?_, by omega, fun h => by rw [h4 h], h5⟩
  · obtain ⟨pre, post, h1, h2⟩ := hat
    rw [h1, ← h2, List.drop_left, List.take_left]
  · by_cases h0 : k = 0
    · rw [h4 h0]; exact hd
    · have := h5 (by omega); omega
end Go.Proofs.YtahdfglelhdcnaaDoor

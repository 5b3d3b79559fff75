/- Two signs between three names: what is read of them: plain. No program in this text. -/
import Derived.Test.YtahdfglelhdcnaaDoorLawPlain
namespace Go.Proofs.YtahdfglelhdcnaaDoor
open Go Go.RowKit
set_option linter.unusedVariables false
def bndL : List (List UInt8) := [[43], [45], [42], [47], [37], [61, 61], [33, 61], [60], [60, 61], [38, 38], [124, 124]]
def bs (a : Nat) : List UInt8 := bndL.getD a []
/-- how much a sign binds -/
def bf (a : Nat) : Nat := [4, 4, 5, 5, 5, 3, 3, 3, 3, 2, 1].getD a 5
def bndText (a b : Nat) : List UInt8 := [97, 32] ++ bs a ++ [32, 98, 32] ++ bs b ++ [32, 99]
def bndWant (a b : Nat) : List UInt8 :=
  if bf a = 3 ∧ bf b = 3 then [97, 32] ++ bs a ++ [32, 98]
  else if bf a < bf b then [97, 32] ++ bs a ++ [32, 40, 98, 32] ++ bs b ++ [32, 99, 41]
  else [40, 97, 32] ++ bs a ++ [32, 98, 41, 32] ++ bs b ++ [32, 99]
def bndTo (a b : Nat) : Nat := if bf a = 3 ∧ bf b = 3 then 3 else 5
def bndCheck (a b : Nat) : Bool := match flR (prR (scanE (bndText a b)).1 12) (scanE (bndText a b)).1 5 0 with
  | .inl (e, t) => decide (e.deep ≤ 12) && decide (e.flat.length ≤ 40) && decide (t = bndTo a b) && decide (e.show = bndWant a b) && decide ((bndText a b).length ≤ 20)
  | .inr _ => false
theorem bnd_all : ∀ a b : Fin 11, bndCheck a.val b.val = true := by decide +kernel
theorem bnd_parse (a b : Nat) (ha : a < 11) (hb : b < 11) : ∃ e : Ex, parE (scanE (bndText a b)).1 0 = (e.flat, (bndTo a b : Int), 0, 0) ∧ e.ok ∧ e.may ∧ e.deep ≤ 12 ∧ e.flat.length ≤ 40 ∧ e.show = bndWant a b ∧ (bndText a b).length ≤ 20 := by
  have h := bnd_all ⟨a, ha⟩ ⟨b, hb⟩
  simp only at h
  unfold bndCheck at h
  cases hr : flR (prR (scanE (bndText a b)).1 12) (scanE (bndText a b)).1 5 0 with
  | inr e => rw [hr] at h; cases h
  | inl xt =>
    obtain ⟨e, t⟩ := xt
    rw [hr] at h
    simp only [Bool.and_eq_true, decide_eq_true_eq] at h
    obtain ⟨⟨⟨⟨h1, h2⟩, h3⟩, h4⟩, h5⟩ := h
    have hfacts := (scanE_facts (bndText a b)).2
    have hf := flR_fine hfacts (by omega) (prR_fine hfacts (by omega) 12) 5
    have hw := flR_fwd (prR_fwd (scanE (bndText a b)).1 12) 5
    refine ⟨e, ?_, (hw.good _ _ _ hr).2.2.2, hf.may _ _ _ hr, h1, h2, h4, h5⟩
    unfold parE
    rw [if_neg (by omega), show (0 : Int).toNat = 0 from rfl, hr]
    simp only
    rw [if_neg (by omega), if_neg (by omega), h3]
theorem bs_len (a : Nat) : (bs a).length ≤ 2 := by
  by_cases h : a < 11
  · have : ∀ a : Fin 11, (bs a.val).length ≤ 2 := by decide
    exact this ⟨a, h⟩
  · unfold bs; rw [List.getD_eq_getElem?_getD, List.getElem?_eq_none (by show 11 ≤ a; omega)]; exact Nat.zero_le _
end Go.Proofs.YtahdfglelhdcnaaDoor

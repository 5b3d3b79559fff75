/- The reference's reading of a number, in plain Lean: what holds from round to round. No program in this text. -/
import Derived.Test.YtcgcndmlgfnjbaaGreatDoorNumPlain
import Derived.Below
namespace Go.Proofs.YtcgcndmlgfnjbaaGreatDoor
open Go.RowKit
set_option linter.unusedVariables false
theorem wrap64_id (a : Int) (h : I64 a) : wrap64 a = a := by
  have := h.1; have := h.2
  unfold wrap64
  omega
/-- digits ahead of a place, behind a sign or none -/
def pre (s : ByteArray) (f k : Nat) : List UInt8 := (s.data.toList.take k).drop f
def sg (f : Nat) (n : Nat) : Int := if f = 0 then n else -(n : Int)
/-- what holds at the head of a round of the reference's loop -/
structure RInv (s : ByteArray) (f : Nat) (m : Int) (b : Bool) (k : Nat) : Prop where
  fk : f ≤ k
  dig : (pre s f k).all isDig = true
  lead : f < k → ¬ (s.data.toList.getD f 0 = 48 ∧ 1 < s.size)
  i64 : I64 m
  no : b = false → m = sg f (valN (pre s f k))
  yes : b = true → ¬ I64 (sg f (valN (pre s f k)))
theorem wrap64_I64 (a : Int) : I64 (wrap64 a) := by unfold wrap64; constructor <;> omega
theorem pre_succ (s : ByteArray) (f k : Nat) (hf : f ≤ k) (h : k < s.size) : pre s f (k + 1) = pre s f k ++ [s[k]] := by
  unfold pre
  rw [List.take_succ_eq_append_getElem (by simpa using h), List.drop_append_of_le_length (by simp; omega)]
  rfl
theorem step_pos (v m d : Int) (b : Bool) (h0 : 0 ≤ d) (h9 : d ≤ 9) (hv : 0 ≤ v) (hm : I64 m) (hf : b = false → m = v) (ht : b = true → ¬ I64 v) :
    I64 (wrap64 (wrap64 (10 * m) + d)) ∧ ((b || decide ((9223372036854775807 - d) / 10 < m)) = false → wrap64 (wrap64 (10 * m) + d) = v * 10 + d) ∧ ((b || decide ((9223372036854775807 - d) / 10 < m)) = true → ¬ I64 (v * 10 + d)) := by
  have hm1 := hm.1; have hm2 := hm.2
  refine ⟨wrap64_I64 _, ?_, ?_⟩
  · intro h
    simp only [Bool.or_eq_false_iff, decide_eq_false_iff_not] at h
    have := hf h.1
    subst this
    have hb := h.2
    rw [wrap64_id (10 * m) ⟨by omega, by omega⟩, wrap64_id _ ⟨by omega, by omega⟩]
    omega
  · intro h hI
    have i1 := hI.1; have i2 := hI.2
    cases b
    · have := hf rfl
      subst this
      simp only [Bool.false_or, decide_eq_true_eq] at h
      omega
    · exact ht rfl ⟨by omega, by omega⟩
theorem step_neg (v m d : Int) (b : Bool) (h0 : 0 ≤ d) (h9 : d ≤ 9) (hv : v ≤ 0) (hm : I64 m) (hf : b = false → m = v) (ht : b = true → ¬ I64 v) :
    I64 (wrap64 (wrap64 (10 * m) - d)) ∧ ((b || decide (m < (-9223372036854775808 + d).tdiv 10)) = false → wrap64 (wrap64 (10 * m) - d) = v * 10 - d) ∧ ((b || decide (m < (-9223372036854775808 + d).tdiv 10)) = true → ¬ I64 (v * 10 - d)) := by
  have hm1 := hm.1; have hm2 := hm.2
  have hq : (-9223372036854775808 + d).tdiv 10 = -((9223372036854775808 - d) / 10) := by
    have e := Int.neg_tdiv (9223372036854775808 - d) 10
    rw [Int.tdiv_eq_ediv_of_nonneg (a := 9223372036854775808 - d) (by omega)] at e
    rw [← e]; congr 1; omega
  rw [hq]
  refine ⟨wrap64_I64 _, ?_, ?_⟩
  · intro h
    simp only [Bool.or_eq_false_iff, decide_eq_false_iff_not] at h
    have := hf h.1
    subst this
    have hb := h.2
    rw [wrap64_id (10 * m) ⟨by omega, by omega⟩, wrap64_id _ ⟨by omega, by omega⟩]
    omega
  · intro h hI
    have i1 := hI.1; have i2 := hI.2
    cases b
    · have := hf rfl
      subst this
      simp only [Bool.false_or, decide_eq_true_eq] at h
      omega
    · exact ht rfl ⟨by omega, by omega⟩
theorem valN_snoc (l : List UInt8) (c : UInt8) : valN (l ++ [c]) = valN l * 10 + (c.toNat - 48) := by
  unfold valN; rw [valF_snoc]; rfl
theorem RInv.step_p {s : ByteArray} {m : Int} {b : Bool} {k : Nat} (h : RInv s 0 m b k) (hk : k < s.size) (h1 : (48 : Int) ≤ ((s[k]'hk).toNat : Int)) (h2 : ((s[k]'hk).toNat : Int) ≤ 57)
    (hl : k = 0 → ¬ (((s[k]'hk).toNat : Int) = 48 ∧ 1 < s.size)) :
    RInv s 0 (wrap64 (wrap64 (10 * m) + (((s[k]'hk).toNat : Int) - 48))) (b || decide ((9223372036854775807 - (((s[k]'hk).toNat : Int) - 48)) / 10 < m)) (k + 1) := by
  have hs := step_pos (valN (pre s 0 k)) m (((s[k]'hk).toNat : Int) - 48) b (by omega) (by omega) (by omega) h.i64 (fun e => by simpa [sg] using h.no e) (fun e => by simpa [sg] using h.yes e)
  have hp := pre_succ s 0 k h.fk hk
  have hv : sg 0 (valN (pre s 0 (k + 1))) = (valN (pre s 0 k) : Int) * 10 + (((s[k]'hk).toNat : Int) - 48) := by
    rw [hp, valN_snoc]; simp only [sg, if_true]; omega
  refine ⟨Nat.zero_le _, ?_, ?_, hs.1, fun e => by rw [hv]; exact hs.2.1 e, fun e => by rw [hv]; exact hs.2.2 e⟩
  · rw [hp, List.all_append, h.dig]; simp [isDig]; omega
  · intro _
    by_cases h0 : k = 0
    · subst h0
      rintro ⟨e, e2⟩
      refine hl rfl ⟨?_, e2⟩
      have : s.data.toList.getD 0 0 = s[0] := by rw [List.getD_eq_getElem?_getD, List.getElem?_eq_getElem (by simpa using hk)]; rfl
      rw [this] at e
      rw [e]; rfl
    · exact h.lead (by omega)
theorem RInv.step_n {s : ByteArray} {m : Int} {b : Bool} {k : Nat} (h : RInv s 1 m b k) (hk : k < s.size) (h1 : (48 : Int) ≤ ((s[k]'hk).toNat : Int)) (h2 : ((s[k]'hk).toNat : Int) ≤ 57)
    (hl : k = 1 → ¬ (((s[k]'hk).toNat : Int) = 48 ∧ 1 < s.size)) :
    RInv s 1 (wrap64 (wrap64 (10 * m) - (((s[k]'hk).toNat : Int) - 48))) (b || decide (m < (-9223372036854775808 + (((s[k]'hk).toNat : Int) - 48)).tdiv 10)) (k + 1) := by
  have hs := step_neg (-(valN (pre s 1 k) : Int)) m (((s[k]'hk).toNat : Int) - 48) b (by omega) (by omega) (by omega) h.i64 (fun e => by simpa [sg] using h.no e) (fun e => by simpa [sg] using h.yes e)
  have hp := pre_succ s 1 k h.fk hk
  have hv : sg 1 (valN (pre s 1 (k + 1))) = -(valN (pre s 1 k) : Int) * 10 - (((s[k]'hk).toNat : Int) - 48) := by
    rw [hp, valN_snoc]; simp only [sg]; rw [if_neg (by omega)]; omega
  refine ⟨by have := h.fk; omega, ?_, ?_, hs.1, fun e => by rw [hv]; exact hs.2.1 e, fun e => by rw [hv]; exact hs.2.2 e⟩
  · rw [hp, List.all_append, h.dig]; simp [isDig]; omega
  · intro _
    by_cases h0 : k = 1
    · subst h0
      rintro ⟨e, e2⟩
      refine hl rfl ⟨?_, e2⟩
      have : s.data.toList.getD 1 0 = s[1] := by rw [List.getD_eq_getElem?_getD, List.getElem?_eq_getElem (by simpa using hk)]; rfl
      rw [this] at e
      rw [e]; rfl
    · exact h.lead (by have := h.fk; omega)
def IsF (L : List UInt8) (f : Nat) : Prop := (f = 0 ∧ L.head? ≠ some 45) ∨ (f = 1 ∧ L.head? = some 45)
theorem digits_eq {L : List UInt8} {f : Nat} (h : IsF L f) : digitsOf L = L.drop f := by
  cases L with
  | nil => rw [digitsOf_nil]; simp
  | cons c r =>
    rw [digitsOf_cons]
    rcases h with ⟨rfl, h⟩ | ⟨rfl, h⟩
    · have : ¬ c = 45 := by simpa using h
      rw [if_neg this]; rfl
    · have : c = 45 := by simpa using h
      rw [if_pos this]; rfl
theorem signed_eq {L : List UInt8} {f : Nat} (h : IsF L f) : signed L = sg f (valN (L.drop f)) := by
  unfold signed
  rw [digits_eq h]
  rcases h with ⟨rfl, h⟩ | ⟨rfl, h⟩
  · rw [if_neg h]; rfl
  · rw [if_pos h]; rfl
theorem form_not {L : List UInt8} {f k : Nat} (h : IsF L f) (hk : k < L.length) (hf : f ≤ k) (hc : isDig L[k] = false) : formN L = false := by
  unfold formN
  rw [digits_eq h]
  have : (L.drop f).all isDig = false := by
    rw [List.all_eq_false]
    refine ⟨L[k], ?_, by simp [hc]⟩
    rw [List.mem_drop_iff_getElem]
    exact ⟨k - f, by omega, by congr 1; omega⟩
  rw [this]; rfl
theorem form_lead {L : List UInt8} {f : Nat} (h : IsF L f) (hk : f < L.length) (hc : L[f] = 48) (hl : 1 < L.length) : formN L = false := by
  unfold formN
  rw [digits_eq h]
  have h1 : (L.drop f).head? = some 48 := by rw [List.head?_drop, List.getElem?_eq_getElem hk, hc]
  have h2 : ¬ L = [48] := by intro e; rw [e] at hl; simp at hl
  rw [h1]; simp [h2]
theorem form_none {L : List UInt8} {f : Nat} (h : IsF L f) (hk : f = L.length) : formN L = false := by
  unfold formN
  rw [digits_eq h, List.drop_of_length_le (by omega)]; rfl
theorem form_yes {L : List UInt8} {f : Nat} (h : IsF L f) (hk : f < L.length) (hd : (L.drop f).all isDig = true) (hl : ¬ (L.getD f 0 = 48 ∧ 1 < L.length)) : formN L = true := by
  unfold formN
  rw [digits_eq h, hd]
  have h1 : (L.drop f).head? = some L[f] := by rw [List.head?_drop, List.getElem?_eq_getElem hk]
  have h3 : L.getD f 0 = L[f] := by rw [List.getD_eq_getElem?_getD, List.getElem?_eq_getElem hk]; rfl
  rw [h3] at hl
  have h4 : (L.drop f).isEmpty = false := by
    rw [List.isEmpty_eq_false_iff]; intro e; have := congrArg List.length e; simp at this; omega
  rw [h1, h4]
  by_cases hc : L[f] = 48
  · have hL : L.length = 1 := by
      have : ¬ 1 < L.length := fun hh => hl ⟨hc, hh⟩
      omega
    match L, hL with
    | [x], _ =>
      obtain rfl : f = 0 := by simpa using hk
      have : x = 48 := by simpa using hc
      subst this; rfl
  · simp [hc]
theorem pre_all (s : ByteArray) (f : Nat) : pre s f s.size = s.data.toList.drop f := by
  unfold pre; rw [List.take_of_length_le (by simp)]
theorem isDig_of (c : UInt8) (h : (c.toNat : Int) < 48 ∨ (57 : Int) < (c.toNat : Int)) : isDig c = false := by rw [isDig_false]; omega
theorem at_eq (s : ByteArray) (k : Nat) (h : k < s.size) : s.data.toList[k]'(by simpa using h) = s[k] := rfl
/-! the ends -/
theorem num_bad {s : ByteArray} {f k : Nat} (h : IsF s.data.toList f) (hk : k < s.size) (hf : f ≤ k) (hc : ((s[k]'hk).toNat : Int) < 48 ∨ (57 : Int) < ((s[k]'hk).toNat : Int)) : numE s.data.toList = (0, 8) := by
  unfold numE
  rw [form_not h (by simpa using hk) hf (isDig_of _ hc)]; rfl
theorem num_lead {s : ByteArray} {f : Nat} (h : IsF s.data.toList f) (hk : f < s.size) (hc : ((s[f]'hk).toNat : Int) = 48) (hl : 1 < s.size) : numE s.data.toList = (0, 8) := by
  unfold numE
  have : s.data.toList[f]'(by simpa using hk) = 48 := by
    rw [at_eq s f hk]; exact UInt8.toNat_inj.1 (by show (s[f]'hk).toNat = 48; omega)
  rw [form_lead h (by simpa using hk) this (by simpa using hl)]; rfl
theorem num_none {s : ByteArray} {f : Nat} (h : IsF s.data.toList f) (hk : f = s.size) : numE s.data.toList = (0, 8) := by
  unfold numE
  rw [form_none h (by simpa using hk)]; rfl
theorem num_end {s : ByteArray} {f : Nat} {m : Int} {b : Bool} (h : IsF s.data.toList f) (hk : f < s.size) (hr : RInv s f m b s.size) : numE s.data.toList = if b then (0, 4) else (m, 0) := by
  unfold numE
  have hd := hr.dig
  rw [pre_all] at hd
  rw [form_yes h (by simpa using hk) hd (by simpa using hr.lead hk), signed_eq h]
  have hn := hr.no; have hy := hr.yes
  rw [pre_all] at hn hy
  cases b
  · have e := hn rfl
    simp only [if_true, ← e, hr.i64]; rfl
  · have e := hy rfl
    simp only [if_true, e]; rfl
theorem isF_empty {s : ByteArray} (h : s.size = 0) : IsF s.data.toList 0 := by
  have : s.data.toList = [] := List.eq_nil_of_length_eq_zero (by simpa using h)
  rw [this]; exact .inl ⟨rfl, by simp⟩
theorem isF_pos {s : ByteArray} (h0 : 0 < s.size) (h1 : ¬ ((s[0]'h0).toNat : Int) = 45) : IsF s.data.toList 0 := by
  refine .inl ⟨rfl, ?_⟩
  rw [List.head?_eq_getElem?, List.getElem?_eq_getElem (by simpa using h0), at_eq s 0 h0]
  intro e
  have : s[0] = 45 := by simpa using e
  rw [this] at h1; exact h1 rfl
theorem isF_neg {s : ByteArray} (h0 : 0 < s.size) (h1 : ((s[0]'h0).toNat : Int) = 45) : IsF s.data.toList 1 := by
  refine .inr ⟨rfl, ?_⟩
  rw [List.head?_eq_getElem?, List.getElem?_eq_getElem (by simpa using h0), at_eq s 0 h0]
  congr 1
  exact UInt8.toNat_inj.1 (by show (s[0]'h0).toNat = 45; omega)
theorem RInv.start (s : ByteArray) (f : Nat) (h : f ≤ 1) : RInv s f 0 false f := by
  have e : pre s f f = [] := by unfold pre; simp
  refine ⟨Nat.le_refl _, by rw [e]; rfl, fun h => absurd h (by omega), ⟨by omega, by omega⟩, fun _ => ?_, fun h => by cases h⟩
  rw [e]
  have : valN [] = 0 := rfl
  rw [this]
  unfold sg; split <;> rfl
def NumPost (s : ByteArray) (w : World) (e : Ending) (w' : World) : Prop := e = .returned (.tuple #[.int .i64 (numE s.data.toList).1, .int .i64 (numE s.data.toList).2]) ∧ w = w'
theorem num_ret {s : ByteArray} {w : World} {a b : Int} (h : numE s.data.toList = (a, b)) : NumPost s w (.returned (.tuple #[.int .i64 a, .int .i64 b])) w := by
  unfold NumPost; rw [h]; exact ⟨rfl, rfl⟩
end Go.Proofs.YtcgcndmlgfnjbaaGreatDoor

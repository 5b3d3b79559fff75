/- What the statements on scanning ask: plain. No program in this text. -/
import Derived.Test.YtknfimagjkndnaaDoorScnPlain
namespace Go.Proofs.YtknfimagjkndnaaDoor
open Go Go.RowKit
set_option linter.unusedVariables false
/-- the same tokens, with their places or without -/
def sameTk (b : Bool) (x y : Tok) : Bool := (x.kind == y.kind) && (x.text == y.text) && (x.n == y.n) && (!b || (x.pos == y.pos))
def sameT (b : Bool) : List Tok → List Tok → Bool
  | [], [] => true
  | x :: l, y :: m => sameTk b x y && sameT b l m
  | _, _ => false
theorem sameTk_refl (b : Bool) (x : Tok) : sameTk b x x = true := by simp [sameTk]
theorem sameT_refl (b : Bool) : ∀ l : List Tok, sameT b l l = true
  | [] => rfl
  | x :: l => by rw [sameT, sameTk_refl, sameT_refl b l]; rfl
theorem sameT_strip : ∀ {l m : List Tok}, l.map strip = m.map strip → sameT false l m = true
  | [], [], _ => rfl
  | [], _ :: _, h => by cases h
  | _ :: _, [], h => by cases h
  | x :: l, y :: m, h => by
    simp only [List.map_cons, List.cons.injEq] at h
    obtain ⟨h1, h2⟩ := h
    unfold strip at h1
    injection h1 with h1 h3
    injection h3 with h3 h4
    have hx : sameTk false x y = true := by unfold sameTk; rw [h1, h3, h4]; simp
    rw [sameT, hx, sameT_strip h2]; rfl
theorem sameT_len {b : Bool} : ∀ {l m : List Tok}, ¬ l.length = m.length → sameT b l m = false
  | [], [], h => absurd rfl h
  | [], _ :: _, _ => rfl
  | _ :: _, [], _ => rfl
  | x :: l, y :: m, h => by
    rw [sameT, sameT_len (l := l) (m := m) (fun e => h (by simp [e]))]; simp
theorem sameT_at {b : Bool} : ∀ {l m : List Tok} (h : l.length = m.length) (i : Nat) (hi : i < l.length), sameTk b l[i] (m[i]'(by omega)) = false → sameT b l m = false
  | [], [], _, i, hi, _ => absurd hi (by simp)
  | [], _ :: _, h, _, _, _ => by simp at h
  | _ :: _, [], h, _, _, _ => by simp at h
  | x :: l, y :: m, h, 0, _, hf => by
    have hf : sameTk b x y = false := hf
    rw [sameT, hf]; rfl
  | x :: l, y :: m, h, i + 1, hi, hf => by
    rw [sameT, sameT_at (l := l) (m := m) (by simpa using h) i (by simpa using hi) hf]; simp
theorem sameT_all {b : Bool} : ∀ {l m : List Tok} (h : l.length = m.length), (∀ i (hi : i < l.length), sameTk b l[i] (m[i]'(by omega)) = true) → sameT b l m = true
  | [], [], _, _ => rfl
  | [], _ :: _, h, _ => by simp at h
  | _ :: _, [], h, _ => by simp at h
  | x :: l, y :: m, h, ha => by
    have h0 : sameTk b x y = true := ha 0 (by simp)
    rw [sameT, h0, sameT_all (l := l) (m := m) (by simpa using h) (fun i hi => ha (i + 1) (by simpa using hi))]; rfl
/-- what is wrong has a place in the text, and no tokens -/
theorem scan_err (b : Bool) (pos : Nat) (l : List UInt8) : (scanQ b pos l).2.1 = 0 ∨ ((scanQ b pos l).1 = [] ∧ ∃ p : Nat, (scanQ b pos l).2.2 = p ∧ pos ≤ p ∧ p < pos + l.length) := by
  refine scanQ_ind (fun b pos l x => x.2.1 = 0 ∨ (x.1 = [] ∧ ∃ p : Nat, x.2.2 = p ∧ pos ≤ p ∧ p < pos + l.length)) ?_ ?_ ?_ ?_ l.length b pos l (Nat.le_refl _)
  · intro b pos; exact .inl rfl
  · intro b b' pos c r _ h
    rcases h with h | ⟨h, p, h1, h2, h3⟩
    · exact .inl h
    · exact .inr ⟨h, p, h1, by omega, by rw [List.length_cons]; omega⟩
  · intro pos c r e _ _ _
    exact .inr ⟨rfl, pos, rfl, Nat.le_refl _, by rw [List.length_cons]; omega⟩
  · intro pos c r k n _ _ ht hx
    have hl := tokE_len ht
    have hn := hl.2.1
    have hn1 := hl.1
    rw [List.length_drop] at hx
    unfold comb
    split
    · exact .inl rfl
    · rename_i h
      rcases hx with h0 | ⟨_, p, h1, h2, h3⟩
      · exact absurd h0 h
      · refine .inr ⟨rfl, p, h1, by omega, ?_⟩
        have : pos + n + ((c :: r).length - n) = pos + (c :: r).length := by omega
        omega
theorem scanE_err {s : List UInt8} (hs : s.length ≤ 4000) : (scanE s).2.1 = 0 ∨ ((scanE s).1 = [] ∧ ∃ p : Nat, (scanE s).2.2 = p ∧ p < s.length) := by
  rw [scanE_Q hs]
  rcases scan_err false 0 s with h | ⟨h, p, h1, _, h3⟩
  · exact .inl h
  · exact .inr ⟨h, p, h1, by omega⟩
theorem scan_zero (b : Bool) (pos : Nat) (l : List UInt8) : (scanQ b pos l).2.1 = 0 → (scanQ b pos l).2.2 = 0 := by
  refine scanQ_ind (fun b pos l x => x.2.1 = 0 → x.2.2 = 0) ?_ ?_ ?_ ?_ l.length b pos l (Nat.le_refl _)
  · intro b pos _; rfl
  · intro b b' pos c r _ h; exact h
  · intro pos c r e _ _ ht h
    exact absurd h (by rcases tokE_err ht with h | h | h <;> simp only [h] <;> decide)
  · intro pos c r k n _ _ ht hx
    unfold comb
    split
    · intro _; rfl
    · rename_i h; intro h2; exact absurd h2 h
/-- a text's tokens, or where it fails: the same of what is shown -/
theorem back (s : List UInt8) (hs : s.length ≤ 1500) (h0 : (scanE s).2.1 = 0) : ∃ us : List Tok, scanE (shwE (scanE s).1) = (us, 0, 0) ∧ (shwE (scanE s).1).length ≤ 3000 ∧ sameT false (scanE s).1 us = true ∧ shwE us = shwE (scanE s).1 := by
  have hq := scanE_Q (l := s) (by omega)
  have hok : ∀ t ∈ (scanE s).1, OkT t := by rw [hq]; exact scan_ok false 0 s
  obtain ⟨us, h1, h2⟩ := scan_shwE _ hok
  have hlen : (shwE (scanE s).1).length ≤ 3000 := by
    have a := shwE_len (scanE s).1
    have b := tail_len false 0 s
    rw [← hq] at b
    omega
  exact ⟨us, by rw [scanE_Q (by omega)]; exact h2, hlen, sameT_strip h1.symm, shwE_strip h1⟩
/-- blanks -/
theorem scanQ_pad : ∀ (p : List UInt8) (pos : Nat) (x : List UInt8), p.all blankE = true → scanQ false pos (p ++ x) = scanQ false (pos + p.length) x
  | [], pos, x, _ => rfl
  | c :: p, pos, x, h => by
    rw [List.all_cons, Bool.and_eq_true] at h
    rw [List.cons_append, scanQ_blank pos h.1, scanQ_pad p (pos + 1) x h.2, List.length_cons, show pos + 1 + p.length = pos + (p.length + 1) by omega]
def remark : List UInt8 := [47, 47, 32, 97, 32, 114, 101, 109, 97, 114, 107, 32, 35, 32, 10]
theorem scanQ_remk (pos : Nat) (x : List UInt8) : scanQ false pos (remark ++ x) = scanQ false (pos + 15) x := by
  unfold remark
  simp only [List.cons_append, List.nil_append]
  rw [scanQ_rem pos (by decide) ⟨by decide, by rfl⟩]
  iterate 13 rw [scanQ_in _ (by decide)]
  rw [scanQ_out _ (by decide)]
theorem scanQ_padnil (p : List UInt8) (pos : Nat) (h : p.all blankE = true) : scanQ false pos p = ([], 0, 0) := by
  have := scanQ_pad p pos [] h
  rw [List.append_nil] at this
  rw [this, scanQ_nil]
theorem joinR_nil (x : List Tok × Int × Int) : joinR x ([], 0, 0) = comb [] x := by
  unfold joinR comb
  split <;> simp
theorem blanks (p s : List UInt8) (hp : p.all blankE = true) (hpl : p.length ≤ 8) (hs : s.length ≤ 1500) :
    scanE (p ++ (remark ++ (s ++ 10 :: p))) = shR (p.length + 15) (scanE s) := by
  have hr : remark.length = 15 := rfl
  rw [scanE_Q (by simp only [List.length_append, List.length_cons, hr]; omega), scanQ_pad p 0 _ hp, scanQ_remk, scan_join, scanQ_padnil p _ hp, joinR_nil, scanQ_norm, scanE_Q (by omega), show 0 + p.length + 15 = 0 + (p.length + 15) by omega, scan_shift]
/-- two texts -/
theorem joins (s t : List UInt8) (hs : s.length ≤ 700) (ht : t.length ≤ 700) :
    scanE (s ++ 10 :: t) = joinR (scanE s) (shR (s.length + 1) (scanE t)) := by
  rw [scanE_Q (by simp only [List.length_append, List.length_cons]; omega), scan_join, scanE_Q (by omega), scanE_Q (by omega), show 0 + s.length + 1 = 0 + (s.length + 1) by omega, scan_shift]
theorem joins1 (s t : List UInt8) (hs : s.length ≤ 700) (ht : t.length ≤ 700) (h : ¬ (scanE s).2.1 = 0) : scanE (s ++ 10 :: t) = ([], (scanE s).2.1, (scanE s).2.2) := by
  rw [joins s t hs ht]; unfold joinR; rw [if_neg h]
theorem joins2 (s t : List UInt8) (hs : s.length ≤ 700) (ht : t.length ≤ 700) (h : (scanE s).2.1 = 0) (h2 : ¬ (scanE t).2.1 = 0) : scanE (s ++ 10 :: t) = ([], (scanE t).2.1, (scanE t).2.2 + ((s.length + 1 : Nat) : Int)) := by
  rw [joins s t hs ht]; unfold joinR shR; rw [if_pos h, if_neg h2]; exact comb_err _ _ _ h2
theorem joins3 (s t : List UInt8) (hs : s.length ≤ 700) (ht : t.length ≤ 700) (h : (scanE s).2.1 = 0) (h2 : (scanE t).2.1 = 0) : scanE (s ++ 10 :: t) = ((scanE s).1 ++ (scanE t).1.map (shT (s.length + 1)), 0, 0) := by
  rw [joins s t hs ht]; unfold joinR shR; rw [if_pos h, if_pos h2]; unfold comb; rw [if_pos rfl]
theorem placed_scan (s : List UInt8) (hs : s.length ≤ 4000) : Placed s 0 (scanE s).1 := by
  rw [scanE_Q hs]
  exact scan_placed s false 0 s rfl (Nat.zero_le _)
end Go.Proofs.YtknfimagjkndnaaDoor

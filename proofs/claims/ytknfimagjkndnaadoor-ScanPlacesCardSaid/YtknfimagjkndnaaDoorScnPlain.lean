/- The scanner in plain Lean: texts one behind the other, places moved, what is shown scanned again. No program in this text. -/
import Derived.Test.YtknfimagjkndnaaDoorShwPlain
namespace Go.Proofs.YtknfimagjkndnaaDoor
open Go Go.RowKit
set_option linter.unusedVariables false
/-- tokens of a text from a place on; true: within a remark -/
def scanQ (b : Bool) (pos : Nat) (l : List UInt8) : List Tok × Int × Int := scanS (pos + pastA b l) (l.drop (pastA b l))
theorem scanQ_f (pos : Nat) (l : List UInt8) : scanQ false pos l = scanB pos l := rfl
theorem scanQ_nil (b : Bool) (pos : Nat) : scanQ b pos [] = ([], 0, 0) := by cases b <;> rfl
theorem scanQ_skip {b b' : Bool} {c : UInt8} {r : List UInt8} (pos : Nat) (h : pastA b (c :: r) = pastA b' r + 1) : scanQ b pos (c :: r) = scanQ b' (pos + 1) r := by
  unfold scanQ
  rw [h, List.drop_succ_cons, show pos + (pastA b' r + 1) = pos + 1 + pastA b' r by omega]
theorem scanQ_in {c : UInt8} {r : List UInt8} (pos : Nat) (h : ¬ c.toNat = 10) : scanQ true pos (c :: r) = scanQ true (pos + 1) r :=
  scanQ_skip pos (by simp only [pastA, h, if_false])
theorem scanQ_out {c : UInt8} {r : List UInt8} (pos : Nat) (h : c.toNat = 10) : scanQ true pos (c :: r) = scanQ false (pos + 1) r :=
  scanQ_skip pos (by simp only [pastA, h, if_true])
theorem scanQ_blank {c : UInt8} {r : List UInt8} (pos : Nat) (h : blankE c = true) : scanQ false pos (c :: r) = scanQ false (pos + 1) r :=
  scanQ_skip pos (by simp only [pastA, h, if_true])
def remE (c : UInt8) (r : List UInt8) : Prop := c.toNat = 47 ∧ r.head? = some 47
instance (c : UInt8) (r : List UInt8) : Decidable (remE c r) := inferInstanceAs (Decidable (_ ∧ _))
theorem scanQ_rem {c : UInt8} {r : List UInt8} (pos : Nat) (hb : blankE c = false) (h : remE c r) : scanQ false pos (c :: r) = scanQ true (pos + 1) r := by
  unfold remE at h
  exact scanQ_skip pos (by simp only [pastA, hb, h, and_self, if_true]; rfl)
theorem past_stop {c : UInt8} {r : List UInt8} (hb : blankE c = false) (h : ¬ remE c r) : pastA false (c :: r) = 0 := by
  unfold remE at h
  simp only [pastA, hb, h, if_false]; rfl
theorem scanQ_err {c : UInt8} {r : List UInt8} {e : Int} {pos : Nat} (hp : pastA false (c :: r) = 0) (h : tokE (c :: r) pos = .inr e) : scanQ false pos (c :: r) = ([], e, (pos : Int)) := by
  unfold scanQ
  rw [hp, Nat.add_zero, List.drop_zero]
  exact scanS_err h
theorem scanQ_tok {c : UInt8} {r : List UInt8} {t : Tok} {n : Nat} {pos : Nat} (hp : pastA false (c :: r) = 0) (h : tokE (c :: r) pos = .inl (t, n)) :
    scanQ false pos (c :: r) = comb [t] (scanQ false (pos + n) ((c :: r).drop n)) := by
  unfold scanQ
  rw [hp, Nat.add_zero, List.drop_zero]
  exact scanS_tok h
theorem tokE_err {l : List UInt8} {pos e : Int} (h : tokE l pos = .inr e) : e = 2 ∨ e = 3 ∨ e = 4 := by
  unfold tokE at h
  split at h
  · injection h with h; omega
  · split at h
    · split at h
      · cases h
      · injection h with h; omega
    · split at h
      · split at h
        · cases h
        · injection h with h; omega
      · split at h
        · injection h with h; omega
        · cases h
/-- a byte that is passed over -/
inductive Skip (c : UInt8) (r : List UInt8) : Bool → Bool → Prop
  | in_ : ¬ c.toNat = 10 → Skip c r true true
  | out : c.toNat = 10 → Skip c r true false
  | blank : blankE c = true → Skip c r false false
  | rem : blankE c = false → remE c r → Skip c r false true
theorem skipQ {c : UInt8} {r : List UInt8} {b b' : Bool} (h : Skip c r b b') (pos : Nat) : scanQ b pos (c :: r) = scanQ b' (pos + 1) r := by
  cases h with
  | in_ h => exact scanQ_in pos h
  | out h => exact scanQ_out pos h
  | blank h => exact scanQ_blank pos h
  | rem h h2 => exact scanQ_rem pos h h2
theorem step_of (c : UInt8) (r : List UInt8) (b : Bool) : (∃ b', Skip c r b b') ∨ (b = false ∧ blankE c = false ∧ ¬ remE c r) := by
  cases b with
  | true =>
    by_cases h : c.toNat = 10
    · exact .inl ⟨_, .out h⟩
    · exact .inl ⟨_, .in_ h⟩
  | false =>
    cases hb : blankE c with
    | true => exact .inl ⟨_, .blank hb⟩
    | false =>
      by_cases h : remE c r
      · exact .inl ⟨_, .rem hb h⟩
      · exact .inr ⟨rfl, rfl, h⟩
/-- what holds at the text's end and is kept by a step holds of what is scanned -/
theorem scanQ_ind (P : Bool → Nat → List UInt8 → List Tok × Int × Int → Prop)
    (h0 : ∀ b pos, P b pos [] ([], 0, 0))
    (h1 : ∀ b b' pos c r, Skip c r b b' → P b' (pos + 1) r (scanQ b' (pos + 1) r) → P b pos (c :: r) (scanQ b' (pos + 1) r))
    (h2 : ∀ (pos : Nat) c r (e : Int), blankE c = false → ¬ remE c r → tokE (c :: r) pos = .inr e → P false pos (c :: r) ([], e, (pos : Int)))
    (h3 : ∀ (pos : Nat) c r t n, blankE c = false → ¬ remE c r → tokE (c :: r) pos = .inl (t, n) → P false (pos + n) ((c :: r).drop n) (scanQ false (pos + n) ((c :: r).drop n)) → P false pos (c :: r) (comb [t] (scanQ false (pos + n) ((c :: r).drop n)))) :
    ∀ (n : Nat) (b : Bool) (pos : Nat) (l : List UInt8), l.length ≤ n → P b pos l (scanQ b pos l)
  | _, b, pos, [], _ => by rw [scanQ_nil]; exact h0 b pos
  | 0, _, _, c :: r, h => by simp at h
  | n + 1, b, pos, c :: r, h => by
    have hr : r.length ≤ n := by simpa using h
    rcases step_of c r b with ⟨b', hs⟩ | ⟨rfl, hb, hc⟩
    · rw [skipQ hs]; exact h1 _ _ _ _ _ hs (scanQ_ind P h0 h1 h2 h3 n _ _ r hr)
    · have hp := past_stop hb hc
      cases ht : tokE (c :: r) pos with
      | inr e => rw [scanQ_err hp ht]; exact h2 _ _ _ _ hb hc ht
      | inl x =>
        obtain ⟨t, k⟩ := x
        rw [scanQ_tok hp ht]
        have hl := tokE_len ht
        exact h3 _ _ _ _ _ hb hc ht (scanQ_ind P h0 h1 h2 h3 n _ _ _ (by simp only [List.length_drop, List.length_cons] at *; omega))
theorem scanQ_norm (b : Bool) (pos : Nat) (l : List UInt8) : comb [] (scanQ b pos l) = scanQ b pos l :=
  scanQ_ind (fun _ _ _ x => comb [] x = x) (fun _ _ => rfl) (fun _ _ _ _ _ _ h => h)
    (fun _ _ _ _ _ _ ht => comb_err _ _ _ (by rcases tokE_err ht with h | h | h <;> omega))
    (fun _ _ _ _ _ _ _ _ _ => by rw [comb_comb]; rfl) l.length b pos l (Nat.le_refl _)
theorem scanE_Q {l : List UInt8} (h : l.length ≤ 4000) : scanE l = scanQ false 0 l := by
  rw [scanE_B h, ← scanQ_f, scanQ_norm]
theorem scanE_big {l : List UInt8} (h : ¬ l.length ≤ 4000) : scanE l = ([], 2, 4000) := by unfold scanE; rw [if_neg h]
/-- what may follow a token -/
def Sep (q : List UInt8) : Prop := ∀ c r, q = c :: r → c = 10 ∨ c = 32
theorem sep_nil : Sep [] := fun c r h => by cases h
theorem sep_line (q : List UInt8) : Sep (10 :: q) := fun c r h => by cases h; exact .inl rfl
theorem sep_blank (q : List UInt8) : Sep (32 :: q) := fun c r h => by cases h; exact .inr rfl
theorem tw_sep {p : UInt8 → Bool} (h1 : p 10 = false) (h2 : p 32 = false) (l : List UInt8) {q : List UInt8} (hq : Sep q) : (l ++ q).takeWhile p = l.takeWhile p := by
  have hq0 : q.takeWhile p = [] := by
    cases q with
    | nil => rfl
    | cons c r =>
      rcases hq c r rfl with rfl | rfl
      · rw [List.takeWhile_cons, h1]; rfl
      · rw [List.takeWhile_cons, h2]; rfl
  rw [List.takeWhile_append, hq0, List.append_nil]
  split
  · rename_i h
    exact ((List.takeWhile_prefix p).eq_of_length h).symm
  · rfl
theorem twos_sep : ∀ (c : UInt8) (r q : List UInt8), Sep q → twos.any (fun t => t.isPrefixOf (c :: r ++ q)) = twos.any (fun t => t.isPrefixOf (c :: r))
  | c, [], [], _ => rfl
  | c, [], d :: q, hq => by
    rcases hq d q rfl with rfl | rfl <;> simp [twos, List.isPrefixOf]
  | c, d :: r, q, hq => by simp [twos, List.isPrefixOf]
theorem signE_sep (c : UInt8) (r : List UInt8) {q : List UInt8} (hq : Sep q) : signE (c :: r ++ q) = signE (c :: r) := by
  unfold signE
  rw [twos_sep c r q hq]
  rfl
theorem tokE_sep (c : UInt8) (r : List UInt8) {q : List UInt8} (hq : Sep q) (pos : Int) : tokE (c :: r ++ q) pos = tokE (c :: r) pos := by
  have h1 := tw_sep (p := ldE) rfl rfl (c :: r) hq
  have h2 := tw_sep (p := digitE) rfl rfl (c :: r) hq
  have h3 := signE_sep c r hq
  have h4 : (c :: r ++ q).take (signE (c :: r)) = (c :: r).take (signE (c :: r)) := List.take_append_of_le_length (signE_le _)
  have e : ∀ x, tokE x pos = match x with
    | [] => .inr 3
    | c :: _ => if letterE c then if (x.takeWhile ldE).length ≤ 16 then .inl (⟨1, x.takeWhile ldE, 0, pos⟩, (x.takeWhile ldE).length) else .inr 2
      else if digitE c then if valD (x.takeWhile digitE) ≤ 4294967296 then .inl (⟨2, x.takeWhile digitE, valD (x.takeWhile digitE), pos⟩, (x.takeWhile digitE).length) else .inr 4
      else if signE x = 0 then .inr 3 else .inl (⟨3, x.take (signE x), 0, pos⟩, signE x) := fun x => by cases x <;> rfl
  rw [e, e, h1, h2, h3, h4]
  rfl
theorem remE_sep (c : UInt8) (r q : List UInt8) (hq : Sep q) : remE c (r ++ q) ↔ remE c r := by
  unfold remE
  cases r with
  | cons d r => exact Iff.rfl
  | nil =>
    cases q with
    | nil => exact Iff.rfl
    | cons d q =>
      constructor
      · rintro ⟨_, h⟩
        have h : d = 47 := by simpa using h
        rcases hq d q rfl with e | e <;> rw [h] at e <;> exact absurd e (by decide)
      · rintro ⟨_, h⟩
        cases h
/-- what is scanned of two texts, one on a line behind the other -/
def joinR (x y : List Tok × Int × Int) : List Tok × Int × Int := if x.2.1 = 0 then comb x.1 y else ([], x.2.1, x.2.2)
theorem joinR_comb (ts : List Tok) (x y : List Tok × Int × Int) : joinR (comb ts x) y = comb ts (joinR x y) := by
  unfold joinR
  by_cases h : x.2.1 = 0
  · have e : comb ts x = (ts ++ x.1, 0, 0) := by unfold comb; rw [if_pos h]
    rw [e, if_pos rfl, if_pos h, comb_comb]
  · have e : comb ts x = ([], x.2.1, x.2.2) := by unfold comb; rw [if_neg h]
    rw [e, if_neg h, if_neg h]
    exact (comb_err _ _ _ h).symm
theorem Skip.app {c : UInt8} {r q : List UInt8} {b b' : Bool} (h : Skip c r b b') (hq : Sep q) : Skip c (r ++ q) b b' := by
  cases h with
  | in_ h => exact .in_ h
  | out h => exact .out h
  | blank h => exact .blank h
  | rem h h2 => exact .rem h ((remE_sep c r q hq).2 h2)
theorem scan_join (t : List UInt8) (b : Bool) (pos : Nat) (s : List UInt8) : scanQ b pos (s ++ 10 :: t) = joinR (scanQ b pos s) (scanQ false (pos + s.length + 1) t) := by
  refine scanQ_ind (fun b pos s x => scanQ b pos (s ++ 10 :: t) = joinR x (scanQ false (pos + s.length + 1) t)) ?_ ?_ ?_ ?_ s.length b pos s (Nat.le_refl _)
  · intro b pos
    have e : scanQ b pos ([] ++ 10 :: t) = scanQ false (pos + 1) t := by
      cases b
      · exact scanQ_blank pos rfl
      · exact scanQ_out pos rfl
    rw [e]
    exact (scanQ_norm _ _ _).symm
  · intro b b' pos c r hs hx
    rw [show (c :: r ++ 10 :: t) = c :: (r ++ 10 :: t) from rfl, skipQ (hs.app (sep_line t)), hx, List.length_cons, show pos + 1 + r.length + 1 = pos + (r.length + 1) + 1 by omega]
  · intro (pos : Nat) c r e hb hc ht
    have ht2 : tokE (c :: (r ++ 10 :: t)) ((pos : Nat) : Int) = _ := tokE_sep c r (sep_line t) ((pos : Nat) : Int)
    rw [ht] at ht2
    rw [show (c :: r ++ 10 :: t) = c :: (r ++ 10 :: t) from rfl, scanQ_err (past_stop hb (fun h => hc ((remE_sep c r _ (sep_line t)).1 h))) ht2]
    unfold joinR
    rw [if_neg (by rcases tokE_err ht with h | h | h <;> simp only [h] <;> decide)]
  · intro (pos : Nat) c r k n hb hc ht hx
    have hl := tokE_len ht
    have ht2 : tokE (c :: (r ++ 10 :: t)) ((pos : Nat) : Int) = _ := tokE_sep c r (sep_line t) ((pos : Nat) : Int)
    rw [ht] at ht2
    rw [show (c :: r ++ 10 :: t) = c :: (r ++ 10 :: t) from rfl, scanQ_tok (past_stop hb (fun h => hc ((remE_sep c r _ (sep_line t)).1 h))) ht2, joinR_comb]
    have e : (c :: (r ++ 10 :: t)).drop n = (c :: r).drop n ++ 10 :: t := by
      rw [show c :: (r ++ 10 :: t) = (c :: r) ++ 10 :: t from rfl, List.drop_append_of_le_length hl.2.1]
    rw [e, hx, List.length_drop, show pos + n + ((c :: r).length - n) + 1 = pos + (c :: r).length + 1 by have := hl.2.1; omega]
/-- places moved -/
def shT (d : Nat) (t : Tok) : Tok := ⟨t.kind, t.text, t.n, t.pos + d⟩
def shR (d : Nat) (x : List Tok × Int × Int) : List Tok × Int × Int := if x.2.1 = 0 then (x.1.map (shT d), 0, 0) else ([], x.2.1, x.2.2 + d)
theorem tokE_shift (l : List UInt8) (pos : Int) (d : Nat) : tokE l (pos + d) = match tokE l pos with
    | .inl (t, n) => .inl (shT d t, n)
    | .inr e => .inr e := by
  unfold tokE
  split
  · rfl
  · split
    · split <;> rfl
    · split
      · split <;> rfl
      · split <;> rfl
theorem shR_comb (d : Nat) (ts : List Tok) (x : List Tok × Int × Int) : shR d (comb ts x) = comb (ts.map (shT d)) (shR d x) := by
  unfold shR
  by_cases h : x.2.1 = 0
  · have e : comb ts x = (ts ++ x.1, 0, 0) := by unfold comb; rw [if_pos h]
    rw [e, if_pos rfl, if_pos h]
    simp [comb]
  · have e : comb ts x = ([], x.2.1, x.2.2) := by unfold comb; rw [if_neg h]
    rw [e, if_neg h, if_neg h]
    exact (comb_err _ _ _ h).symm
theorem scan_shift (d : Nat) (b : Bool) (pos : Nat) (l : List UInt8) : scanQ b (pos + d) l = shR d (scanQ b pos l) := by
  refine scanQ_ind (fun b pos l x => scanQ b (pos + d) l = shR d x) ?_ ?_ ?_ ?_ l.length b pos l (Nat.le_refl _)
  · intro b pos
    exact scanQ_nil b _
  · intro b b' pos c r hs hx
    rw [skipQ hs, ← hx, show pos + d + 1 = pos + 1 + d by omega]
  · intro (pos : Nat) c r e hb hc ht
    have ht2 := tokE_shift (c :: r) pos d
    rw [ht] at ht2
    have ht3 : tokE (c :: r) ((pos + d : Nat) : Int) = .inr e := ht2
    rw [scanQ_err (past_stop hb hc) ht3]
    unfold shR
    rw [if_neg (by rcases tokE_err ht with h | h | h <;> simp only [h] <;> decide)]
    rfl
  · intro (pos : Nat) c r k n hb hc ht hx
    have ht2 := tokE_shift (c :: r) pos d
    rw [ht] at ht2
    have ht3 : tokE (c :: r) ((pos + d : Nat) : Int) = .inl (shT d k, n) := ht2
    rw [scanQ_tok (past_stop hb hc) ht3, shR_comb, ← hx, show pos + d + n = pos + n + d by omega]
    rfl
theorem shR_strip (d : Nat) (x : List Tok × Int × Int) (h : x.2.1 = 0) : (shR d x).1.map strip = x.1.map strip := by
  unfold shR
  rw [if_pos h, List.map_map]
  rfl
/-- a text that is one token, whatever may follow it -/
def OkT (t : Tok) : Prop := t.text ≠ [] ∧ ∀ q (pos : Int), Sep q → tokE (t.text ++ q) pos = .inl (⟨t.kind, t.text, t.n, pos⟩, t.text.length) ∧ pastA false (t.text ++ q) = 0
theorem tw_self {p : UInt8 → Bool} (l : List UInt8) : (l.takeWhile p).takeWhile p = l.takeWhile p := by
  induction l with
  | nil => rfl
  | cons c r ih =>
    rw [List.takeWhile_cons]
    split
    · rename_i h
      rw [List.takeWhile_cons, if_pos h, ih]
    · rfl
theorem tw_cons {p : UInt8 → Bool} {c : UInt8} (h : p c = true) (r : List UInt8) : (c :: r).takeWhile p = c :: r.takeWhile p := by rw [List.takeWhile_cons, if_pos h]
theorem two_ok : ∀ (q : List UInt8) (pos : Int), ∀ t ∈ twos, tokE (t ++ q) pos = .inl (⟨3, t, 0, pos⟩, t.length) ∧ pastA false (t ++ q) = 0 ∧ t ≠ [] := by
  intro q pos t ht
  simp only [twos, List.mem_cons, List.not_mem_nil, or_false] at ht
  rcases ht with rfl | rfl | rfl | rfl | rfl <;> exact ⟨rfl, rfl, by decide⟩
theorem one_ok (q : List UInt8) (hq : Sep q) (pos : Int) : ∀ c ∈ ones, tokE ([c] ++ q) pos = .inl (⟨3, [c], 0, pos⟩, 1) ∧ pastA false ([c] ++ q) = 0 := by
  intro c hc
  cases q with
  | nil =>
    simp only [ones, List.mem_cons, List.not_mem_nil, or_false] at hc
    rcases hc with rfl | rfl | rfl | rfl | rfl | rfl | rfl | rfl | rfl | rfl | rfl | rfl | rfl | rfl <;> exact ⟨rfl, rfl⟩
  | cons d q =>
    simp only [ones, List.mem_cons, List.not_mem_nil, or_false] at hc
    rcases hq d q rfl with rfl | rfl <;>
    rcases hc with rfl | rfl | rfl | rfl | rfl | rfl | rfl | rfl | rfl | rfl | rfl | rfl | rfl | rfl <;> exact ⟨rfl, rfl⟩
theorem tok_letter' {c : UInt8} {r : List UInt8} (h : letterE c = true) (pos : Int) : tokE (c :: r) pos = if ((c :: r).takeWhile ldE).length ≤ 16 then .inl (⟨1, (c :: r).takeWhile ldE, 0, pos⟩, ((c :: r).takeWhile ldE).length) else .inr 2 := by
  simp only [tokE, h, if_true]
theorem tok_digit' {c : UInt8} {r : List UInt8} (h : letterE c = false) (h2 : digitE c = true) (pos : Int) : tokE (c :: r) pos = if valD ((c :: r).takeWhile digitE) ≤ 4294967296 then .inl (⟨2, (c :: r).takeWhile digitE, valD ((c :: r).takeWhile digitE), pos⟩, ((c :: r).takeWhile digitE).length) else .inr 4 := by
  simp only [tokE, h, h2, if_true]; rfl
theorem tok_sign' {c : UInt8} {r : List UInt8} (h : letterE c = false) (h2 : digitE c = false) (pos : Int) : tokE (c :: r) pos = if signE (c :: r) = 0 then .inr 3 else .inl (⟨3, (c :: r).take (signE (c :: r)), 0, pos⟩, signE (c :: r)) := by
  simp only [tokE, h, h2]; rfl
theorem tokE_ok {c : UInt8} {r : List UInt8} {pos : Int} {t : Tok} {n : Nat} (h : tokE (c :: r) pos = .inl (t, n)) : OkT t := by
  cases h1 : letterE c with
  | true =>
    rw [tok_letter' h1] at h
    split at h
    · rename_i h16
      injection h with h; injection h with h _; subst h
      have hc : ldE c = true := by unfold ldE; rw [h1]; rfl
      refine ⟨by simp [tw_cons hc], fun q pos' hq => ⟨?_, ?_⟩⟩
      · show tokE ((c :: r).takeWhile ldE ++ q) pos' = _
        have e : ((c :: r).takeWhile ldE ++ q).takeWhile ldE = (c :: r).takeWhile ldE := by rw [tw_sep rfl rfl _ hq, tw_self]
        rw [tw_cons hc] at e h16 ⊢
        rw [List.cons_append] at e ⊢
        rw [tok_letter' h1, e, if_pos h16]
      · show pastA false ((c :: r).takeWhile ldE ++ q) = 0
        rw [tw_cons hc]
        exact past_okC (okC_letter h1)
    · cases h
  | false =>
    cases h2 : digitE c with
    | true =>
      rw [tok_digit' h1 h2] at h
      split at h
      · rename_i hv
        injection h with h; injection h with h _; subst h
        refine ⟨by simp [tw_cons h2], fun q pos' hq => ⟨?_, ?_⟩⟩
        · show tokE ((c :: r).takeWhile digitE ++ q) pos' = _
          have e : ((c :: r).takeWhile digitE ++ q).takeWhile digitE = (c :: r).takeWhile digitE := by rw [tw_sep rfl rfl _ hq, tw_self]
          rw [tw_cons h2] at e hv ⊢
          rw [List.cons_append] at e ⊢
          rw [tok_digit' h1 h2, e, if_pos hv]
        · show pastA false ((c :: r).takeWhile digitE ++ q) = 0
          rw [tw_cons h2]
          exact past_okC (okC_digit h2)
      · cases h
    | false =>
      rw [tok_sign' h1 h2] at h
      split at h
      · cases h
      · rename_i h0
        injection h with h; injection h with h _; subst h
        by_cases ha : twos.any (fun t => t.isPrefixOf (c :: r)) = true
        · have e2 : signE (c :: r) = 2 := by unfold signE; rw [if_pos ha]
          obtain ⟨t, ht, hp⟩ := List.any_eq_true.1 ha
          have hl : t.length = 2 := by
            have : ∀ t ∈ twos, t.length = 2 := by decide
            exact this t ht
          have e3 : (c :: r).take 2 = t := by
            have := List.prefix_iff_eq_take.1 (List.isPrefixOf_iff_prefix.1 hp)
            rw [hl] at this
            exact this.symm
          rw [e2, e3]
          exact ⟨(two_ok [] 0 t ht).2.2, fun q pos' _ => ⟨(two_ok q pos' t ht).1, (two_ok q pos' t ht).2.1⟩⟩
        · have hs : signE (c :: r) = if ones.contains c then 1 else 0 := by unfold signE; rw [if_neg ha]
          have hc : ones.contains c = true := by
            cases hc : ones.contains c with
            | true => rfl
            | false => rw [hs, hc] at h0; simp at h0
          rw [hs, hc]
          have hm : c ∈ ones := List.contains_iff_mem.1 hc
          exact ⟨by simp, fun q pos' hq => one_ok q hq pos' c hm⟩
theorem comb_fst (ts : List Tok) (x : List Tok × Int × Int) : (comb ts x).1 = if x.2.1 = 0 then ts ++ x.1 else [] := by unfold comb; split <;> rfl
theorem scan_ok (b : Bool) (pos : Nat) (l : List UInt8) : ∀ t ∈ (scanQ b pos l).1, OkT t := by
  refine scanQ_ind (fun _ _ _ x => ∀ t ∈ x.1, OkT t) ?_ ?_ ?_ ?_ l.length b pos l (Nat.le_refl _)
  · intro b pos t h; cases h
  · intro b b' pos c r _ h; exact h
  · intro pos c r e _ _ _ t h; cases h
  · intro pos c r k n _ _ ht hx t h
    rw [comb_fst] at h
    split at h
    · rcases List.mem_append.1 h with h | h
      · rw [List.mem_singleton.1 h]; exact tokE_ok ht
      · exact hx t h
    · cases h
/-- tokens as a text -/
def tailE (l : List Tok) : List UInt8 := l.flatMap fun t => 32 :: t.text
def shwE : List Tok → List UInt8
  | [] => []
  | t :: r => t.text ++ tailE r
theorem tailE_sep (l : List Tok) : Sep (tailE l) := by
  cases l with
  | nil => exact sep_nil
  | cons t r => exact sep_blank _
theorem shwE_snoc (l : List Tok) (t : Tok) : shwE (l ++ [t]) = if l = [] then t.text else shwE l ++ 32 :: t.text := by
  cases l with
  | nil => simp [shwE, tailE]
  | cons u r => simp [shwE, tailE]
theorem scan_one {t : Tok} (h : OkT t) {q : List UInt8} (hq : Sep q) (pos : Nat) : scanQ false pos (t.text ++ q) = comb [⟨t.kind, t.text, t.n, (pos : Int)⟩] (scanQ false (pos + t.text.length) q) := by
  obtain ⟨hn, ho⟩ := h
  have := ho q pos hq
  cases ht : t.text with
  | nil => exact absurd ht hn
  | cons c r =>
    rw [ht] at this
    rw [List.cons_append] at this ⊢
    rw [scanQ_tok this.2 this.1, ← List.cons_append, List.drop_left]
theorem scan_tail : ∀ (l : List Tok) (pos : Nat), (∀ t ∈ l, OkT t) → ∃ us : List Tok, us.map strip = l.map strip ∧ scanQ false pos (tailE l) = (us, 0, 0)
  | [], pos, _ => ⟨[], rfl, rfl⟩
  | t :: r, pos, h => by
    obtain ⟨us, h1, h2⟩ := scan_tail r (pos + 1 + t.text.length) (fun u hu => h u (List.mem_cons_of_mem _ hu))
    refine ⟨⟨t.kind, t.text, t.n, ((pos + 1 : Nat) : Int)⟩ :: us, by simp [h1, strip], ?_⟩
    have e : tailE (t :: r) = 32 :: (t.text ++ tailE r) := by simp [tailE]
    rw [e, scanQ_blank pos rfl, scan_one (h t (by simp)) (tailE_sep r), h2]
    rfl
theorem scan_shwE (l : List Tok) (h : ∀ t ∈ l, OkT t) : ∃ us : List Tok, us.map strip = l.map strip ∧ scanQ false 0 (shwE l) = (us, 0, 0) := by
  cases l with
  | nil => exact ⟨[], rfl, rfl⟩
  | cons t r =>
    obtain ⟨us, h1, h2⟩ := scan_tail r (0 + t.text.length) (fun u hu => h u (List.mem_cons_of_mem _ hu))
    refine ⟨⟨t.kind, t.text, t.n, 0⟩ :: us, by simp [h1, strip], ?_⟩
    unfold shwE
    rw [scan_one (h t (by simp)) (tailE_sep r), h2]
    rfl
theorem shwE_strip {a b : List Tok} (h : a.map strip = b.map strip) : shwE a = shwE b := by
  have ht : ∀ (a b : List Tok), a.map strip = b.map strip → tailE a = tailE b := by
    intro a
    induction a with
    | nil => intro b h; cases b with
      | nil => rfl
      | cons _ _ => cases h
    | cons x a ih => intro b h; cases b with
      | nil => cases h
      | cons y b =>
        simp only [List.map_cons, List.cons.injEq] at h
        have hx : x.text = y.text := congrArg (fun p => p.2.1) h.1
        have := ih b h.2
        simp only [tailE, List.flatMap_cons] at this ⊢
        rw [this, hx]
  cases a with
  | nil => cases b with
    | nil => rfl
    | cons _ _ => cases h
  | cons x a => cases b with
    | nil => cases h
    | cons y b =>
      simp only [List.map_cons, List.cons.injEq] at h
      have hx : x.text = y.text := congrArg (fun p => p.2.1) h.1
      show x.text ++ tailE a = y.text ++ tailE b
      rw [hx, ht a b h.2]
/-- the length of what is shown -/
theorem tail_len (b : Bool) (pos : Nat) (l : List UInt8) : (tailE (scanQ b pos l).1).length ≤ 2 * l.length := by
  refine scanQ_ind (fun _ _ l x => (tailE x.1).length ≤ 2 * l.length) ?_ ?_ ?_ ?_ l.length b pos l (Nat.le_refl _)
  · intro b pos; simp [tailE]
  · intro b b' pos c r _ h; simp only [List.length_cons]; omega
  · intro pos c r e _ _ _; simp [tailE]
  · intro pos c r k n _ _ ht hx
    have hl := tokE_len ht
    rw [comb_fst]
    split
    · have e : tailE ([k] ++ (scanQ false (pos + n) ((c :: r).drop n)).1) = 32 :: k.text ++ tailE (scanQ false (pos + n) ((c :: r).drop n)).1 := by simp [tailE]
      rw [e, List.length_append, List.length_cons, hl.2.2.1, List.length_take]
      rw [List.length_drop] at hx
      have := hl.1; have := hl.2.1
      omega
    · simp [tailE]
theorem shwE_len (l : List Tok) : (shwE l).length ≤ (tailE l).length := by
  cases l with
  | nil => exact Nat.le_refl _
  | cons t r => simp [shwE, tailE]
/-- tokens stand in a text at their places -/
def Placed (s : List UInt8) : Nat → List Tok → Prop
  | _, [] => True
  | e, t :: r => ∃ p n : Nat, t.pos = p ∧ e ≤ p ∧ 0 < n ∧ p + n ≤ s.length ∧ t.text = (s.drop p).take n ∧ (t.kind = 1 ∨ t.kind = 2 ∨ t.kind = 3) ∧ (t.kind = 2 ∨ t.n = 0) ∧ 0 ≤ t.n ∧ t.n ≤ 4294967296 ∧ Placed s (p + n) r
theorem Placed.mono {s : List UInt8} : ∀ {l : List Tok} {a b : Nat}, a ≤ b → Placed s b l → Placed s a l
  | [], _, _, _, _ => trivial
  | t :: r, a, b, hab, ⟨p, n, h1, h2, h⟩ => ⟨p, n, h1, by omega, h⟩
theorem tokE_kind {l : List UInt8} {pos : Int} {t : Tok} {n : Nat} (h : tokE l pos = .inl (t, n)) : (t.kind = 1 ∨ t.kind = 2 ∨ t.kind = 3) ∧ (t.kind = 2 ∨ t.n = 0) ∧ 0 ≤ t.n ∧ t.n ≤ 4294967296 := by
  cases l with
  | nil => cases h
  | cons c r =>
    cases h1 : letterE c with
    | true =>
      rw [tok_letter' h1] at h
      split at h
      · injection h with h; injection h with h _; subst h
        exact ⟨.inl rfl, .inr rfl, Int.le_refl _, show (0 : Int) ≤ 4294967296 by decide⟩
      · cases h
    | false =>
      cases h2 : digitE c with
      | true =>
        rw [tok_digit' h1 h2] at h
        split at h
        · rename_i hv
          injection h with h; injection h with h _; subst h
          exact ⟨.inr (.inl rfl), .inl rfl, Int.natCast_nonneg _, by show ((valD _ : Nat) : Int) ≤ _; omega⟩
        · cases h
      | false =>
        rw [tok_sign' h1 h2] at h
        split at h
        · cases h
        · injection h with h; injection h with h _; subst h
          exact ⟨.inr (.inr rfl), .inr rfl, Int.le_refl _, show (0 : Int) ≤ 4294967296 by decide⟩
theorem scan_placed (s : List UInt8) (b : Bool) (pos : Nat) (l : List UInt8) (hl : l = s.drop pos) (hp : pos ≤ s.length) : Placed s pos (scanQ b pos l).1 := by
  refine scanQ_ind (fun b pos l x => l = s.drop pos → pos ≤ s.length → Placed s pos x.1) ?_ ?_ ?_ ?_ l.length b pos l (Nat.le_refl _) hl hp
  · intro b pos _ _; trivial
  · intro b b' pos c r _ h hl hp
    have hlt : pos < s.length := by
      rcases Nat.lt_or_ge pos s.length with h | h
      · exact h
      · rw [List.drop_of_length_le h] at hl; cases hl
    have e : r = s.drop (pos + 1) := by
      have := congrArg List.tail hl
      rw [List.tail_drop] at this
      exact this
    exact Placed.mono (by omega) (h e (by omega))
  · intro pos c r e _ _ _ _ _; trivial
  · intro pos c r k n _ _ ht hx hl hp
    have hk := tokE_kind ht
    have hn := tokE_len ht
    have hlen : (c :: r).length = s.length - pos := by rw [hl, List.length_drop]
    have h2 := hn.2.1
    have h1 := hn.1
    rw [comb_fst]
    split
    · refine ⟨pos, n, hn.2.2.2, Nat.le_refl _, hn.1, by omega, by rw [hn.2.2.1, hl], hk.1, hk.2.1, hk.2.2.1, hk.2.2.2, ?_⟩
      exact hx (by rw [hl, List.drop_drop]) (by omega)
    · trivial
/-- a name, or a kept word, is one word by itself -/
theorem kept_word : ∀ s ∈ keptL, s.length ≤ 16 ∧ s.all ldE = true ∧ ∃ c r, s = c :: r ∧ letterE c = true := by
  intro s hs
  have h : ∀ s ∈ keptL, (decide (s.length ≤ 16) && s.all ldE && (s.head?.map letterE == some true)) = true := by decide +kernel
  have h2 := h s hs
  simp only [Bool.and_eq_true, decide_eq_true_eq] at h2
  refine ⟨h2.1.1, h2.1.2, ?_⟩
  cases s with
  | nil => simp at h2
  | cons c r => exact ⟨c, r, rfl, by simpa using h2.2⟩
theorem word_iff (s : List UInt8) : (nameE s || keptE s) = match s with
    | [] => false
    | c :: r => decide (s.length ≤ 16) && letterE c && s.all ldE := by
  cases s with
  | nil => rfl
  | cons c r =>
    cases hk : keptE (c :: r) with
    | true =>
      have hm : (c :: r) ∈ keptL := List.contains_iff_mem.1 hk
      obtain ⟨h1, h2, c', r', h3, h4⟩ := kept_word _ hm
      injection h3 with h3 h5
      subst h3
      simp only [h2, h4, decide_eq_true h1, Bool.or_true, Bool.and_self]
    | false =>
      simp only [nameE, hk, Bool.or_false, Bool.not_false, Bool.and_true]
theorem name_kept (s : List UInt8) : (nameE s && keptE s) = false := by
  cases s with
  | nil => rfl
  | cons c r =>
    cases hk : keptE (c :: r) with
    | true => simp [nameE, hk]
    | false => simp
theorem one_word (s : List UInt8) (hs : s.length ≤ 4000) : (nameE s || keptE s) = (decide ((scanE s).2.1 = 0) && match (scanE s).1 with
    | [t] => decide (t.kind = 1) && t.text == s
    | _ => false) := by
  rw [word_iff, scanE_Q hs]
  cases s with
  | nil => rfl
  | cons c r =>
    show (decide ((c :: r).length ≤ 16) && letterE c && (c :: r).all ldE) = _
    cases hw : decide ((c :: r).length ≤ 16) && letterE c && (c :: r).all ldE with
    | true =>
      simp only [Bool.and_eq_true, decide_eq_true_eq] at hw
      obtain ⟨⟨h1, h2⟩, h3⟩ := hw
      have ht : (c :: r).takeWhile ldE = c :: r := by
        have := takeWhile_all (p := ldE) (c :: r)
        rw [h3] at this
        exact (List.takeWhile_prefix ldE).eq_of_length (by simpa using this)
      have hk : tokE (c :: r) ((0 : Nat) : Int) = .inl (⟨1, c :: r, 0, ((0 : Nat) : Int)⟩, (c :: r).length) := by
        rw [tok_letter' h2, ht, if_pos h1]
      rw [scanQ_tok (past_okC (okC_letter h2)) hk, List.drop_length, scanQ_nil]
      simp [comb]
    | false =>
      symm
      rw [Bool.eq_false_iff]
      intro h
      rw [Bool.and_eq_true, decide_eq_true_eq] at h
      obtain ⟨h0, h⟩ := h
      have hpl := scan_placed (c :: r) false 0 (c :: r) rfl (Nat.zero_le _)
      have hok := scan_ok false 0 (c :: r)
      revert h hpl hok
      generalize (scanQ false 0 (c :: r)).1 = x
      intro h hpl hok
      match x, h with
      | [t], h =>
        simp only [Bool.and_eq_true, decide_eq_true_eq, beq_iff_eq] at h
        obtain ⟨hk, htx⟩ := h
        have ho := (hok t (by simp)).2 [] 0 sep_nil
        rw [htx, List.append_nil, hk] at ho
        have ho := ho.1
        cases h1 : letterE c with
        | true =>
          rw [tok_letter' h1] at ho
          split at ho
          · rename_i h16
            injection ho with ho; injection ho with ho hl; injection ho with _ ho
            rw [ho] at h16
            have h3 : (c :: r).all ldE = true := by
              rw [← takeWhile_all, ho]; simp
            rw [decide_eq_true h16, h1, h3] at hw
            cases hw
          · cases ho
        | false =>
          cases h2 : digitE c with
          | true =>
            rw [tok_digit' h1 h2] at ho
            split at ho
            · injection ho with ho; injection ho with ho _; injection ho with ho _
              exact absurd ho (by decide)
            · cases ho
          | false =>
            rw [tok_sign' h1 h2] at ho
            split at ho
            · cases ho
            · injection ho with ho; injection ho with ho _; injection ho with ho _
              exact absurd ho (by decide)
end Go.Proofs.YtknfimagjkndnaaDoor

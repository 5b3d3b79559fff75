/- What is read of a text's tokens may be; where what is wrong stands; parts of an expression: plain. No program in this text. -/
import Derived.Test.YtahdfglelhdcnaaDoorShwPlain
import Derived.Test.YtahdfglelhdcnaaDoorLwA
namespace Go.Proofs.YtahdfglelhdcnaaDoor
open Go Go.RowKit
set_option linter.unusedVariables false
theorem sameE_bare : ∀ (a b : List Nod), a.map bareN = b.map bareN → sameE false a b = true
  | [], [], _ => rfl
  | [], y :: b, h => by simp at h
  | x :: a, [], h => by simp at h
  | x :: a, y :: b, h => by
    simp only [List.map_cons, List.cons.injEq] at h
    unfold sameE
    rw [sameE_bare a b h.2]
    have h1 := h.1
    unfold bareN at h1
    simp only [Nod.mk.injEq] at h1
    unfold nodS
    rw [h1.1, h1.2.1, h1.2.2.1]
    simp
theorem same_bare {a b : Ex} (h : a.bare = b.bare) : sameE false a.flat b.flat = true := sameE_bare _ _ (by rw [← Ex.bare_flat, ← Ex.bare_flat, h])
/-- a reader's nodes may be, and what is wrong stands at a token's place -/
structure Fine (l : List Tok) (f : Nat → Res) : Prop where
  may : ∀ i x tt, f i = .inl (x, tt) → x.may
  place : ∀ i e p, f i = .inr (e, p) → ∃ j : Nat, p = placeE l j
theorem may_two' {x : Nod} {a b : Ex} (hx : mayE x = true) (ha : a.may) (hb : b.may) : (Ex.two x a b).may := fun y hy => by
  simp only [Ex.flat, List.mem_cons, List.mem_append] at hy
  rcases hy with rfl | hy | hy
  · exact hx
  · exact ha y hy
  · exact hb y hy
theorem may_one' {x : Nod} {a : Ex} (hx : mayE x = true) (ha : a.may) : (Ex.one x a).may := fun y hy => by
  simp only [Ex.flat, List.mem_cons] at hy
  rcases hy with rfl | hy
  · exact hx
  · exact ha y hy
theorem may_leaf' {x : Nod} (hx : mayE x = true) : (Ex.leaf x).may := fun y hy => by
  simp only [Ex.flat, List.mem_cons, List.not_mem_nil, or_false] at hy
  subst hy; exact hx
theorem mayE_sign {op pos : Int} (h1 : op ≠ 1) (h2 : op ≠ 2) (h3 : 0 ≤ pos) (h4 : pos ≤ 4000) : mayE ⟨op, 0, [], pos⟩ = true := by
  unfold mayE
  rw [if_neg (by simp; omega), if_neg h1, if_neg h2]
  rfl
theorem tk_in {l : List Tok} {n : Nat} (h : ∀ t ∈ l, TokIn n t) {i : Nat} (hi : i < l.length) : TokIn n (tk l i) := by
  rw [tk_at hi]; exact h _ (List.getElem_mem hi)
theorem pos_in {l : List Tok} {n : Nat} (h : ∀ t ∈ l, TokIn n t) {i : Nat} (hi : i < l.length) : 0 ≤ (tk l i).pos ∧ (tk l i).pos ≤ n := by
  have := tk_in h hi
  have h1 := this.pos0; have h2 := this.pos1
  omega
theorem baseR_fine {l : List Tok} {n : Nat} (h : ∀ t ∈ l, TokIn n t) (hn : n ≤ 4000) {i : Nat} (hi : i < l.length) : (∀ x tt, baseR l i = .inl (x, tt) → x.may) ∧ (∀ e p, baseR l i = .inr (e, p) → ∃ j : Nat, p = placeE l j) := by
  have hp := pos_in h hi
  have ht := tk_in h hi
  unfold baseR
  split
  · refine ⟨fun z t hz => ?_, fun e p hz => by cases hz⟩
    cases hz
    apply may_leaf'
    unfold mayE
    have h1 := ht.num0; have h2 := ht.num1
    rw [if_neg (by simp; omega), if_pos rfl]
    show (decide (0 ≤ (tk l i).n) && decide ((tk l i).n ≤ 4294967296) && true) = true
    rw [decide_eq_true h1, decide_eq_true h2]; rfl
  · split
    · rename_i hk
      refine ⟨fun z t hz => ?_, fun e p hz => by cases hz⟩
      cases hz
      apply may_leaf'
      unfold mayE
      rw [if_neg (by simp; omega), if_neg (show ¬ ((2 : Int) = 1) by decide), if_pos rfl]
      show (true && nameE (tk l i).text) = true
      rw [hk.2]; rfl
    · refine ⟨fun z t hz => (by cases hz), fun e p hz => ?_⟩
      cases hz
      exact ⟨i, rfl⟩
theorem lp_fine {f : Nat → Res} {n m : Nat} {l : List Tok} (h : ∀ t ∈ l, TokIn m t) (hm : m ≤ 4000) (hf : Fine l f) : ∀ (g : Nat) (x : Ex) (tt : Nat), x.may →
    (∀ z t, lp f n l g x tt = .inl (z, t) → z.may) ∧ (∀ e p, lp f n l g x tt = .inr (e, p) → ∃ j : Nat, p = placeE l j)
  | 0, x, tt, hx => by
    unfold lp
    refine ⟨fun z t h => ?_, fun e p h => by cases h⟩
    cases h; exact hx
  | g + 1, x, tt, hx => by
    unfold lp
    by_cases h0 : opAt n l tt = 0
    · rw [if_pos h0]
      refine ⟨fun z t h => ?_, fun e p h => by cases h⟩
      cases h; exact hx
    · rw [if_neg h0]
      have hop := opsOf_in _ _ (opAt_some h0).1
      have hp := pos_in h (opAt_lt h0)
      cases hy : f (tt + 1) with
      | inr e =>
        refine ⟨fun z t h => (by cases h), fun e p h => ?_⟩
        cases h
        exact hf.place _ _ _ hy
      | inl r =>
        obtain ⟨y, to2⟩ := r
        have hxy : (Ex.two ⟨opAt n l tt, 0, [], (tk l tt).pos⟩ x y).may := may_two' (mayE_sign (by omega) (by omega) hp.1 (by omega)) hx (hf.may _ _ _ hy)
        simp only
        split
        · refine ⟨fun z t h => ?_, fun e p h => by cases h⟩
          cases h; exact hxy
        · exact lp_fine h hm hf g _ to2 hxy
theorem flR_fine {pr : Nat → Res} {l : List Tok} {m : Nat} (h : ∀ t ∈ l, TokIn m t) (hm : m ≤ 4000) (hp : Fine l pr) : ∀ k, Fine l (flR pr l k)
  | 0 => hp
  | k + 1 => by
    have ih := flR_fine h hm hp k
    constructor
    · intro i x tt hx
      unfold flR at hx
      cases hy : flR pr l k i with
      | inr e => rw [hy] at hx; cases hx
      | inl r =>
        obtain ⟨y, to2⟩ := r
        rw [hy] at hx
        exact (lp_fine h hm ih _ y to2 (ih.may _ _ _ hy)).1 _ _ hx
    · intro i e p hx
      unfold flR at hx
      cases hy : flR pr l k i with
      | inr e2 => rw [hy] at hx; cases hx; exact ih.place _ _ _ hy
      | inl r =>
        obtain ⟨y, to2⟩ := r
        rw [hy] at hx
        exact (lp_fine h hm ih _ y to2 (ih.may _ _ _ hy)).2 _ _ hx
theorem prR_fine {l : List Tok} {m : Nat} (h : ∀ t ∈ l, TokIn m t) (hm : m ≤ 4000) : ∀ k, Fine l (prR l k)
  | 0 => by
    constructor
    · intro i x tt hx
      unfold prR at hx
      split at hx
      · cases hx
      · split at hx
        · cases hx
        · exact (baseR_fine h hm (by omega)).1 _ _ hx
    · intro i e p hx
      unfold prR at hx
      split at hx
      · cases hx; exact ⟨i, rfl⟩
      · split at hx
        · cases hx; exact ⟨i, rfl⟩
        · exact (baseR_fine h hm (by omega)).2 _ _ hx
  | k + 1 => by
    have ih := prR_fine h hm k
    have ihf := flR_fine h hm ih 5
    constructor
    · intro i x tt hx
      unfold prR at hx
      split at hx
      · cases hx
      · rename_i hi
        have hp := pos_in h (show i < l.length by omega)
        split at hx
        · cases hy : prR l k (i + 1) with
          | inr e => rw [hy] at hx; cases hx
          | inl r =>
            obtain ⟨y, to2⟩ := r
            rw [hy] at hx
            cases hx
            exact may_one' (mayE_sign (by split <;> decide) (by split <;> decide) hp.1 (by omega)) (ih.may _ _ _ hy)
        · split at hx
          · cases hy : flR (prR l k) l 5 (i + 1) with
            | inr e => rw [hy] at hx; cases hx
            | inl r =>
              obtain ⟨y, to2⟩ := r
              rw [hy] at hx
              simp only at hx
              split at hx
              · cases hx; exact ihf.may _ _ _ hy
              · cases hx
          · exact (baseR_fine h hm (by omega)).1 _ _ hx
    · intro i e p hx
      unfold prR at hx
      split at hx
      · cases hx; exact ⟨i, rfl⟩
      · split at hx
        · cases hy : prR l k (i + 1) with
          | inr e =>
            rw [hy] at hx
            cases hx
            exact ih.place _ _ _ hy
          | inl r => obtain ⟨y, to2⟩ := r; rw [hy] at hx; cases hx
        · split at hx
          · cases hy : flR (prR l k) l 5 (i + 1) with
            | inr e =>
              rw [hy] at hx
              cases hx
              exact ihf.place _ _ _ hy
            | inl r =>
              obtain ⟨y, to2⟩ := r
              rw [hy] at hx
              simp only at hx
              split at hx
              · cases hx
              · cases hx; exact ⟨to2, rfl⟩
          · exact (baseR_fine h hm (by omega)).2 _ _ hx
theorem wrap64_in {z : Int} (h0 : 0 ≤ z) (h1 : z ≤ 4000) : wrap64 z = z := by
  unfold wrap64
  omega
theorem placeE_bound {l : List Tok} {n : Nat} (h : ∀ t ∈ l, TokIn n t) (hn : n ≤ 4000) (j : Nat) : 0 ≤ placeE l j ∧ placeE l j ≤ n := by
  by_cases hj : j < l.length
  · rw [placeE_in hj]
    have := h _ (List.getElem_mem hj)
    have h1 := this.pos0; have h2 := this.pos1
    omega
  · by_cases h0 : l.length = 0
    · rw [placeE_nil h0]; omega
    · obtain ⟨m, hm⟩ : ∃ m, l.length = m + 1 := ⟨l.length - 1, by omega⟩
      rw [placeE_out (by omega) hm]
      have := h _ (List.getElem_mem (show m < l.length by omega))
      have h1 := this.pos0; have h2 := this.pos1
      rw [wrap64_in (by omega) (by omega)]
      omega
/-- what the first token's expression is, or what is wrong -/
theorem parE_fine {l : List Tok} {n : Nat} (h : ∀ t ∈ l, TokIn n t) (hn : n ≤ 4000) :
    (∃ (e : Ex) (tt : Nat), parE l 0 = (e.flat, (tt : Int), 0, 0) ∧ e.ok ∧ e.may ∧ e.deep ≤ 12 ∧ e.flat.length ≤ 40 ∧ 1 ≤ tt ∧ tt ≤ l.length) ∨
    (∃ er p : Int, parE l 0 = ([], 0, er, p) ∧ er ≠ 0 ∧ 0 ≤ p ∧ p ≤ n) := by
  have hf := flR_fine h hn (prR_fine h hn 12) 5
  have hw := flR_fwd (prR_fwd l 12) 5
  unfold parE
  rw [if_neg (by omega), show (0 : Int).toNat = 0 from rfl]
  cases hr : flR (prR l 12) l 5 0 with
  | inr ep =>
    obtain ⟨er, p⟩ := ep
    obtain ⟨j, rfl⟩ := hf.place _ _ _ hr
    have hb := hw.bad _ _ _ hr
    have := placeE_bound h hn j
    exact .inr ⟨er, placeE l j, rfl, by omega, this.1, this.2⟩
  | inl xt =>
    obtain ⟨x, tt⟩ := xt
    have hg := hw.good _ _ _ hr
    have hm := hf.may _ _ _ hr
    have hp := pos_in h (show 0 < l.length by omega)
    simp only
    split
    · exact .inr ⟨7, _, rfl, by decide, hp.1, hp.2⟩
    · split
      · exact .inr ⟨2, _, rfl, by decide, hp.1, hp.2⟩
      · exact .inl ⟨x, tt, rfl, hg.2.2.2, hm, by omega, by omega, by omega, hg.2.1⟩
theorem right_of {e : Ex} (ho : e.ok) (hm : e.may) (hd : e.deep ≤ 12) (hl : e.flat.length ≤ 40) : rightE e.flat = true ∧ showE e.flat = e.show ∧ depthE e.flat = e.deep := by
  have hr : rightE e.flat = true := by
    rw [rightE_flat e ho]
    have : e.flat.all mayE = true := List.all_eq_true.2 hm
    rw [this, decide_eq_true hl, decide_eq_true hd]; rfl
  exact ⟨hr, by unfold showE; rw [if_pos hr, treeE_flat e ho], by unfold depthE; rw [if_pos hr, treeE_flat e ho]⟩
/-- in an expression there stands one at each node; it is less deep, if it is not the whole -/
theorem Ex.part : ∀ (e : Ex) (k : Nat), k < e.flat.length → ∃ s : Ex, AtE e.flat k s ∧ (e.ok → s.ok) ∧ (k = 0 → s = e) ∧ (0 < k → s.deep < e.deep)
  | .leaf x, k, hk => by
    obtain rfl : k = 0 := by simp [Ex.flat] at hk; omega
    exact ⟨.leaf x, AtE.whole _, fun h => h, fun _ => rfl, fun h => absurd h (by omega)⟩
  | .one x a, 0, hk => ⟨.one x a, AtE.whole _, fun h => h, fun _ => rfl, fun h => absurd h (by omega)⟩
  | .one x a, k + 1, hk => by
    obtain ⟨s, ⟨pre, post, h1, h2⟩, h3, h4, h5⟩ := Ex.part a k (by simp [Ex.flat] at hk; omega)
    refine ⟨s, ⟨x :: pre, post, by simp [Ex.flat, h1], by simp [h2]⟩, fun h => h3 h.2, fun h => absurd h (by omega), fun _ => ?_⟩
    show s.deep < a.deep + 1
    by_cases h0 : k = 0
    · rw [h4 h0]; omega
    · have := h5 (by omega); omega
  | .two x a b, 0, hk => ⟨.two x a b, AtE.whole _, fun h => h, fun _ => rfl, fun h => absurd h (by omega)⟩
  | .two x a b, k + 1, hk => by
    simp only [Ex.flat, List.length_cons, List.length_append] at hk
    by_cases hka : k < a.flat.length
    · obtain ⟨s, ⟨pre, post, h1, h2⟩, h3, h4, h5⟩ := Ex.part a k hka
      refine ⟨s, ⟨x :: pre, post ++ b.flat, by simp [Ex.flat, h1], by simp [h2]⟩, fun h => h3 h.2.1, fun h => absurd h (by omega), fun _ => ?_⟩
      show s.deep < max a.deep b.deep + 1
      by_cases h0 : k = 0
      · rw [h4 h0]; omega
      · have := h5 (by omega); omega
    · obtain ⟨s, ⟨pre, post, h1, h2⟩, h3, h4, h5⟩ := Ex.part b (k - a.flat.length) (by omega)
      refine ⟨s, ⟨x :: (a.flat ++ pre), post, by simp [Ex.flat, h1], by simp [h2]; omega⟩, fun h => h3 h.2.2, fun h => absurd h (by omega), fun _ => ?_⟩
      show s.deep < max a.deep b.deep + 1
      by_cases h0 : k - a.flat.length = 0
      · rw [h4 h0]; omega
      · have := h5 (by omega); omega
end Go.Proofs.YtahdfglelhdcnaaDoor

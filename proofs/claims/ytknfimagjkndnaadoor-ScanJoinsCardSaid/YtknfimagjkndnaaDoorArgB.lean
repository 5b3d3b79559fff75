/- Arguments that are rows of nodes, of tokens: as they lie in memory. -/
import Derived.Test.YtknfimagjkndnaaDoorEnvA
import Derived.Deep.Slices
import Derived.Deep.Fields
import Derived.ChangeSame
namespace Go.Proofs.YtknfimagjkndnaaDoor
open Go Go.ChangeShapes Go.WideShapes Go.Deep Go.RowKit
set_option linter.unusedVariables false
section
variable {H : Type} {enc : TypeId × Value → H} {P : Program} {w : World} {base : Nat} {spare : Nat → Bool} {held : Bool}
theorem open_fields {t e : TypeId} {fs : Array Field} {fuel : Nat} {cs : List Value} {x : DataW H × List MemPlace} (ht : P.underlying t = some (.slice e)) (he : P.underlying e = some (.struct fs))
    (hone : oneCellFields P fs = true) (hC : P.cellsOf e = fs.size) (h : DataW.trod enc P w base spare held fuel t cs = some x) :
    (cs = [.slice none 0 0]) ∨
    ∃ (a : Addr) (len cap m : Nat), cs = [.slice (some a) len cap] ∧ len ≤ cap ∧ cap ≤ maxLen ∧ m = (if spare a.block then cap else len) ∧
      ∀ i, i < m → ∀ (j : Nat) (f : Field), fs[j]? = some f → ∃ (v : Value) (y : DataW H × List MemPlace) (n : Nat), w.cell? (a.add (i * fs.size + j)) = some v ∧ DataW.trod enc P w base spare held n f.type [v] = some y := by
  rcases open_slice ht h with h0 | ⟨a, len, cap, m, n, D, Pl, hcs, hb, hl, hm, hmm, hx, hi⟩
  · exact .inl h0.1
  · refine .inr ⟨a, len, cap, m, hcs, hl, hm, hmm, fun i him j f hj => ?_⟩
    obtain ⟨cs', hc, ht'⟩ := hi i him
    rw [hC] at hc
    obtain ⟨ys, n', hn', hy, hlen, hyl, hf⟩ := DataW.trod_struct he ht'
    obtain ⟨_, hcl, hat⟩ := World.cells?_some hc
    obtain ⟨ho, hk⟩ := hone_of hone j f hj
    have hjl : j < fs.size := (Array.getElem?_eq_some_iff.1 hj).1
    have hcell := hat j hjl
    have hv : cs'[j]? = some (cs'[j]'(by omega)) := List.getElem?_eq_getElem (by omega)
    have h1 := hf j f hj
    rw [ho, hk] at h1
    have hone' : (cs'.drop j).take 1 = [cs'[j]'(by omega)] := by
      rw [List.drop_eq_getElem_cons (by omega)]
      rfl
    rw [hone'] at h1
    have hys : ys[j]? = some (ys[j]'(by omega)) := List.getElem?_eq_getElem (by omega)
    refine ⟨_, _, _, ?_, h1.trans hys⟩
    rw [← Go.Deep.add_add, hcell, hv]
end
theorem add_none (b off j : Nat) : (⟨b, off, none⟩ : Addr).add j = ⟨b, off + j, none⟩ := by
  unfold Addr.add
  split
  · rename_i h0; subst h0; rfl
  · rfl
/-- rows of four cells each, of whatever they are -/
theorem sl_of_rows {α : Type} (f : α → List Value) (hf : ∀ x, (f x).length = 4) {W : World} {a : Addr} {len cap : Nat} (hc : len ≤ cap)
    (h : ∀ i, i < len → ∃ x : α, ∀ k u, (f x)[k]? = some u → W.cell? (a.add (i * 4 + k)) = some u) (hne : ∀ x, ∃ u, (f x)[0]? = some u) :
    ∃ l : List α, l.length = len ∧ SlN W (.slice (some a) len cap) 4 l.length (l.flatMap f) ∧ ∀ x ∈ l, ∃ i, i < len ∧ ∀ k u, (f x)[k]? = some u → W.cell? (a.add (i * 4 + k)) = some u := by
  have hex : ∀ n, n ≤ len → ∃ l : List α, l.length = n ∧ ∀ i (hi : i < l.length), ∀ k u, (f l[i])[k]? = some u → W.cell? (a.add (i * 4 + k)) = some u := by
    intro n
    induction n with
    | zero => exact fun _ => ⟨[], rfl, fun i hi => absurd hi (by simp)⟩
    | succ n ih =>
      intro hn
      obtain ⟨l, hl, hg⟩ := ih (by omega)
      obtain ⟨x, hx⟩ := h n (by omega)
      refine ⟨l ++ [x], by simp [hl], fun i hi k u hk => ?_⟩
      by_cases hil : i < l.length
      · rw [List.getElem_append_left hil] at hk
        exact hg i hil k u hk
      · have : i = n := by simp at hi; omega
        subst this
        rw [List.getElem_append_right (by omega)] at hk
        simp only [hl, Nat.sub_self, List.getElem_cons_zero] at hk
        exact hx k u hk
  obtain ⟨l, hl, hg⟩ := hex len (Nat.le_refl _)
  refine ⟨l, hl, ⟨flat_length f 4 hf l, some a, cap, by rw [hl], by omega, fun h0 => ?_⟩, fun x hx => ?_⟩
  · obtain ⟨b, off, spot⟩ := a
    obtain ⟨u0, hu0⟩ := hne (l[0]'h0)
    have hc0 := hg 0 h0 0 u0 hu0
    have hspot : spot = none := by simpa [Addr.add] using World.cell?_spot hc0
    subst hspot
    refine ⟨b, off, rfl, ?_, fun j u hj => ?_⟩
    · rw [add_none] at hc0
      exact World.block_lt_of_cell? W _ hc0
    · have hjl : j < (l.flatMap f).length := (List.getElem?_eq_some_iff.1 hj).1
      rw [flat_length f 4 hf] at hjl
      have e : j / 4 * 4 + j % 4 = j := by omega
      have := flat_getElem f 4 hf l (j / 4) (j % 4) (by omega) (by omega)
      rw [e] at this
      rw [this] at hj
      have := hg (j / 4) (by omega) (j % 4) u hj
      rw [e, add_none] at this
      exact this
  · obtain ⟨i, hi, rfl⟩ := List.mem_iff_getElem.1 hx
    exact ⟨i, by omega, hg i hi⟩
theorem maxLen_eq : maxLen = 9223372036854775807 := rfl
theorem fields_tok : ∃ f0 f1 f2 f3 : Field, Tryd.prog.underlying 31 = some (.struct #[f0, f1, f2, f3]) ∧ f0.type = 3 ∧ f1.type = 9 ∧ f2.type = 3 ∧ f3.type = 3 := ⟨_, _, _, _, Tryd.underlying31, rfl, rfl, rfl, rfl⟩
theorem one_tok : ∀ fs, Tryd.prog.underlying 31 = some (.struct fs) → oneCellFields Tryd.prog fs = true ∧ Tryd.prog.cellsOf 31 = fs.size := fun fs h => by
  rw [Tryd.underlying31] at h
  cases h
  exact ⟨by kernel_rfl, by kernel_rfl⟩
set_option maxRecDepth 100000 in
theorem open_toks {H : Type} {enc : TypeId × Value → H} {W : World} {r : Reach} {b0 : Nat} {v : Value} {d : DataW H} {p : List MemPlace} (hv : Value.okWide Tryd.prog W r b0 22 v) (h : DataW.Trod enc Tryd.prog W 0 (fun _ => true) true 22 v d p) :
    ∃ l : List Tok, Toks W v l ∧ l.length ≤ 9223372036854775807 ∧ ∀ x ∈ l, x.text.length ≤ 9223372036854775807 := by
  obtain ⟨f0, f1, f2, f3, hs, t0, t1, t2, t3⟩ := fields_tok
  obtain ⟨hone, hC⟩ := one_tok _ hs
  obtain ⟨a0, len, cap, rfl⟩ := okWide_slice Tryd.underlying22 hv
  obtain ⟨fuel, hf⟩ := h
  rcases open_fields Tryd.underlying22 hs hone hC hf with h0 | ⟨a, len', cap', m, hcs, hl, hm, hmm, hi⟩
  · simp only [Value.cells, List.cons.injEq, Value.slice.injEq, and_true] at h0
    obtain ⟨rfl, rfl, rfl⟩ := h0
    exact ⟨[], Sl.nil _ _ _, by simp, by simp⟩
  · simp only [Value.cells, List.cons.injEq, Value.slice.injEq, and_true] at hcs
    obtain ⟨rfl, rfl, rfl⟩ := hcs
    simp only [if_true] at hmm
    have hrow : ∀ i, i < len → ∃ x : Tok, x.text.length ≤ 9223372036854775807 ∧ ∀ k u, (Tok.cells x)[k]? = some u → W.cell? (a.add (i * 4 + k)) = some u := by
      intro i hil
      obtain ⟨v0, y0, n0, c0, e0⟩ := hi i (by omega) 0 f0 rfl
      obtain ⟨v1, y1, n1, c1, e1⟩ := hi i (by omega) 1 f1 rfl
      obtain ⟨v2, y2, n2, c2, e2⟩ := hi i (by omega) 2 f2 rfl
      obtain ⟨v3, y3, n3, c3, e3⟩ := hi i (by omega) 3 f3 rfl
      rw [t0] at e0; rw [t1] at e1; rw [t2] at e2; rw [t3] at e3
      obtain ⟨z0, q0, _, _⟩ := DataW.trod_int Tryd.underlying3 e0
      obtain ⟨z1, q1, _, hz1⟩ := DataW.trod_string Tryd.underlying9 e1
      obtain ⟨z2, q2, _, _⟩ := DataW.trod_int Tryd.underlying3 e2
      obtain ⟨z3, q3, _, _⟩ := DataW.trod_int Tryd.underlying3 e3
      cases q0; cases q1; cases q2; cases q3
      refine ⟨⟨z0, z1.data.toList, z2, z3⟩, ?_, fun k u hk => ?_⟩
      · have hdl : z1.data.toList.length = z1.size := by rw [Array.length_toList]; rfl
        show z1.data.toList.length ≤ _
        rw [hdl]; rw [maxLen_eq] at hz1; omega
      · have hs2 : str z1.data.toList = z1 := str_of z1
        match k, hk with
        | 0, hk => cases hk; exact c0
        | 1, hk => cases hk; rw [hs2]; exact c1
        | 2, hk => cases hk; exact c2
        | 3, hk => cases hk; exact c3
        | k + 4, hk => cases hk
    obtain ⟨l, hll, hsl, hall⟩ := sl_of_rows (α := { x : Tok // x.text.length ≤ 9223372036854775807 }) (fun x => Tok.cells x.val) (fun x => rfl) hl (fun i hil => by
      obtain ⟨x, hx1, hx2⟩ := hrow i hil
      exact ⟨⟨x, hx1⟩, hx2⟩) (fun x => ⟨_, rfl⟩)
    refine ⟨l.map (·.val), ?_, by rw [List.length_map, hll]; rw [maxLen_eq] at hm; omega, fun x hx => ?_⟩
    · show SlN W _ 4 (l.map (·.val)).length ((l.map (·.val)).flatMap Tok.cells)
      rw [List.length_map, List.flatMap_map]
      exact hsl
    · obtain ⟨y, _, rfl⟩ := List.mem_map.1 hx
      exact y.2
end Go.Proofs.YtknfimagjkndnaaDoor

/- Arguments that are rows of structs, of four cells each: as they lie in memory. -/
import Derived.Test.YtcgcndmlgfnjbaaGreatDoorEnvA
import Derived.Deep.Slices
import Derived.Deep.Fields
import Derived.ChangeSame
import Derived.ChangeSlices
namespace Go.Proofs.YtcgcndmlgfnjbaaGreatDoor
open Go Go.ChangeShapes Go.WideShapes Go.Deep Go.RowKit
set_option linter.unusedVariables false
section
variable {H : Type} {enc : TypeId × Value → H} {P : Program} {w : World} {base : Nat} {spare : Nat → Bool} {held : Bool}
theorem open_fields {t e : TypeId} {fs : Array Field} {fuel : Nat} {cs : List Value} {x : DataW H × List MemPlace} (ht : P.underlying t = some (.slice e)) (he : P.underlying e = some (.struct fs))
    (hone : oneCellFields P fs = true) (hC : P.cellsOf e = fs.size) (h : DataW.trod enc P w base spare held fuel t cs = some x) :
    (cs = [.slice none 0 0]) ∨
    ∃ (a : Addr) (len cap m : Nat), cs = [.slice (some a) len cap] ∧ len ≤ cap ∧ cap ≤ maxLen ∧ m = (if spare a.block then cap else len) ∧
      ∀ i, i < m → ∀ (j : Nat) (f : Field), fs[j]? = some f → ∃ (v : Value) (y : DataW H × List MemPlace) (n : Nat), w.cell? (a.add (i * fs.size + j)) = some v ∧ DataW.trod enc P w base spare held n f.type [v] = some y := by
  rcases open_slice ht h with h0 | ⟨a, len, cap, m, n, D, Pl, hcs, hb, hl, hm, hmm, hx, hi⟩
  · exact .inl h0.1
  · refine .inr ⟨a, len, cap, m, hcs, hl, hm, hmm, fun i him j f hj => ?_⟩
    obtain ⟨cs', hc, ht'⟩ := hi i him
    rw [hC] at hc
    obtain ⟨ys, n', hn', hy, hlen, hyl, hf⟩ := DataW.trod_struct he ht'
    obtain ⟨_, hcl, hat⟩ := World.cells?_some hc
    obtain ⟨ho, hk⟩ := hone_of hone j f hj
    have hjl : j < fs.size := (Array.getElem?_eq_some_iff.1 hj).1
    have hcell := hat j hjl
    have hv : cs'[j]? = some (cs'[j]'(by omega)) := List.getElem?_eq_getElem (by omega)
    have h1 := hf j f hj
    rw [ho, hk] at h1
    have hone' : (cs'.drop j).take 1 = [cs'[j]'(by omega)] := by
      rw [List.drop_eq_getElem_cons (by omega)]
      rfl
    rw [hone'] at h1
    have hys : ys[j]? = some (ys[j]'(by omega)) := List.getElem?_eq_getElem (by omega)
    refine ⟨_, _, _, ?_, h1.trans hys⟩
    rw [← Go.Deep.add_add, hcell, hv]
end
theorem add_none (b off j : Nat) : (⟨b, off, none⟩ : Addr).add j = ⟨b, off + j, none⟩ := by
  unfold Addr.add
  split
  · rename_i h0; subst h0; rfl
  · rfl
/-- rows of four cells each, of whatever they are -/
theorem sl_of_rows {α : Type} (f : α → List Value) (hf : ∀ x, (f x).length = 4) {W : World} {a : Addr} {len cap : Nat} (hc : len ≤ cap)
    (h : ∀ i, i < len → ∃ x : α, ∀ k u, (f x)[k]? = some u → W.cell? (a.add (i * 4 + k)) = some u) (hne : ∀ x, ∃ u, (f x)[0]? = some u) :
    ∃ l : List α, l.length = len ∧ SlN W (.slice (some a) len cap) 4 l.length (l.flatMap f) ∧ ∀ x ∈ l, ∃ i, i < len ∧ ∀ k u, (f x)[k]? = some u → W.cell? (a.add (i * 4 + k)) = some u := by
  have hex : ∀ n, n ≤ len → ∃ l : List α, l.length = n ∧ ∀ i (hi : i < l.length), ∀ k u, (f l[i])[k]? = some u → W.cell? (a.add (i * 4 + k)) = some u := by
    intro n
    induction n with
    | zero => exact fun _ => ⟨[], rfl, fun i hi => absurd hi (by simp)⟩
    | succ n ih =>
      intro hn
      obtain ⟨l, hl, hg⟩ := ih (by omega)
      obtain ⟨x, hx⟩ := h n (by omega)
      refine ⟨l ++ [x], by simp [hl], fun i hi k u hk => ?_⟩
      by_cases hil : i < l.length
      · rw [List.getElem_append_left hil] at hk
        exact hg i hil k u hk
      · have : i = n := by simp at hi; omega
        subst this
        rw [List.getElem_append_right (by omega)] at hk
        simp only [hl, Nat.sub_self, List.getElem_cons_zero] at hk
        exact hx k u hk
  obtain ⟨l, hl, hg⟩ := hex len (Nat.le_refl _)
  refine ⟨l, hl, ⟨flat_length f 4 hf l, some a, cap, by rw [hl], by omega, fun h0 => ?_⟩, fun x hx => ?_⟩
  · obtain ⟨b, off, spot⟩ := a
    obtain ⟨u0, hu0⟩ := hne (l[0]'h0)
    have hc0 := hg 0 h0 0 u0 hu0
    have hspot : spot = none := by simpa [Addr.add] using World.cell?_spot hc0
    subst hspot
    refine ⟨b, off, rfl, ?_, fun j u hj => ?_⟩
    · rw [add_none] at hc0
      exact World.block_lt_of_cell? W _ hc0
    · have hjl : j < (l.flatMap f).length := (List.getElem?_eq_some_iff.1 hj).1
      rw [flat_length f 4 hf] at hjl
      have e : j / 4 * 4 + j % 4 = j := by omega
      have := flat_getElem f 4 hf l (j / 4) (j % 4) (by omega) (by omega)
      rw [e] at this
      rw [this] at hj
      have := hg (j / 4) (by omega) (j % 4) u hj
      rw [e, add_none] at this
      exact this
  · obtain ⟨i, hi, rfl⟩ := List.mem_iff_getElem.1 hx
    exact ⟨i, by omega, hg i hi⟩
theorem maxLen_eq : maxLen = 9223372036854775807 := rfl
end Go.Proofs.YtcgcndmlgfnjbaaGreatDoor

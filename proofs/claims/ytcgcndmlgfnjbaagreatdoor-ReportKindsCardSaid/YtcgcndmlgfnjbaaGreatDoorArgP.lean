/- Arguments that are rows of picks: as they lie in memory. -/
import Derived.Test.YtcgcndmlgfnjbaaGreatDoorArgO
import Derived.Test.YtcgcndmlgfnjbaaGreatDoorSchMem
namespace Go.Proofs.YtcgcndmlgfnjbaaGreatDoor
open Go Go.ChangeShapes Go.WideShapes Go.Deep Go.RowKit
set_option linter.unusedVariables false
theorem open_zs {H : Type} {enc : TypeId × Value → H} {W : World} {fuel : Nat} {v : Value} {x : DataW H × List MemPlace} (h : DataW.trod enc Tryz.prog W 0 (fun _ => true) true fuel 23 [v] = some x) :
    ∃ l : List Int, Zs W v l ∧ l.length ≤ 9223372036854775807 := by
  rcases open_ints Tryz.underlying23 Tryz.underlying3 (by kernel_rfl) h with h0 | ⟨a, len, cap, zs, hcs, hb, hl, hm, hz, hx, hat, hwf⟩
  · obtain ⟨h0, _⟩ := h0
    simp only [List.cons.injEq, and_true] at h0
    subst h0
    exact ⟨[], zs_nil _, by simp⟩
  · simp only [List.cons.injEq, and_true] at hcs
    subst hcs
    simp only [if_true] at hz
    have hll : (zs.take len).length = len := by rw [List.length_take]; omega
    refine ⟨zs.take len, ?_, by rw [hll]; rw [maxLen_eq] at hm; omega⟩
    show SlN W (.slice (some a) len cap) 1 (zs.take len).length _
    rw [hll]
    refine ⟨by rw [flat_length zCell 1 (fun _ => rfl), hll], some a, cap, rfl, hl, fun h0 => ?_⟩
    obtain ⟨b, off, spot⟩ := a
    have hc0 := hat 0 (by omega)
    have hspot : spot = none := by simpa [Addr.add] using World.cell?_spot hc0
    subst hspot
    refine ⟨b, off, rfl, ?_, fun j u hj => ?_⟩
    · rw [add_none] at hc0
      exact World.block_lt_of_cell? W _ hc0
    · have hjl : j < ((zs.take len).flatMap zCell).length := (List.getElem?_eq_some_iff.1 hj).1
      rw [flat_length zCell 1 (fun _ => rfl), hll] at hjl
      have := flat_getElem zCell 1 (fun _ => rfl) (zs.take len) j 0 (by omega) (by omega)
      rw [show j * 1 + 0 = j by omega] at this
      rw [this] at hj
      have h1 := hat j (by omega)
      rw [add_none] at h1
      rw [h1, ← hj]
      simp [zCell, List.getD_eq_getElem?_getD, List.getElem?_eq_getElem (show j < zs.length by omega)]
theorem fields_pick : ∃ f0 f1 f2 f3 : Field, Tryz.prog.underlying 48 = some (.struct #[f0, f1, f2, f3]) ∧ f0.type = 3 ∧ f1.type = 3 ∧ f2.type = 3 ∧ f3.type = 23 := ⟨_, _, _, _, Tryz.underlying48, rfl, rfl, rfl, rfl⟩
theorem one_pick : ∀ fs, Tryz.prog.underlying 48 = some (.struct fs) → oneCellFields Tryz.prog fs = true ∧ Tryz.prog.cellsOf 48 = fs.size := fun fs h => by
  rw [Tryz.underlying48] at h
  cases h
  exact ⟨by kernel_rfl, by kernel_rfl⟩
set_option maxRecDepth 100000 in
theorem open_picksF {H : Type} {enc : TypeId × Value → H} {W : World} {fuel : Nat} {a0 : Option Addr} {len cap : Nat} {x : DataW H × List MemPlace} (hf : DataW.trod enc Tryz.prog W 0 (fun _ => true) true fuel 26 [.slice a0 len cap] = some x) :
    ∃ l : List Pk, Pks W (.slice a0 len cap) l ∧ l.length ≤ 9223372036854775807 ∧ ∀ x ∈ l, x.cut.length ≤ 9223372036854775807 := by
  obtain ⟨f0, f1, f2, f3, hs, t0, t1, t2, t3⟩ := fields_pick
  obtain ⟨hone, hC⟩ := one_pick _ hs
  rcases open_fields Tryz.underlying26 hs hone hC hf with h0 | ⟨a, len', cap', m, hcs, hl, hm, hmm, hi⟩
  · simp only [List.cons.injEq, Value.slice.injEq, and_true] at h0
    obtain ⟨rfl, rfl, rfl⟩ := h0
    exact ⟨[], pks_nil _, by simp, by simp⟩
  · simp only [List.cons.injEq, Value.slice.injEq, and_true] at hcs
    obtain ⟨rfl, rfl, rfl⟩ := hcs
    simp only [if_true] at hmm
    have hrow : ∀ i, i < len → ∃ x : Pv, (Zs W x.v x.p.cut ∧ x.p.cut.length ≤ 9223372036854775807) ∧ ∀ k u, (Pv.cells x)[k]? = some u → W.cell? (a.add (i * 4 + k)) = some u := by
      intro i hil
      obtain ⟨v0, y0, n0, c0, e0⟩ := hi i (by omega) 0 f0 rfl
      obtain ⟨v1, y1, n1, c1, e1⟩ := hi i (by omega) 1 f1 rfl
      obtain ⟨v2, y2, n2, c2, e2⟩ := hi i (by omega) 2 f2 rfl
      obtain ⟨v3, y3, n3, c3, e3⟩ := hi i (by omega) 3 f3 rfl
      rw [t0] at e0; rw [t1] at e1; rw [t2] at e2; rw [t3] at e3
      obtain ⟨z0, q0, _, _⟩ := DataW.trod_int Tryz.underlying3 e0
      obtain ⟨z1, q1, _, _⟩ := DataW.trod_int Tryz.underlying3 e1
      obtain ⟨z2, q2, _, _⟩ := DataW.trod_int Tryz.underlying3 e2
      obtain ⟨z3, q3, hz3⟩ := open_zs e3
      cases q0; cases q1; cases q2
      refine ⟨⟨⟨z0, z1, z2, z3⟩, v3⟩, ⟨q3, hz3⟩, fun k u hk => ?_⟩
      match k, hk with
      | 0, hk => cases hk; exact c0
      | 1, hk => cases hk; exact c1
      | 2, hk => cases hk; exact c2
      | 3, hk => cases hk; exact c3
      | k + 4, hk => cases hk
    obtain ⟨l, hll, hsl, hall⟩ := sl_of_rows (α := { x : Pv // Zs W x.v x.p.cut ∧ x.p.cut.length ≤ 9223372036854775807 }) (fun x => Pv.cells x.val) (fun x => rfl) hl (fun i hil => by
      obtain ⟨x, hx1, hx2⟩ := hrow i hil
      exact ⟨⟨x, hx1⟩, hx2⟩) (fun x => ⟨_, rfl⟩)
    refine ⟨(l.map (·.val)).map (·.p), ⟨l.map (·.val), rfl, ?_, fun x hx => ?_⟩, by rw [List.length_map, List.length_map, hll]; rw [maxLen_eq] at hm; omega, fun x hx => ?_⟩
    · show SlN W _ 4 (l.map (·.val)).length ((l.map (·.val)).flatMap Pv.cells)
      rw [List.length_map, List.flatMap_map]
      exact hsl
    · obtain ⟨y, _, rfl⟩ := List.mem_map.1 hx
      exact y.2.1
    · obtain ⟨y, hy, rfl⟩ := List.mem_map.1 hx
      obtain ⟨z, _, rfl⟩ := List.mem_map.1 hy
      exact z.2.2
end Go.Proofs.YtcgcndmlgfnjbaaGreatDoor

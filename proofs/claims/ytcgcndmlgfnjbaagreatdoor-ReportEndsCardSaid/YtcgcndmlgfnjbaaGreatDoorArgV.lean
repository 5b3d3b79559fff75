/- Arguments that are verdicts, or results: as they lie in memory. -/
import Derived.Test.YtcgcndmlgfnjbaaGreatDoorArgP
import Derived.Test.YtcgcndmlgfnjbaaGreatDoorRepR1
namespace Go.Proofs.YtcgcndmlgfnjbaaGreatDoor
open Go Go.ChangeShapes Go.WideShapes Go.Deep Go.RowKit
set_option linter.unusedVariables false
theorem wfI64 {x : Int} (h : (Lit.int .i64 x).wf = true) : I64 x := bounds_i64 h
theorem open_zsI {H : Type} {enc : TypeId × Value → H} {W : World} {fuel : Nat} {v : Value} {x : DataW H × List MemPlace} (h : DataW.trod enc Tryz.prog W 0 (fun _ => true) true fuel 23 [v] = some x) :
    ∃ l : List Int, Zs W v l ∧ l.length ≤ 9223372036854775807 ∧ ∀ n ∈ l, I64 n := by
  rcases open_ints Tryz.underlying23 Tryz.underlying3 (by kernel_rfl) h with h0 | ⟨a, len, cap, zs, hcs, hb, hl, hm, hz, hx, hat, hwf⟩
  · obtain ⟨h0, _⟩ := h0
    simp only [List.cons.injEq, and_true] at h0
    subst h0
    exact ⟨[], zs_nil _, by simp, by simp⟩
  · simp only [List.cons.injEq, and_true] at hcs
    subst hcs
    simp only [if_true] at hz
    have hll : (zs.take len).length = len := by rw [List.length_take]; omega
    refine ⟨zs.take len, ?_, by rw [hll]; rw [maxLen_eq] at hm; omega, fun n hn => wfI64 (hwf n (List.mem_of_mem_take hn))⟩
    show SlN W (.slice (some a) len cap) 1 (zs.take len).length _
    rw [hll]
    refine ⟨by rw [flat_length zCell 1 (fun _ => rfl), hll], some a, cap, rfl, hl, fun h0 => ?_⟩
    obtain ⟨b, off, spot⟩ := a
    have hc0 := hat 0 (by omega)
    have hspot : spot = none := by simpa [Addr.add] using World.cell?_spot hc0
    subst hspot
    refine ⟨b, off, rfl, ?_, fun j u hj => ?_⟩
    · rw [add_none] at hc0
      exact World.block_lt_of_cell? W _ hc0
    · have hjl : j < ((zs.take len).flatMap zCell).length := (List.getElem?_eq_some_iff.1 hj).1
      rw [flat_length zCell 1 (fun _ => rfl), hll] at hjl
      have := flat_getElem zCell 1 (fun _ => rfl) (zs.take len) j 0 (by omega) (by omega)
      rw [show j * 1 + 0 = j by omega] at this
      rw [this] at hj
      have h1 := hat j (by omega)
      rw [add_none] at h1
      rw [h1, ← hj]
      simp [zCell, List.getD_eq_getElem?_getD, List.getElem?_eq_getElem (show j < zs.length by omega)]
/-- a field of a struct that is trodden -/
theorem field_at {H : Type} {enc : TypeId × Value → H} {P : Program} {w : World} {base : Nat} {spare : Nat → Bool} {held : Bool} {t : TypeId} {fs : Array Field} {fuel : Nat} {cs : List Value} {x : DataW H × List MemPlace} (ht : P.underlying t = some (.struct fs)) (h : DataW.trod enc P w base spare held fuel t cs = some x) (j : Nat) (f : Field) (hj : fs[j]? = some f) (o n : Nat) (s : TypeId) (ho : f.offset = o) (hs : f.type = s) (hn : P.cellsOf s = n) :
    ∃ y m, DataW.trod enc P w base spare held m s ((cs.drop o).take n) = some y := by
  subst ho hs hn
  obtain ⟨xs, m, _, _, _, hlen, hf⟩ := DataW.trod_struct ht h
  have hjl := (Array.getElem?_eq_some_iff.1 hj).1
  exact ⟨xs[j]'(by omega), m, (hf j f hj).trans (List.getElem?_eq_getElem _)⟩
theorem fields_verdict : ∃ f0 f1 f2 f3 f4 f5 f6 : Field, Tryz.prog.underlying 28 = some (.struct #[f0, f1, f2, f3, f4, f5, f6]) ∧ (f0.type = 3 ∧ f0.offset = 0) ∧ (f1.type = 22 ∧ f1.offset = 1) ∧ (f2.type = 3 ∧ f2.offset = 2) ∧ (f3.type = 3 ∧ f3.offset = 3) ∧ (f4.type = 3 ∧ f4.offset = 4) ∧ (f5.type = 25 ∧ f5.offset = 5) ∧ (f6.type = 26 ∧ f6.offset = 9) := ⟨_, _, _, _, _, _, _, Tryz.underlying28, ⟨rfl, rfl⟩, ⟨rfl, rfl⟩, ⟨rfl, rfl⟩, ⟨rfl, rfl⟩, ⟨rfl, rfl⟩, ⟨rfl, rfl⟩, ⟨rfl, rfl⟩⟩
theorem fields_end : ∃ f0 f1 f2 f3 : Field, Tryz.prog.underlying 25 = some (.struct #[f0, f1, f2, f3]) ∧ (f0.type = 3 ∧ f0.offset = 0) ∧ (f1.type = 3 ∧ f1.offset = 1) ∧ (f2.type = 3 ∧ f2.offset = 2) ∧ (f3.type = 23 ∧ f3.offset = 3) := ⟨_, _, _, _, Tryz.underlying25, ⟨rfl, rfl⟩, ⟨rfl, rfl⟩, ⟨rfl, rfl⟩, ⟨rfl, rfl⟩⟩
theorem fields_result : ∃ f0 f1 f2 f3 : Field, Tryz.prog.underlying 40 = some (.struct #[f0, f1, f2, f3]) ∧ (f0.type = 38 ∧ f0.offset = 0) ∧ (f1.type = 3 ∧ f1.offset = 1) ∧ (f2.type = 25 ∧ f2.offset = 2) ∧ (f3.type = 26 ∧ f3.offset = 6) := ⟨_, _, _, _, Tryz.underlying40, ⟨rfl, rfl⟩, ⟨rfl, rfl⟩, ⟨rfl, rfl⟩, ⟨rfl, rfl⟩⟩
theorem one_end : ∀ fs, Tryz.prog.underlying 25 = some (.struct fs) → oneCellFields Tryz.prog fs = true ∧ Tryz.prog.cellsOf 25 = fs.size := fun fs h => by
  rw [Tryz.underlying25] at h
  cases h
  exact ⟨by kernel_rfl, by kernel_rfl⟩
/-- picks, trodden as a row of cells -/
theorem open_picksT {H : Type} {enc : TypeId × Value → H} {W : World} {fuel : Nat} {v : Value} {x : DataW H × List MemPlace} (hv : ∃ a n c, v = .slice a n c) (h : DataW.trod enc Tryz.prog W 0 (fun _ => true) true fuel 26 [v] = some x) :
    ∃ l : List Pk, Pks W v l ∧ l.length ≤ 9223372036854775807 ∧ ∀ x ∈ l, x.cut.length ≤ 9223372036854775807 := by
  obtain ⟨a, n, c, rfl⟩ := hv
  exact open_picksF h
theorem slice_of {H : Type} {enc : TypeId × Value → H} {P : Program} {W : World} {base : Nat} {spare : Nat → Bool} {held : Bool} {t e : TypeId} {fuel : Nat} {v : Value} {x : DataW H × List MemPlace} (ht : P.underlying t = some (.slice e)) (h : DataW.trod enc P W base spare held fuel t [v] = some x) : ∃ a n c, v = .slice a n c := by
  rcases DataW.trod_slice ht h with h0 | ⟨a, len, cap, elems, rest, n, _, hcs, _⟩
  · obtain ⟨h0, _⟩ := h0
    simp only [List.cons.injEq, and_true] at h0
    exact ⟨_, _, _, h0⟩
  · simp only [List.cons.injEq, and_true] at hcs
    exact ⟨_, _, _, hcs⟩
set_option maxRecDepth 100000 in
theorem open_endsF {H : Type} {enc : TypeId × Value → H} {W : World} {fuel : Nat} {a0 : Option Addr} {len cap : Nat} {x : DataW H × List MemPlace} (hf : DataW.trod enc Tryz.prog W 0 (fun _ => true) true fuel 38 [.slice a0 len cap] = some x) :
    ∃ l : List Ev, Ends W (.slice a0 len cap) l ∧ l.length ≤ 9223372036854775807 ∧ ∀ x ∈ l, I64 x.k := by
  obtain ⟨f0, f1, f2, f3, hs, ⟨t0, _⟩, ⟨t1, _⟩, ⟨t2, _⟩, ⟨t3, _⟩⟩ := fields_end
  obtain ⟨hone, hC⟩ := one_end _ hs
  rcases open_fields Tryz.underlying38 hs hone hC hf with h0 | ⟨a, len', cap', m, hcs, hl, hm, hmm, hi⟩
  · simp only [List.cons.injEq, Value.slice.injEq, and_true] at h0
    obtain ⟨rfl, rfl, rfl⟩ := h0
    exact ⟨[], ⟨rfl, none, 0, rfl, Nat.le_refl _, fun h => absurd h (by simp)⟩, by simp, by simp⟩
  · simp only [List.cons.injEq, Value.slice.injEq, and_true] at hcs
    obtain ⟨rfl, rfl, rfl⟩ := hcs
    simp only [if_true] at hmm
    have hrow : ∀ i, i < len → ∃ x : Ev, I64 x.k ∧ ∀ k u, (Ev.cells x)[k]? = some u → W.cell? (a.add (i * 4 + k)) = some u := by
      intro i hil
      obtain ⟨v0, y0, n0, c0, e0⟩ := hi i (by omega) 0 f0 rfl
      obtain ⟨v1, y1, n1, c1, e1⟩ := hi i (by omega) 1 f1 rfl
      obtain ⟨v2, y2, n2, c2, e2⟩ := hi i (by omega) 2 f2 rfl
      obtain ⟨v3, y3, n3, c3, e3⟩ := hi i (by omega) 3 f3 rfl
      rw [t0] at e0; rw [t1] at e1; rw [t2] at e2; rw [t3] at e3
      obtain ⟨z0, q0, _, w0⟩ := DataW.trod_int Tryz.underlying3 e0
      obtain ⟨z1, q1, _, _⟩ := DataW.trod_int Tryz.underlying3 e1
      obtain ⟨z2, q2, _, _⟩ := DataW.trod_int Tryz.underlying3 e2
      obtain ⟨za, zn, zc, rfl⟩ := slice_of Tryz.underlying23 e3
      cases q0; cases q1; cases q2
      refine ⟨⟨z0, z1, z2, za, zn, zc⟩, wfI64 w0, fun k u hk => ?_⟩
      match k, hk with
      | 0, hk => cases hk; exact c0
      | 1, hk => cases hk; exact c1
      | 2, hk => cases hk; exact c2
      | 3, hk => cases hk; exact c3
      | k + 4, hk => cases hk
    obtain ⟨l, hll, hsl, hall⟩ := sl_of_rows (α := { x : Ev // I64 x.k }) (fun x => Ev.cells x.val) (fun x => rfl) hl (fun i hil => by
      obtain ⟨x, hx1, hx2⟩ := hrow i hil
      exact ⟨⟨x, hx1⟩, hx2⟩) (fun x => ⟨_, rfl⟩)
    refine ⟨l.map (·.val), ?_, by rw [List.length_map, hll]; rw [maxLen_eq] at hm; omega, fun x hx => ?_⟩
    · show SlN W _ 4 (l.map (·.val)).length ((l.map (·.val)).flatMap Ev.cells)
      rw [List.length_map, List.flatMap_map]
      exact hsl
    · obtain ⟨y, _, rfl⟩ := List.mem_map.1 hx
      exact y.2
set_option maxRecDepth 100000 in
theorem open_endF {H : Type} {enc : TypeId × Value → H} {W : World} {fuel : Nat} {c0 c1 c2 c3 : Value} {x : DataW H × List MemPlace} (hf : DataW.trod enc Tryz.prog W 0 (fun _ => true) true fuel 25 [c0, c1, c2, c3] = some x) :
    ∃ (e : En), c0 = .int .i64 e.kind ∧ c1 = .int .i64 e.what ∧ c2 = .int .i64 e.crashes ∧ Zs W c3 e.cells ∧ e.cells.length ≤ 9223372036854775807 ∧ (∀ n ∈ e.cells, I64 n) := by
  obtain ⟨f0, f1, f2, f3, hs, ⟨t0, o0⟩, ⟨t1, o1⟩, ⟨t2, o2⟩, ⟨t3, o3⟩⟩ := fields_end
  obtain ⟨y0, n0, e0⟩ := field_at hs hf 0 f0 rfl 0 1 _ o0 t0 (by kernel_rfl)
  obtain ⟨y1, n1, e1⟩ := field_at hs hf 1 f1 rfl 1 1 _ o1 t1 (by kernel_rfl)
  obtain ⟨y2, n2, e2⟩ := field_at hs hf 2 f2 rfl 2 1 _ o2 t2 (by kernel_rfl)
  obtain ⟨y3, n3, e3⟩ := field_at hs hf 3 f3 rfl 3 1 _ o3 t3 (by kernel_rfl)
  obtain ⟨z0, q0, _, _⟩ := DataW.trod_int Tryz.underlying3 e0
  obtain ⟨z1, q1, _, _⟩ := DataW.trod_int Tryz.underlying3 e1
  obtain ⟨z2, q2, _, _⟩ := DataW.trod_int Tryz.underlying3 e2
  obtain ⟨l, hl, hn, hi⟩ := open_zsI (v := c3) e3
  cases q0; cases q1; cases q2
  exact ⟨⟨z0, z1, z2, l⟩, rfl, rfl, rfl, hl, hn, hi⟩
set_option maxRecDepth 100000 in
theorem open_verdict {H : Type} {enc : TypeId × Value → H} {W : World} {r : Reach} {b0 : Nat} {v : Value} {d : DataW H} {p : List MemPlace} (hv : Value.okWide Tryz.prog W r b0 28 v) (h : DataW.Trod enc Tryz.prog W 0 (fun _ => true) true 28 v d p) :
    ∃ (x : Vd) (cv sv : Value), v = vdV x cv sv ∧ VdIn W x cv sv := by
  obtain ⟨f0, f1, f2, f3, f4, f5, f6, hs, ⟨t0, o0⟩, ⟨t1, o1⟩, ⟨t2, o2⟩, ⟨t3, o3⟩, ⟨t4, o4⟩, ⟨t5, o5⟩, ⟨t6, o6⟩⟩ := fields_verdict
  obtain ⟨cs, rfl, hsz⟩ := okWide_struct hs hv
  have hc : Tryz.prog.cellsOf 28 = 10 := by kernel_rfl
  rw [hc] at hsz
  obtain ⟨fuel, hf⟩ := h
  obtain ⟨cs⟩ := cs
  match cs, hsz with
  | [c0, c1, c2, c3, c4, c5, c6, c7, c8, c9], _ =>
    obtain ⟨y0, n0, e0⟩ := field_at hs hf 0 f0 rfl 0 1 _ o0 t0 (by kernel_rfl)
    obtain ⟨y1, n1, e1⟩ := field_at hs hf 1 f1 rfl 1 1 _ o1 t1 (by kernel_rfl)
    obtain ⟨y2, n2, e2⟩ := field_at hs hf 2 f2 rfl 2 1 _ o2 t2 (by kernel_rfl)
    obtain ⟨y3, n3, e3⟩ := field_at hs hf 3 f3 rfl 3 1 _ o3 t3 (by kernel_rfl)
    obtain ⟨y4, n4, e4⟩ := field_at hs hf 4 f4 rfl 4 1 _ o4 t4 (by kernel_rfl)
    obtain ⟨y5, n5, e5⟩ := field_at hs hf 5 f5 rfl 5 4 _ o5 t5 (by kernel_rfl)
    obtain ⟨y6, n6, e6⟩ := field_at hs hf 6 f6 rfl 9 1 _ o6 t6 (by kernel_rfl)
    obtain ⟨z0, q0, _, _⟩ := DataW.trod_int Tryz.underlying3 e0
    obtain ⟨z1, q1, _, _⟩ := DataW.trod_int Tryz.underlying22 e1
    obtain ⟨z2, q2, _, _⟩ := DataW.trod_int Tryz.underlying3 e2
    obtain ⟨z3, q3, _, _⟩ := DataW.trod_int Tryz.underlying3 e3
    obtain ⟨z4, q4, _, _⟩ := DataW.trod_int Tryz.underlying3 e4
    obtain ⟨en, q5, q6, q7, hz, hzl, hzn⟩ := open_endF (c0 := c5) (c1 := c6) (c2 := c7) (c3 := c8) e5
    obtain ⟨a, n, c, rfl⟩ := slice_of (v := c9) Tryz.underlying26 e6
    obtain ⟨l, hl, hll, hlc⟩ := open_picksF e6
    cases q0; cases q1; cases q2; cases q3; cases q4
    subst q5 q6 q7
    exact ⟨⟨z0, z1, z2, z3, z4, en, l⟩, c8, _, rfl, ⟨hz, hl, hzl, hll, hlc, hzn⟩⟩
set_option maxRecDepth 100000 in
theorem open_result {H : Type} {enc : TypeId × Value → H} {W : World} {r : Reach} {b0 : Nat} {v : Value} {d : DataW H} {p : List MemPlace} (hv : Value.okWide Tryz.prog W r b0 40 v) (h : DataW.Trod enc Tryz.prog W 0 (fun _ => true) true 40 v d p) :
    ∃ (l : List Ev) (q : Int) (e : En) (ev bv sv : Value), v = reV ev q e bv sv ∧ Ends W ev l ∧ l.length ≤ 9223372036854775807 ∧ (∀ x ∈ l, I64 x.k) ∧ I64 q ∧ (∃ A n c, bv = .slice A n c) ∧ (∃ A n c, sv = .slice A n c) := by
  obtain ⟨f0, f1, f2, f3, hs, ⟨t0, o0⟩, ⟨t1, o1⟩, ⟨t2, o2⟩, ⟨t3, o3⟩⟩ := fields_result
  obtain ⟨cs, rfl, hsz⟩ := okWide_struct hs hv
  have hc : Tryz.prog.cellsOf 40 = 7 := by kernel_rfl
  rw [hc] at hsz
  obtain ⟨fuel, hf⟩ := h
  obtain ⟨cs⟩ := cs
  match cs, hsz with
  | [c0, c1, c2, c3, c4, c5, c6], _ =>
    obtain ⟨y0, n0, e0⟩ := field_at hs hf 0 f0 rfl 0 1 _ o0 t0 (by kernel_rfl)
    obtain ⟨y1, n1, e1⟩ := field_at hs hf 1 f1 rfl 1 1 _ o1 t1 (by kernel_rfl)
    obtain ⟨y2, n2, e2⟩ := field_at hs hf 2 f2 rfl 2 4 _ o2 t2 (by kernel_rfl)
    obtain ⟨y3, n3, e3⟩ := field_at hs hf 3 f3 rfl 6 1 _ o3 t3 (by kernel_rfl)
    obtain ⟨z1, q1, _, w1⟩ := DataW.trod_int Tryz.underlying3 e1
    obtain ⟨a, n, c, rfl⟩ := slice_of (v := c0) Tryz.underlying38 e0
    obtain ⟨l, hl, hll, hlk⟩ := open_endsF e0
    obtain ⟨en, q2, q3, q4, hz, _, _⟩ := open_endF (c0 := c2) (c1 := c3) (c2 := c4) (c3 := c5) e2
    obtain ⟨za, zc, rfl, _⟩ := hz.shape
    obtain ⟨sa, sn, sc, rfl⟩ := slice_of (v := c6) Tryz.underlying26 e3
    cases q1
    subst q2 q3 q4
    exact ⟨l, z1, en, _, _, _, rfl, hl, hll, hlk, wfI64 w1, ⟨_, _, _, rfl⟩, ⟨_, _, _, rfl⟩⟩
end Go.Proofs.YtcgcndmlgfnjbaaGreatDoor

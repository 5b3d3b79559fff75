/- Picks, and slices of them, as they lie in memory. -/
import Derived.Test.YtcgcndmlgfnjbaaGreatDoorHlpA
import Derived.Test.YtcgcndmlgfnjbaaGreatDoorSchPlain
namespace Go.Proofs.YtcgcndmlgfnjbaaGreatDoor
open Go Go.RowKit
set_option linter.unusedVariables false
/-- whole numbers in a slice -/
def zCell (n : Int) : List Value := [.int .i64 n]
abbrev Zs (w : World) (v : Value) (l : List Int) : Prop := SlN w v 1 l.length (l.flatMap zCell)
theorem Zs.shape {w : World} {v : Value} {l : List Int} (h : Zs w v l) : ∃ A c, v = .slice A l.length c ∧ l.length ≤ c := by
  obtain ⟨_, A, c, hv, hc, _⟩ := h; exact ⟨A, c, hv, hc⟩
theorem Zs.at_ {w : World} {v : Value} {l : List Int} (h : Zs w v l) (h0 : 0 < l.length) :
    ∃ b off c, v = .slice (some ⟨b, off, none⟩) l.length c ∧ l.length ≤ c ∧ b < w.heap.size ∧ ∀ i (hi : i < l.length), w.cell? ⟨b, off + i, none⟩ = some (.int .i64 l[i]) := by
  obtain ⟨_, A, c, hv, hc, hf⟩ := h
  obtain ⟨b, off, hA, hlt, hcell⟩ := hf h0
  subst hA
  refine ⟨b, off, c, hv, hc, hlt, fun i hi => ?_⟩
  have hg := flat_getElem zCell 1 (fun _ => rfl) l i 0 hi (by omega)
  have := hcell (i * 1 + 0) _ hg
  rw [show off + (i * 1 + 0) = off + i by omega] at this
  exact this
theorem zs_nil (w : World) : Zs w (.slice none 0 0) [] := Sl.nil _ _ _
theorem z_one (l : List Int) : ∀ u ∈ l.flatMap zCell, u.oneCell' = true := by
  intro u hu
  obtain ⟨x, _, hx⟩ := List.mem_flatMap.1 hu
  simp only [zCell, List.mem_cons, List.not_mem_nil, or_false] at hx
  rw [hx]; rfl
/-- a pick and the slice that holds its numbers -/
structure Pv where
  p : Pk
  v : Value
def Pv.cells (x : Pv) : List Value := [.int .i64 x.p.kind, .int .i64 x.p.t, .int .i64 x.p.i, x.v]
theorem Pv.cells_len (x : Pv) : x.cells.length = 4 := rfl
def pkV (p : Pk) (v : Value) : Value := .agg #[.int .i64 p.kind, .int .i64 p.t, .int .i64 p.i, v]
/-- a slice of picks, the values told -/
def PksV (w : World) (v : Value) (pl : List Pv) : Prop := SlN w v 4 pl.length (pl.flatMap Pv.cells) ∧ ∀ x ∈ pl, Zs w x.v x.p.cut
/-- a slice of picks -/
def Pks (w : World) (v : Value) (l : List Pk) : Prop := ∃ pl : List Pv, pl.map (·.p) = l ∧ PksV w v pl
theorem PksV.below {w w' : World} {v : Value} {pl : List Pv} (h : PksV w v pl) (hb : Below w.heap.size w w') : PksV w' v pl :=
  ⟨SlN.below h.1 hb, fun x hx => SlN.below (h.2 x hx) hb⟩
theorem Pks.below {w w' : World} {v : Value} {l : List Pk} (h : Pks w v l) (hb : Below w.heap.size w w') : Pks w' v l := by
  obtain ⟨pl, h1, h2⟩ := h; exact ⟨pl, h1, h2.below hb⟩
theorem PksV.shape {w : World} {v : Value} {pl : List Pv} (h : PksV w v pl) : ∃ A c, v = .slice A pl.length c ∧ pl.length ≤ c := by
  obtain ⟨⟨_, A, c, hv, hc, _⟩, _⟩ := h; exact ⟨A, c, hv, hc⟩
theorem Pks.shape {w : World} {v : Value} {l : List Pk} (h : Pks w v l) : ∃ A c, v = .slice A l.length c ∧ l.length ≤ c := by
  obtain ⟨pl, rfl, h⟩ := h
  obtain ⟨A, c, hv, hc⟩ := h.shape
  exact ⟨A, c, by rw [List.length_map]; exact hv, by rw [List.length_map]; exact hc⟩
structure PkAt (w : World) (b o : Nat) (p : Pk) (v : Value) : Prop where
  kind : w.cell? ⟨b, o, none⟩ = some (.int .i64 p.kind)
  t : w.cell? ⟨b, o + 1, none⟩ = some (.int .i64 p.t)
  i : w.cell? ⟨b, o + 2, none⟩ = some (.int .i64 p.i)
  cut : w.cell? ⟨b, o + 3, none⟩ = some v
theorem Pks.at_ {w : World} {v : Value} {l : List Pk} (h : Pks w v l) (h0 : 0 < l.length) :
    ∃ b off c, v = .slice (some ⟨b, off, none⟩) l.length c ∧ l.length ≤ c ∧ b < w.heap.size ∧ ∀ i (hi : i < l.length), ∃ A n, PkAt w b (off + i * 4) l[i] (.slice A l[i].cut.length n) ∧ Zs w (.slice A l[i].cut.length n) l[i].cut := by
  obtain ⟨pl, rfl, h⟩ := h
  obtain ⟨⟨_, A, c, hv, hc, hf⟩, hz⟩ := h
  obtain ⟨b, off, hA, hlt, hcell⟩ := hf (by simpa using h0)
  subst hA
  refine ⟨b, off, c, by rw [List.length_map]; exact hv, by rw [List.length_map]; exact hc, hlt, fun i hi => ?_⟩
  have hi2 : i < pl.length := by simpa using hi
  have hg := fun k hk => flat_getElem Pv.cells 4 Pv.cells_len pl i k hi2 hk
  have hz1 := hz _ (List.getElem_mem hi2)
  obtain ⟨A2, n2, hv2, hn2⟩ := hz1.shape
  have e : (pl.map (·.p))[i] = (pl[i]).p := by simp
  rw [e]
  refine ⟨A2, n2, ?_, ?_⟩
  · rw [← hv2]
    exact ⟨hcell _ _ (hg 0 (by omega)), hcell _ _ (hg 1 (by omega)), hcell _ _ (hg 2 (by omega)), hcell _ _ (hg 3 (by omega))⟩
  · rw [← hv2]; exact hz1
theorem pks_nil (w : World) : Pks w (.slice none 0 0) [] := ⟨[], rfl, Sl.nil _ _ _, by simp⟩
end Go.Proofs.YtcgcndmlgfnjbaaGreatDoor

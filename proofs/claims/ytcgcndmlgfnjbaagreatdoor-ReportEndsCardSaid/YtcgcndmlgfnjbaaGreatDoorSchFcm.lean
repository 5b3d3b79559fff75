/- Picks in memory: parts of a slice, rows that grow by many. -/
import Derived.Test.YtcgcndmlgfnjbaaGreatDoorSchM
import Derived.Test.YtcgcndmlgfnjbaaGreatDoorSchFct
namespace Go.Proofs.YtcgcndmlgfnjbaaGreatDoor
open Go Go.RowKit
set_option linter.unusedVariables false
theorem par_shape {s : List UInt8} {w w' : World} {e : Ending} (h : ParPost s w e w') : ∃ A c, e = .returned (.tuple #[.slice A (parseK s).1.length c, .int .i64 (parseK s).2.1, .int .i64 (parseK s).2.2]) ∧ Off (Old w.heap.size) w' (fun u => Pks u (.slice A (parseK s).1.length c) (parseK s).1) ∧ Below w.heap.size w w' := by
  obtain ⟨v, rfl, hv, hb⟩ := h
  obtain ⟨A, c, rfl, hc⟩ := hv.now.shape
  exact ⟨A, c, rfl, hv, hb⟩
theorem four_at {u u' : World} {b o : Nat} {p : Pk} {v : Value} (h : PkAt u b o p v) (hb : Below u.heap.size u u') : PkAt u' b o p v := by
  have hlt := World.block_lt_of_cell? u _ h.kind
  exact ⟨(hb.cell (p := ⟨b, o, none⟩) hlt).trans h.kind, (hb.cell (p := ⟨b, o + 1, none⟩) hlt).trans h.t, (hb.cell (p := ⟨b, o + 2, none⟩) hlt).trans h.i, (hb.cell (p := ⟨b, o + 3, none⟩) hlt).trans h.cut⟩
theorem POwn.apps {B : Nat} {w w' : World} {v v' : Value} {pl : List Pv} (h : POwn B w v pl) (xs : List Pv) (n : Nat) (hn : xs.length = n) (hx : ∀ x ∈ xs, Off (ownS v) w (fun u => Zs u x.v x.p.cut)) (hown : w'.ownsRow B 48 4 v' (pl.length + n) (pl.flatMap Pv.cells ++ xs.flatMap Pv.cells)) (hg : w.grownBy w' v.ownBlock) (hat : v'.ownBlock = v.ownBlock ∨ v'.ownBlock = some w.heap.size) : POwn B w' v' (pl ++ xs) := by
  subst hn
  refine ⟨by rw [List.length_append, List.flatMap_append]; exact hown, fun y hy => ?_⟩
  rcases List.mem_append.1 hy with hy | hy
  · exact (h.cuts y hy).app hg hat
  · exact (hx y hy).app hg hat
theorem pks_open {w : World} {v : Value} {l : List Pk} (h : Pks w v l) : ∃ pl : List Pv, pl.map (·.p) = l ∧ pl.length = l.length ∧ SlN w v 4 l.length (pl.flatMap Pv.cells) ∧ (∀ x ∈ pl, Zs w x.v x.p.cut) ∧ ∀ x ∈ pl, x.v.oneCell' = true := by
  obtain ⟨pl, rfl, h1, h2⟩ := h
  refine ⟨pl, rfl, (List.length_map _).symm, by rw [List.length_map]; exact h1, h2, fun x hx => ?_⟩
  obtain ⟨A, c, e, _⟩ := (h2 x hx).shape
  rw [e]; rfl
theorem own_apps_of {B : Nat} {w w' : World} {v v' : Value} {pl : List Pv} (h : POwn B w v ([] ++ pl)) (ys : List Pv) {n k : Nat} (hk : pl.length = k) (hn : ys.length = n) (hx : ∀ x ∈ ys, Off (ownS v) w (fun u => Zs u x.v x.p.cut)) (hown : w'.ownsRow B 48 4 v' (k + n) (pl.flatMap Pv.cells ++ ys.flatMap Pv.cells)) (hg : w.grownBy w' v.ownBlock) (hat : v'.ownBlock = v.ownBlock ∨ v'.ownBlock = some w.heap.size) : POwn B w' v' (pl ++ ys) := by
  subst hk
  exact POwn.apps (pl := pl) h ys n hn hx hown hg hat
theorem own_fresh (w : World) : POwn w.heap.size (w.alloc (.cells #[] 48)) (.slice (some ⟨w.heap.size, 0, none⟩) 0 0) [] := ⟨own_empty w 48 4 (by decide), by simp⟩
theorem pks_sub {w : World} {b off c n : Nat} {l : List Pk} (h : Pks w (.slice (some ⟨b, off, none⟩) n c) l) (i j : Nat) (hi : i ≤ j) (hj : j ≤ n) :
    Pks w (.slice (some ⟨b, off + i * 4, none⟩) (j - i) (c - i)) ((l.drop i).take (j - i)) := by
  obtain ⟨pl, rfl, ⟨h1, A, c', hv, hc, hf⟩, hz⟩ := h
  have hln : pl.length = n := by injection hv with _ e _; exact e.symm
  subst hln
  cases hv
  have hlen : ((pl.drop i).take (j - i)).length = j - i := by simp only [List.length_take, List.length_drop]; omega
  refine ⟨(pl.drop i).take (j - i), by rw [List.map_take, List.map_drop], ?_, fun x hx => hz x (List.mem_of_mem_drop (List.mem_of_mem_take hx))⟩
  show Sl _ _ _ 4 ((pl.drop i).take (j - i)).length _
  rw [hlen]
  refine ⟨by rw [flat_length Pv.cells 4 Pv.cells_len, hlen], _, _, rfl, by omega, fun h0 => ?_⟩
  obtain ⟨b', off', hA, hlt, hcell⟩ := hf (by omega)
  cases hA
  refine ⟨b, off + i * 4, rfl, hlt, fun k u hk => ?_⟩
  have hkl : k < (((pl.drop i).take (j - i)).flatMap Pv.cells).length := (List.getElem?_eq_some_iff.1 hk).1
  have hsp : pl.flatMap Pv.cells = (pl.take i).flatMap Pv.cells ++ (((pl.drop i).take (j - i)).flatMap Pv.cells ++ ((pl.drop i).drop (j - i)).flatMap Pv.cells) := by
    rw [← List.flatMap_append, ← List.flatMap_append, List.take_append_drop, List.take_append_drop]
  have hpl : ((pl.take i).flatMap Pv.cells).length = i * 4 := by rw [flat_length Pv.cells 4 Pv.cells_len, List.length_take]; omega
  have := hcell (i * 4 + k) u (by
    rw [hsp, List.getElem?_append_right (by omega), hpl, show i * 4 + k - i * 4 = k by omega, List.getElem?_append_left hkl]
    exact hk)
  rw [← Nat.add_assoc] at this
  exact this
end Go.Proofs.YtcgcndmlgfnjbaaGreatDoor

/- The small functions of the reference's parser: the walks. -/
import Derived.Test.YtahdfglelhdcnaaDoorParA
namespace Go.Proofs.YtahdfglelhdcnaaDoor
open Go Go.RowKit
set_option linter.unusedVariables false
theorem al (w : World) (o : Obj) : Below w.heap.size w (w.alloc o) := (Below.refl _ _).alloc (Nat.le_refl _) _
set_option maxHeartbeats 1000000 in
theorem rops_c (n : Nat) (hn : n < 5) (w : World) : Calls Tryd.prog 51 #[.int .i64 n] w fun e w' => ∃ v, e = .returned v ∧ Ints w' v (opsOf n) ∧ Below w.heap.size w w' := by
  have h6 : ∀ o1 o2 o3 o4 o5 o6, Below w.heap.size w ((((((w.alloc o1).alloc o2).alloc o3).alloc o4).alloc o5).alloc o6) := fun o1 o2 o3 o4 o5 o6 => by
    refine bt (bt (bt (bt (bt (al _ _) (al _ _)) (al _ _)) (al _ _)) (al _ _)) (al _ _)
  match n, hn with
  | 0, _ =>
    go_enter Tryd.func51, Tryd.ntmps51
    go_wp2_with fail
    go_ret
    refine ⟨_, rfl, ?_, h6 _ _ _ _ _ _⟩
    have := sl_lit w [.int .i64 15] 3 1 1 1 rfl (Nat.le_refl _)
    exact (((((this.below (al _ _)).below (al _ _)).below (al _ _)).below (al _ _)).below (al _ _))
  | 1, _ =>
    go_enter Tryd.func51, Tryd.ntmps51
    go_wp2_with fail
    go_ret
    refine ⟨_, rfl, ?_, h6 _ _ _ _ _ _⟩
    have := sl_lit (w.alloc (.cells #[.int .i64 15] 3)) [.int .i64 14] 3 1 1 1 rfl (Nat.le_refl _)
    rw [World.size_alloc] at this
    exact ((((this.below (al _ _)).below (al _ _)).below (al _ _)).below (al _ _))
  | 2, _ =>
    go_enter Tryd.func51, Tryd.ntmps51
    go_wp2_with fail
    go_ret
    refine ⟨_, rfl, ?_, h6 _ _ _ _ _ _⟩
    have := sl_lit ((w.alloc (.cells #[.int .i64 15] 3)).alloc (.cells #[.int .i64 14] 3)) [.int .i64 10, .int .i64 11, .int .i64 12, .int .i64 13] 3 1 4 4 rfl (Nat.le_refl _)
    rw [World.size_alloc, World.size_alloc] at this
    exact (((this.below (al _ _)).below (al _ _)).below (al _ _))
  | 3, _ =>
    go_enter Tryd.func51, Tryd.ntmps51
    go_wp2_with fail
    go_ret
    refine ⟨_, rfl, ?_, h6 _ _ _ _ _ _⟩
    have := sl_lit (((w.alloc (.cells #[.int .i64 15] 3)).alloc (.cells #[.int .i64 14] 3)).alloc (.cells #[.int .i64 10, .int .i64 11, .int .i64 12, .int .i64 13] 3)) [.int .i64 5, .int .i64 6] 3 1 2 2 rfl (Nat.le_refl _)
    rw [World.size_alloc, World.size_alloc, World.size_alloc] at this
    exact ((this.below (al _ _)).below (al _ _))
  | 4, _ =>
    go_enter Tryd.func51, Tryd.ntmps51
    go_wp2_with fail
    go_ret
    refine ⟨_, rfl, ?_, h6 _ _ _ _ _ _⟩
    have := sl_lit ((((w.alloc (.cells #[.int .i64 15] 3)).alloc (.cells #[.int .i64 14] 3)).alloc (.cells #[.int .i64 10, .int .i64 11, .int .i64 12, .int .i64 13] 3)).alloc (.cells #[.int .i64 5, .int .i64 6] 3)) [.int .i64 7, .int .i64 8, .int .i64 9] 3 1 3 3 rfl (Nat.le_refl _)
    rw [World.size_alloc, World.size_alloc, World.size_alloc, World.size_alloc] at this
    exact (this.below (al _ _))
def sgV : List Value := sgnL.map fun t => .string (str t)
theorem sgV_at (op : Nat) (h : op < sgV.length) : sgV[op] = .string (str (sg op)) := by
  have h2 : op < sgnL.length := by simpa [sgV] using h
  have h3 : (sgnL.map fun t => Value.string (str t))[op]'(by simpa using h2) = .string (str (sg op)) := by
    rw [List.getElem_map]
    congr 2
    unfold sg
    rw [List.getD_eq_getElem?_getD, List.getElem?_eq_getElem h2]; rfl
  exact h3
theorem rsign_c (op : Nat) (hn : op < 16) (w : World) : Calls Tryd.prog 53 #[.int .i64 op] w fun e w' => e = .returned (.string (str (sg op))) ∧ Below w.heap.size w w' := by
  go_enter Tryd.func53, Tryd.ntmps53
  go_wp2_with fail
  go_ret
  exact ⟨congrArg Ending.returned (sgV_at op hn), al _ _⟩
def rdE (L : Value) (t e p : Int) : Value := .agg #[L, .int .i64 t, .int .i64 e, .int .i64 p]
set_option maxHeartbeats 400000 in
theorem rbad_c (l : List Tok) (hl : l.length ≤ 100000) (i : Nat) (e0 : Int) (v : Value) (w : World) (hv : Toks w v l) :
    Calls Tryd.prog 70 #[v, .int .i64 i, .int .i64 e0] w fun e w' => e = .returned (rdE (.slice none 0 0) 0 (if l.length ≤ i then 6 else e0) (placeE l i)) ∧ Below w.heap.size w w' := by
  have HP : Hid (∀ u : World, Toks u v l → Calls Tryd.prog 80 #[v, .int .i64 i] u (PlacePostD l i u)) := fun u hu => rplace_c l (by omega) i v u hu
  obtain ⟨A, c, rfl, hc⟩ := hv.shape
  have HV := Lib.hid hv
  clear hv
  by_cases h : l.length ≤ i
  · rw [if_pos h]
    go_enter Tryd.func70, Tryd.ntmps70
    go_wp2_with (go_at_call 80; refine (HP.out _ (HV.out.below ((Below.refl _ _).alloc (Nat.le_refl _) _))).mono ?_; rintro e w1 ⟨rfl, hb1⟩; obtain ⟨hs4, hc0, hc1, hc2, hc3, hf0, hf1, hf2, hf3⟩ := tok_block hb1)
    have hB : Below w.heap.size w w1 := bt (al _ _) hb1
    refine bodyPost_ret (v := rdE (.slice none 0 0) 0 6 (placeE l i)) (by simp [results, Tryd.results70, go_sem, hc0, hc1, hc2, hc3, rdE]) rfl ⟨rfl, ?_⟩
    exact below_set (below_set (below_set (below_set hB (Nat.le_refl _) _) (Nat.le_refl _) _) (Nat.le_refl _) _) (Nat.le_refl _) _
  · rw [if_neg h]
    go_enter Tryd.func70, Tryd.ntmps70
    go_wp2_with (go_at_call 80; refine (HP.out _ (HV.out.below ((Below.refl _ _).alloc (Nat.le_refl _) _))).mono ?_; rintro e w1 ⟨rfl, hb1⟩; obtain ⟨hs4, hc0, hc1, hc2, hc3, hf0, hf1, hf2, hf3⟩ := tok_block hb1)
    have hB : Below w.heap.size w w1 := bt (al _ _) hb1
    refine bodyPost_ret (v := rdE (.slice none 0 0) 0 e0 (placeE l i)) (by simp [results, Tryd.results70, go_sem, hc0, hc1, hc2, hc3, rdE]) rfl ⟨rfl, ?_⟩
    exact below_set (below_set (below_set (below_set hB (Nat.le_refl _) _) (Nat.le_refl _) _) (Nat.le_refl _) _) (Nat.le_refl _) _
end Go.Proofs.YtahdfglelhdcnaaDoor

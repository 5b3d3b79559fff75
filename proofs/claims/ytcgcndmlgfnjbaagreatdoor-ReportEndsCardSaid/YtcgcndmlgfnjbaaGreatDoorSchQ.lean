/- The picks of a text: the program's walk. -/
import Derived.Test.YtcgcndmlgfnjbaaGreatDoorSchO
import Derived.Test.YtcgcndmlgfnjbaaGreatDoorSchM
import Derived.Test.YtcgcndmlgfnjbaaGreatDoorSchC
import Derived.Test.YtcgcndmlgfnjbaaGreatDoorSchA
import Derived.Maps.OwnIn
namespace Go.Proofs.YtcgcndmlgfnjbaaGreatDoor
open Go Go.RowKit Go.Shelf
set_option linter.unusedVariables false
attribute [local go_sem] Oper.semAt_some
/-- a line without its end -/
def trimK (x : List UInt8) : List UInt8 := Lib.trimSuffix x [10]
/-- the pick of a line, as the program asks -/
def progL (x : List UInt8) : Option Pk := if rightK (pickP (splitK (trimK x))) = true ∧ lineK (pickP (splitK (trimK x))) ++ [10] = x then some (pickP (splitK (trimK x))) else none
def parL : List (List UInt8) → Except Nat (List Pk)
  | [] => .ok []
  | x :: r => match progL x with
    | none => .error 0
    | some p => consR p (parL r)
theorem trim_hit (y : List UInt8) : trimK (y ++ [10]) = y := by
  unfold trimK Lib.trimSuffix
  have h : Lib.hasSuffix (y ++ [10]) [10] = true := by simp [Lib.hasSuffix]
  rw [if_pos h]
  simp
theorem progL_hit (y : List UInt8) : progL (y ++ [10]) = acceptK y := by
  unfold progL
  rw [trim_hit, accept_prog]
  simp
theorem progL_miss (y : List UInt8) (h : 10 ∉ y) : progL y = none := by
  unfold progL
  rw [if_neg]
  rintro ⟨_, h2⟩
  exact h (by rw [← h2]; simp)
theorem par_lines : ∀ (s cur : List UInt8), 10 ∉ cur → parG cur s = parL (linesG cur s)
  | [], cur, h => by
    unfold parG linesG
    by_cases hc : cur = []
    · rw [if_pos hc, if_pos hc]; rfl
    · rw [if_neg hc, if_neg hc]
      show _ = (match progL cur with | none => Except.error 0 | some p => consR p (parL []))
      rw [progL_miss _ h]
  | c :: r, cur, h => by
    unfold parG linesG
    by_cases hc : c = 10
    · rw [if_pos hc, if_pos hc]
      show _ = (match progL (cur ++ [10]) with | none => Except.error 0 | some p => consR p (parL (linesG [] r)))
      rw [progL_hit, par_lines r [] (by simp)]
      cases acceptK cur <;> rfl
    · rw [if_neg hc, if_neg hc]
      exact par_lines r _ (by simp; exact ⟨h, fun e => hc e.symm⟩)
/-- what has been read ahead of the rest -/
def Got (pre : List (List UInt8)) (L : List Pk) : Prop := ∀ t, parL (pre ++ t) = preR L (parL t)
theorem Got.nil : Got [] [] := fun t => by
  show parL t = _
  cases parL t with
  | ok l => rfl
  | error n => simp [preR]
theorem Got.snoc {pre : List (List UInt8)} {L : List Pk} (h : Got pre L) {x : List UInt8} {p : Pk} (hp : progL x = some p) : Got (pre ++ [x]) (L ++ [p]) := fun t => by
  rw [List.append_assoc, h, ← preR_cons]
  show preR L (match progL x with | none => Except.error 0 | some p => consR p (parL t)) = _
  rw [hp]
theorem Got.bad {pre : List (List UInt8)} {L : List Pk} (h : Got pre L) {x : List UInt8} (hp : progL x = none) {s : List UInt8} (hx : (pre ++ [x]) <+: linesK s) : parG [] s = .error L.length := by
  obtain ⟨t, ht⟩ := hx
  rw [par_lines s [] (by simp), show linesG [] s = linesK s from rfl, ← ht, List.append_assoc, h]
  show preR L (match progL x with | none => Except.error 0 | some p => consR p (parL t)) = _
  rw [hp]; rfl
theorem Got.fin {s : List UInt8} {L : List Pk} (h : Got (linesK s) L) : parG [] s = .ok L := by
  rw [par_lines s [] (by simp), show linesG [] s = linesK s from rfl]
  have := h []
  rw [List.append_nil] at this
  rw [this]
  show Except.ok (L ++ []) = _
  rw [List.append_nil]
theorem lines_len : ∀ (s cur : List UInt8), (linesG cur s).length ≤ s.length + cur.length
  | [], cur => by
    unfold linesG
    split
    · simp
    · rename_i h; have := List.length_pos_iff.2 h; simp; omega
  | c :: r, cur => by
    unfold linesG
    split
    · have := lines_len r []; simp at this ⊢; omega
    · have := lines_len r (cur ++ [c]); simp at this ⊢; omega
theorem lines_flat : ∀ (s cur : List UInt8), (linesG cur s).flatten = cur ++ s
  | [], cur => by
    unfold linesG
    split
    · rename_i h; subst h; rfl
    · simp
  | c :: r, cur => by
    unfold linesG
    split
    · rename_i h; subst h; rw [List.flatten_cons, lines_flat r []]; simp
    · rw [lines_flat r (cur ++ [c])]; simp
theorem mem_flat_len {l : List (List UInt8)} {x : List UInt8} (h : x ∈ l) : x.length ≤ l.flatten.length := by
  induction l with
  | nil => cases h
  | cons a l ih =>
    rw [List.flatten_cons, List.length_append]
    rcases List.mem_cons.1 h with rfl | h
    · omega
    · have := ih h; omega
theorem line_in {pre : List (List UInt8)} {x s : List UInt8} (h : (pre ++ [x]) <+: linesK s) : x.length ≤ s.length ∧ pre.length < s.length + 1 := by
  have h1 : x ∈ linesK s := h.subset (by simp)
  have h2 := mem_flat_len h1
  rw [show linesK s = linesG [] s from rfl, lines_flat] at h2
  have h3 := h.length_le
  have h4 := lines_len s []
  rw [show linesG [] s = linesK s from rfl] at h4
  rw [List.length_append] at h3
  simp only [List.length_cons, List.length_nil] at h3 h4
  exact ⟨by simpa using h2, by omega⟩
theorem trim_len (x : List UInt8) : (trimK x).length ≤ x.length := by
  unfold trimK Lib.trimSuffix
  split
  · rw [List.length_take]; omega
  · omega
theorem pick_len (ws : List (List UInt8)) : (pickP ws).cut.length ≤ ws.length := by
  match ws with
  | [] => exact Nat.le_refl _
  | x :: r =>
    rw [pickP_cons]
    cases hr : numsK r with
    | none => exact Nat.zero_le _
    | some ns =>
      have h := congrArg List.length (nums_itoa r ns hr)
      rw [List.length_map] at h
      show (progK (kindK x) ns).cut.length ≤ _
      unfold progK
      split
      · exact Nat.zero_le _
      · split
        · exact Nat.zero_le _
        · split
          · show ns.length ≤ _; rw [h, List.length_cons]; omega
          · exact Nat.zero_le _
theorem own_turn {w w' : World} {base : Nat} {e : TypeId} {size : Nat} {v : Value} {n : Nat} {xs : List Value} {X : Nat → Prop} (h : w.ownsRow base e size v n xs) (ht : Turn X w w') (hX : ∀ k, v.ownBlock = some k → ¬ X k) : w'.ownsRow base e size v n xs := by
  have hlt := h.lt
  obtain ⟨h1, h2⟩ := h
  refine ⟨h1, ?_⟩
  rcases h2 with h2 | ⟨g, cap, cur, hv, hg, hh, r⟩
  · exact .inl h2
  · have hb : v.ownBlock = some g := by rw [hv]; rfl
    exact .inr ⟨g, cap, cur, hv, hg, (ht.block g (hlt g hb).2 (hX g hb)).trans hh, r⟩
/-- picks in a row of the call's own, beside whatever lay below B -/
structure POT (B : Nat) (w : World) (v : Value) (pl : List Pv) : Prop where
  own : w.ownsRow B 48 4 v pl.length (pl.flatMap Pv.cells)
  cuts : ∀ x ∈ pl, Off (fun k => v.ownBlock = some k ∨ k < B) w (fun u => Zs u x.v x.p.cut)
theorem POT.pks {B : Nat} {w : World} {v : Value} {pl : List Pv} (h : POT B w v pl) : Pks w v (pl.map (·.p)) :=
  ⟨pl, rfl, sl_of_own h.own, fun x hx => (h.cuts x hx).now⟩
theorem POT.offPks {B : Nat} {w : World} {v : Value} {pl : List Pv} (h : POT B w v pl) {C : Nat} (hC : C ≤ B) : Off (Old C) w (fun u => Pks u v (pl.map (·.p))) := fun u h1 h2 =>
  ⟨pl, rfl, (off_own h.own (fun k hk hS => by have := (h.own.lt k hk).1; unfold Old at hS; omega)) u h1 h2, fun x hx => ((h.cuts x hx).mono (S' := Old C) (fun k _ hk => .inr (by unfold Old at hk; omega))) u h1 h2⟩
theorem POT.below {B : Nat} {w w' : World} {v : Value} {pl : List Pv} (h : POT B w v pl) (hb : Below w.heap.size w w') : POT B w' v pl :=
  ⟨own_below h.own hb, fun x hx => (h.cuts x hx).below hb⟩
theorem POT.turn {B : Nat} {w w' : World} {v : Value} {pl : List Pv} {X : Nat → Prop} (h : POT B w v pl) (ht : Turn X w w') (hX : ∀ k, X k → k < B) : POT B w' v pl :=
  ⟨own_turn h.own ht (fun k hk hx => by have := (h.own.lt k hk).1; have := hX k hx; omega), fun x hx => (h.cuts x hx).step ht.size (fun k hk hn => ht.block k hk (fun e => hn (.inr (hX k e)))) (fun _ _ e => e)⟩
theorem POT.setCell {B : Nat} {w : World} {v : Value} {pl : List Pv} (h : POT B w v pl) {b o : Nat} (hb : b < B) (u : Value) : POT B (w.setCell ⟨b, o, none⟩ u) v pl :=
  h.turn (Turn.setCell (X := fun k => k = b) w rfl u) (fun k e => by rw [e]; exact hb)
theorem POT.app {B : Nat} {w w' : World} {v v' : Value} {pl : List Pv} (h : POT B w v pl) (x : Pv) (hx : Off (fun k => v.ownBlock = some k ∨ k < B) w (fun u => Zs u x.v x.p.cut)) (hown : w'.ownsRow B 48 4 v' (pl.length + 1) (pl.flatMap Pv.cells ++ [x].flatMap Pv.cells)) (hg : w.grownBy w' v.ownBlock) (hat : v'.ownBlock = v.ownBlock ∨ v'.ownBlock = some w.heap.size) : POT B w' v' (pl ++ [x]) := by
  refine ⟨by rw [List.length_append, List.flatMap_append]; exact hown, fun y hy => ?_⟩
  rcases List.mem_append.1 hy with hy | hy
  · exact (h.cuts y hy).app2 hg hat
  · simp only [List.mem_cons, List.not_mem_nil, or_false] at hy
    subst hy
    exact hx.app2 hg hat
/-- the call's own variables: the three results, the picks so far -/
structure Vars (W : World) (b : Nat) (v : Value) : Prop where
  c2 : W.cell? ⟨b, 0, none⟩ = some (.slice none 0 0)
  c3 : W.cell? ⟨b + 1, 0, none⟩ = some (.int .i64 0)
  c4 : W.cell? ⟨b + 2, 0, none⟩ = some (.int .i64 0)
  c5 : W.cell? ⟨b + 3, 0, none⟩ = some v
  f2 : W.frozen? ⟨b, 0, none⟩ = false
  f3 : W.frozen? ⟨b + 1, 0, none⟩ = false
  f4 : W.frozen? ⟨b + 2, 0, none⟩ = false
  f5 : W.frozen? ⟨b + 3, 0, none⟩ = false
theorem cell_lt {W : World} {p : Addr} {v : Value} (h : W.cell? p = some v) : p.block < W.heap.size := by
  rcases Nat.lt_or_ge p.block W.heap.size with h1 | h1
  · exact h1
  · unfold World.cell? at h
    rw [Array.getElem?_eq_none h1] at h; cases h
theorem Vars.same {W W' : World} {b : Nat} {v : Value} (h : Vars W b v) (hk : ∀ k, k < b + 4 → b ≤ k → k < W.heap.size → W'.heap[k]? = W.heap[k]?) : Vars W' b v := by
  have e2 := hk b (by omega) (by omega) (cell_lt h.c2)
  have e3 := hk (b + 1) (by omega) (by omega) (cell_lt h.c3)
  have e4 := hk (b + 2) (by omega) (by omega) (cell_lt h.c4)
  have e5 := hk (b + 3) (by omega) (by omega) (cell_lt h.c5)
  exact ⟨(World.cell?_of_block (a := ⟨b, 0, none⟩) e2).trans h.c2, (World.cell?_of_block (a := ⟨b + 1, 0, none⟩) e3).trans h.c3, (World.cell?_of_block (a := ⟨b + 2, 0, none⟩) e4).trans h.c4, (World.cell?_of_block (a := ⟨b + 3, 0, none⟩) e5).trans h.c5,
    (World.frozen?_of_block (a := ⟨b, 0, none⟩) e2).trans h.f2, (World.frozen?_of_block (a := ⟨b + 1, 0, none⟩) e3).trans h.f3, (World.frozen?_of_block (a := ⟨b + 2, 0, none⟩) e4).trans h.f4, (World.frozen?_of_block (a := ⟨b + 3, 0, none⟩) e5).trans h.f5⟩
structure ParI (s : List UInt8) (w : World) (pre : List (List UInt8)) (W : World) : Prop where
  is : ∃ (pl : List Pv) (A : Option Addr) (c : Nat), pl.length = pre.length ∧ Got pre (pl.map (·.p)) ∧ Vars W w.heap.size (.slice A pl.length c) ∧ POT (w.heap.size + 7) W (.slice A pl.length c) pl
  below : Below w.heap.size w W
structure ParX (s : List UInt8) (w : World) (W : World) : Prop where
  is : ∃ n : Nat, parG [] s = .error n ∧ W.cell? ⟨w.heap.size, 0, none⟩ = some (.slice none 0 0) ∧ W.cell? ⟨w.heap.size + 1, 0, none⟩ = some (.int .i64 8) ∧ W.cell? ⟨w.heap.size + 2, 0, none⟩ = some (.int .i64 n)
  below : Below w.heap.size w W
theorem turn_below {X : Nat → Prop} {B : Nat} {w W W' : World} (h : Below B w W) (ht : Turn X W W') (hX : ∀ k, X k → B ≤ k) (hB : B ≤ W.heap.size) : Below B w W' :=
  h.trans ⟨ht.os, ht.tape, ht.output, ht.size, fun k hk => ht.block k (by omega) (fun e => by have := hX k e; omega)⟩
theorem three_lt {n k : Nat} (h : Three (n + 4) (n + 5) k) : n + 4 ≤ k ∧ k < n + 7 := by
  rcases h with rfl | rfl | rfl <;> omega
theorem ParI.turn {s : List UInt8} {w W W' : World} {pre : List (List UInt8)} (h : ParI s w pre W) (ht : Turn (Three (w.heap.size + 4) (w.heap.size + 5)) W W') : ParI s w pre W' := by
  obtain ⟨⟨pl, A, c, h1, h2, h3, h4⟩, hb⟩ := h
  exact ⟨⟨pl, A, c, h1, h2, h3.same (fun k hk _ hl => ht.block k hl (fun e => by have := three_lt e; omega)), h4.turn ht (fun k e => (three_lt e).2)⟩, turn_below hb ht (fun k e => by have := three_lt e; omega) hb.size⟩
theorem ParX.turn {s : List UInt8} {w W W' : World} (h : ParX s w W) (ht : Turn (Three (w.heap.size + 4) (w.heap.size + 5)) W W') : ParX s w W' := by
  obtain ⟨⟨n, h1, h2, h3, h4⟩, hb⟩ := h
  have e : ∀ k, k < w.heap.size + 4 → k < W.heap.size → W'.heap[k]? = W.heap[k]? := fun k hk hl => ht.block k hl (fun e => by have := three_lt e; omega)
  exact ⟨⟨n, h1, (World.cell?_of_block (a := ⟨_, 0, none⟩) (e _ (by simp) (cell_lt h2))).trans h2, (World.cell?_of_block (a := ⟨_, 0, none⟩) (e _ (by simp) (cell_lt h3))).trans h3, (World.cell?_of_block (a := ⟨_, 0, none⟩) (e _ (by simp) (cell_lt h4))).trans h4⟩, turn_below hb ht (fun k e => by have := three_lt e; omega) hb.size⟩
theorem bad_end {s : List UInt8} {w W w4 : World} {v : Value} {n : Nat} (hE : parG [] s = .error n) (hB : Below w.heap.size w W) (hb : Below W.heap.size W w4) (hV : Vars w4 w.heap.size v) (hW : w.heap.size + 5 + 1 < W.heap.size) :
    (∀ k, Three (w.heap.size + 4) (w.heap.size + 5) k → (((w4.setCell ⟨w.heap.size, 0, none⟩ (.slice none 0 0)).setCell ⟨w.heap.size + 1, 0, none⟩ (.int .i64 8)).setCell ⟨w.heap.size + 2, 0, none⟩ (.int .i64 n)).drew.heap[k]? = W.heap[k]?) ∧
    ParX s w (((w4.setCell ⟨w.heap.size, 0, none⟩ (.slice none 0 0)).setCell ⟨w.heap.size + 1, 0, none⟩ (.int .i64 8)).setCell ⟨w.heap.size + 2, 0, none⟩ (.int .i64 n)).drew := by
  refine ⟨fun k hk => ?_, ⟨⟨n, hE, ?_, ?_, ?_⟩, ?_⟩⟩
  · have h := three_lt hk
    show (((w4.setCell ⟨w.heap.size, 0, none⟩ (.slice none 0 0)).setCell ⟨w.heap.size + 1, 0, none⟩ (.int .i64 8)).setCell ⟨w.heap.size + 2, 0, none⟩ (.int .i64 n)).heap[k]? = _
    rw [Below.heap_setCell _ _ _ _ (by show k ≠ w.heap.size + 2; omega), Below.heap_setCell _ _ _ _ (by show k ≠ w.heap.size + 1; omega), Below.heap_setCell _ _ _ _ (by show k ≠ w.heap.size; omega)]
    exact hb.block k (by omega)
  · have := hV.c2
    simp [World.cell?_setCell_other, World.cell?_setCell_same', this]
  · have := hV.c3
    simp [World.cell?_setCell_other, World.cell?_setCell_same', this]
  · have := hV.c4
    simp [World.cell?_setCell_other, World.cell?_setCell_same', this]
  · exact bdr (below_set (below_set (below_set (hB.trans (hb.mono (by omega))) (Nat.le_refl _) _) (Nat.le_add_right _ _) _) (Nat.le_add_right _ _) _)
theorem box_new (w : World) (v : Value) (t : TypeId) (n : Nat) (hn : w.heap.size = n) : (w.alloc (.cells #[v] t)).cell? ⟨n, 0, none⟩ = some v ∧ (w.alloc (.cells #[v] t)).frozen? ⟨n, 0, none⟩ = false ∧ (w.alloc (.cells #[v] t)).heap.size = n + 1 := by
  subst hn
  exact ⟨cells_new _ _ _ _ _ rfl, by simp, by simp⟩
theorem five_new (w : World) (S : ByteArray) : (((((w.alloc (.cells #[.slice none 0 0] 26)).alloc (.cells #[.int .i64 0] 22)).alloc (.cells #[.int .i64 0] 3)).alloc (.cells #[.slice none 0 0] 26)).alloc (.cells #[.string S] 9)).heap.size = w.heap.size + 5 ∧
    Below w.heap.size w (((((w.alloc (.cells #[.slice none 0 0] 26)).alloc (.cells #[.int .i64 0] 22)).alloc (.cells #[.int .i64 0] 3)).alloc (.cells #[.slice none 0 0] 26)).alloc (.cells #[.string S] 9)) ∧
    Vars (((((w.alloc (.cells #[.slice none 0 0] 26)).alloc (.cells #[.int .i64 0] 22)).alloc (.cells #[.int .i64 0] 3)).alloc (.cells #[.slice none 0 0] 26)).alloc (.cells #[.string S] 9)) w.heap.size (.slice none 0 0) ∧
    (((((w.alloc (.cells #[.slice none 0 0] 26)).alloc (.cells #[.int .i64 0] 22)).alloc (.cells #[.int .i64 0] 3)).alloc (.cells #[.slice none 0 0] 26)).alloc (.cells #[.string S] 9)).cell? ⟨w.heap.size + 4, 0, none⟩ = some (.string S) ∧
    (((((w.alloc (.cells #[.slice none 0 0] 26)).alloc (.cells #[.int .i64 0] 22)).alloc (.cells #[.int .i64 0] 3)).alloc (.cells #[.slice none 0 0] 26)).alloc (.cells #[.string S] 9)).frozen? ⟨w.heap.size + 4, 0, none⟩ = false := by
  obtain ⟨c1, f1, s1⟩ := box_new w (.slice none 0 0) 26 _ rfl
  have b1 := al w (.cells #[.slice none 0 0] 26)
  generalize w.alloc (.cells #[.slice none 0 0] 26) = w1 at *
  obtain ⟨c2, f2, s2⟩ := box_new w1 (.int .i64 0) 22 _ s1
  have b2 := al w1 (.cells #[.int .i64 0] 22)
  generalize w1.alloc (.cells #[.int .i64 0] 22) = w2 at *
  obtain ⟨c3, f3, s3⟩ := box_new w2 (.int .i64 0) 3 _ s2
  have b3 := al w2 (.cells #[.int .i64 0] 3)
  generalize w2.alloc (.cells #[.int .i64 0] 3) = w3 at *
  obtain ⟨c4, f4, s4⟩ := box_new w3 (.slice none 0 0) 26 _ s3
  have b4 := al w3 (.cells #[.slice none 0 0] 26)
  generalize w3.alloc (.cells #[.slice none 0 0] 26) = w4 at *
  obtain ⟨c5, f5, s5⟩ := box_new w4 (.string S) 9 _ s4
  have b5 := al w4 (.cells #[.string S] 9)
  generalize w4.alloc (.cells #[.string S] 9) = w5 at *
  have b45 := b5
  have b35 := bt b4 b5
  have b25 := bt b3 b35
  have b15 := bt b2 b25
  refine ⟨s5, bt b1 b15, ⟨?_, ?_, ?_, ?_, ?_, ?_, ?_, ?_⟩, c5, f5⟩
  · exact (b15.cell (p := ⟨w.heap.size, 0, none⟩) (by show w.heap.size < _; omega)).trans c1
  · exact (b25.cell (p := ⟨w.heap.size + 1, 0, none⟩) (by show w.heap.size + 1 < _; omega)).trans c2
  · exact (b35.cell (p := ⟨w.heap.size + 2, 0, none⟩) (by show w.heap.size + 2 < _; omega)).trans c3
  · exact (b45.cell (p := ⟨w.heap.size + 3, 0, none⟩) (by show w.heap.size + 3 < _; omega)).trans c4
  · exact (b15.frozen (p := ⟨w.heap.size, 0, none⟩) (by show w.heap.size < _; omega)).trans f1
  · exact (b25.frozen (p := ⟨w.heap.size + 1, 0, none⟩) (by show w.heap.size + 1 < _; omega)).trans f2
  · exact (b35.frozen (p := ⟨w.heap.size + 2, 0, none⟩) (by show w.heap.size + 2 < _; omega)).trans f3
  · exact (b45.frozen (p := ⟨w.heap.size + 3, 0, none⟩) (by show w.heap.size + 3 < _; omega)).trans f4
/-- a row of the call's own grows, inside the fence -/
theorem wplIn_appO {H : Type} {F : Fence} {nF : Nat} {P : Program} {w : World} {ops : Array Oper} {rest : List Oper} {o : Oper} {a : Act} {Q : Exit → Act → World → Prop} (hgd : o.guard = none) (s x : Operand) (t : TypeId)
    (ho : o.op = .call { callee := .builtin .append, args := #[s, x], argTypes := #[t, t] })
    (base : Nat) (e : TypeId) (i : TypeInfo) (z : Value) (size bytes : Nat) (ht : P.underlying t = some (.slice e)) (hi : P.info? e = some i) (hz : i.zero = some z)
    (hsize : i.size = size) (hby : i.bytes = bytes) (hzs : z.cells.size = size) (hsz : 0 < size)
    (v : Value) (n : Nat) (xs : List Value) (hs : a.eval s = v) (hown : w.ownsRow base e size v n xs)
    (u : Value) (m : Nat) (news : List Value) (hx : a.eval x = u) (hu : SlN w u size m news) (h1 : ∀ u ∈ news, u.oneCell' = true)
    (h63 : n + m ≤ maxLen) (hbytes : (n + m) * bytes ≤ 140737488355328) (hbase : base ≤ w.heap.size) (hm : 0 < m)
    (h : ∀ v' w', w'.ownsRow base e size v' (n + m) (xs ++ news) → Below base w w' → w.grownBy w' v.ownBlock → (v'.ownBlock = v.ownBlock ∨ v'.ownBlock = some w.heap.size) → wpListIn F nF P ops Q rest (a.put o.dst v') w') : wpListIn F nF P ops Q (o :: rest) a w := by
  obtain ⟨hl, A, c, rfl, hc, hf⟩ := hu
  obtain ⟨b, off, hA, hlt, hcell⟩ := hf hm
  subst hA
  refine wpListIn_append_own_at w hgd s x t ho base e i z size bytes ht hi hz hsize hby hzs hsz v n xs hs hown ⟨b, off, none⟩ m c news hx hl (fun j x hj => ?_) h1 h63 hbytes hbase ?_
  · have := hcell j x hj
    have e : (⟨b, off, none⟩ : Addr).add j = ⟨b, off + j, none⟩ := by
      unfold Addr.add
      split
      · rename_i h0; subst h0; rfl
      · rfl
    rw [e]; exact this
  · intro v' w' h2 h3 _ h5
    exact h v' w' h2 ((Below.refl _ _).grown h3 hbase (fun g hg => (hown.lt g hg).1)) h3 h5
theorem Vars.setFour {W : World} {b : Nat} {v : Value} (h : Vars W b v) (u : Value) : Vars (W.setCell ⟨b + 3, 0, none⟩ u) b u := by
  obtain ⟨h2, h3, h4, h5, g2, g3, g4, g5⟩ := h
  refine ⟨?_, ?_, ?_, ?_, ?_, ?_, ?_, ?_⟩
  · simpa [World.cell?_setCell_other] using h2
  · simpa [World.cell?_setCell_other] using h3
  · simpa [World.cell?_setCell_other] using h4
  · simp [World.cell?_setCell_same', h5]
  · simpa using g2
  · simpa using g3
  · simpa using g4
  · simpa using g5
theorem own_far {B : Nat} {w : World} {v : Value} {pl : List Pv} (h : POT B w v pl) {k : Nat} (hk : k < B) : some k ≠ v.ownBlock := fun e => by have := (h.own.lt k e.symm).1; omega
theorem good_end {s : List UInt8} {w W w5 w6 : World} {pl : List Pv} {A A6 : Option Addr} {cc c6 : Nat} {pre : List (List UInt8)} {x : List UInt8} {P : Pk} {V : Value}
    (hgot : Got (pre ++ [x]) (pl.map (·.p) ++ [P])) (hpl : pl.length = pre.length) (hB : Below w.heap.size w W) (hb : Below W.heap.size W w5) (hV : Vars w6 w.heap.size (.slice A pl.length cc))
    (hP : POT (w.heap.size + 7) w5 (.slice A pl.length cc) pl) (hx : Off (fun k => (Value.slice A pl.length cc).ownBlock = some k ∨ k < w.heap.size + 7) w5 (fun u => Zs u V P.cut))
    (hown : w6.ownsRow (w.heap.size + 7) 48 4 (.slice A6 (pl.length + 1) c6) (pl.length + 1) (pl.flatMap Pv.cells ++ [(⟨P, V⟩ : Pv)].flatMap Pv.cells))
    (hg : w5.grownBy w6 (Value.slice A pl.length cc).ownBlock) (hat : (Value.slice A6 (pl.length + 1) c6).ownBlock = (Value.slice A pl.length cc).ownBlock ∨ (Value.slice A6 (pl.length + 1) c6).ownBlock = some w5.heap.size) (hW : w.heap.size + 5 + 1 < W.heap.size) :
    (∀ k, Three (w.heap.size + 4) (w.heap.size + 5) k → (w6.setCell ⟨w.heap.size + 3, 0, none⟩ (.slice A6 (pl.length + 1) c6)).heap[k]? = W.heap[k]?) ∧ ParI s w (pre ++ [x]) (w6.setCell ⟨w.heap.size + 3, 0, none⟩ (.slice A6 (pl.length + 1) c6)) := by
  have hlt : w.heap.size + 7 ≤ w5.heap.size := Nat.le_trans (by omega) hb.size
  have hkeep : ∀ k, k < w.heap.size + 7 → w6.heap[k]? = W.heap[k]? := fun k hk => (hg.block k (by omega) (own_far hP hk)).trans (hb.block k (by omega))
  refine ⟨fun k hk => ?_, ⟨⟨pl ++ [⟨P, V⟩], A6, c6, by rw [List.length_append, List.length_append, hpl]; rfl, by rw [List.map_append]; exact hgot, ?_, ?_⟩, ?_⟩⟩
  · have h := three_lt hk
    rw [Below.heap_setCell _ _ _ _ (by show k ≠ w.heap.size + 3; omega)]
    exact hkeep k (by omega)
  · rw [List.length_append]; exact hV.setFour _
  · rw [List.length_append]; exact (hP.app ⟨P, V⟩ hx hown hg hat).setCell (by omega) _
  · have h5 : Below w.heap.size w w5 := hB.trans (hb.mono hB.size)
    exact below_set (h5.grown hg h5.size (fun k hk => by have := (hP.own.lt k hk).1; omega)) (Nat.le_add_right _ _) _
theorem Turn.trans {X : Nat → Prop} {W W' W'' : World} (h : Turn X W W') (k : Turn X W' W'') : Turn X W W'' :=
  ⟨k.os.trans h.os, k.tape.trans h.tape, k.output.trans h.output, Nat.le_trans h.size k.size, fun j hj hn => (k.block j (Nat.lt_of_lt_of_le hj h.size) hn).trans (h.block j hj hn)⟩
theorem fin_put {w W : World} (hB : Below w.heap.size w W) (hk : W.heap[w.heap.size + 5]? = some (.deferred (some []))) :
    Turn (fun k => w.heap.size ≤ k ∧ k < w.heap.size + 7) W (W.putObj (w.heap.size + 5) (.deferred none)) ∧ Below w.heap.size w (W.putObj (w.heap.size + 5) (.deferred none)) := by
  have ht : Turn (fun k => w.heap.size ≤ k ∧ k < w.heap.size + 7) W (W.putObj (w.heap.size + 5) (.deferred none)) := Turn.putObj W ⟨by omega, by omega⟩ _
  exact ⟨ht, turn_below hB ht (fun k h => h.1) hB.size⟩
theorem fin_sets {w W : World} {v : Value} (hV : Vars W w.heap.size v) (hk : W.heap[w.heap.size + 5]? = some (.deferred (some []))) :
    Turn (fun k => w.heap.size ≤ k ∧ k < w.heap.size + 7) W (((W.setCell ⟨w.heap.size, 0, none⟩ v).setCell ⟨w.heap.size + 1, 0, none⟩ (.int .i64 0)).setCell ⟨w.heap.size + 2, 0, none⟩ (.int .i64 0)) ∧
    (((W.setCell ⟨w.heap.size, 0, none⟩ v).setCell ⟨w.heap.size + 1, 0, none⟩ (.int .i64 0)).setCell ⟨w.heap.size + 2, 0, none⟩ (.int .i64 0)).heap[w.heap.size + 5]? = some (.deferred (some [])) ∧
    (((W.setCell ⟨w.heap.size, 0, none⟩ v).setCell ⟨w.heap.size + 1, 0, none⟩ (.int .i64 0)).setCell ⟨w.heap.size + 2, 0, none⟩ (.int .i64 0)).cell? ⟨w.heap.size, 0, none⟩ = some v ∧
    (((W.setCell ⟨w.heap.size, 0, none⟩ v).setCell ⟨w.heap.size + 1, 0, none⟩ (.int .i64 0)).setCell ⟨w.heap.size + 2, 0, none⟩ (.int .i64 0)).cell? ⟨w.heap.size + 1, 0, none⟩ = some (.int .i64 0) ∧
    (((W.setCell ⟨w.heap.size, 0, none⟩ v).setCell ⟨w.heap.size + 1, 0, none⟩ (.int .i64 0)).setCell ⟨w.heap.size + 2, 0, none⟩ (.int .i64 0)).cell? ⟨w.heap.size + 2, 0, none⟩ = some (.int .i64 0) := by
  refine ⟨((Turn.setCell W ⟨by omega, by omega⟩ _).trans (Turn.setCell _ ⟨by omega, by omega⟩ _)).trans (Turn.setCell _ ⟨by omega, by omega⟩ _), ?_, ?_, ?_, ?_⟩
  · rw [Below.heap_setCell _ _ _ _ (by show _ ≠ w.heap.size + 2; omega), Below.heap_setCell _ _ _ _ (by show _ ≠ w.heap.size + 1; omega), Below.heap_setCell _ _ _ _ (by show _ ≠ w.heap.size; omega)]
    exact hk
  · have := hV.c2
    simp [World.cell?_setCell_other, World.cell?_setCell_same', this]
  · have := hV.c3
    simp [World.cell?_setCell_other, World.cell?_setCell_same', this]
  · have := hV.c4
    simp [World.cell?_setCell_other, World.cell?_setCell_same', this]
theorem put_cell {W : World} {k b : Nat} {o : Obj} {u : Value} (hne : b ≠ k) (h : W.cell? ⟨b, 0, none⟩ = some u) : (W.putObj k o).cell? ⟨b, 0, none⟩ = some u :=
  (World.cell?_of_block (a := ⟨b, 0, none⟩) (World.putObj_heap_other hne)).trans h
theorem lines_c (S : ByteArray) (w : World) : Calls Tryz.prog 79 #[.string S] w fun e w' => e = .returned (.func (.func 94) #[] #[.pointer (some ⟨w.heap.size, 0, none⟩)]) ∧ w' = w.alloc (.cells #[.string S] 9) := by
  go_enter Tryz.func79, Tryz.ntmps79
  go_wp2_with fail
  go_ret
  exact ⟨rfl, rfl⟩
set_option maxRecDepth 100000 in
set_option maxHeartbeats 8000000 in
theorem pparse_c (s : List UInt8) (hs : s.length ≤ 1000000) (w : World) (hE : Env w) :
    Calls Tryz.prog 65 #[.string (str s)] w (ParPost s w) := by
  obtain ⟨i0, hi0, hz0, hz1, hz2⟩ := info_parts info_pick
  unfold ParPost parseK
  by_cases hbig : s.length ≤ 100000
  · have hnb : ¬ ((100000 : Int) < ((str s).size : Int)) := by rw [str_size]; omega
    have hbi : ((str s).size : Int) ≤ 100000 := by rw [str_size]; omega
    rw [if_pos hbig]
    refine (callsIn_wide (n := 4)).1 ?_
    refine callsIn_of_wp_marks Tryz.func65 rfl trivial ?_ rfl
    simp only [Tryz.ntmps65, List.size_toArray, List.length_cons, List.length_nil, Nat.reduceAdd, Nat.reduceSub, Array.replicate_succ, Array.replicate_zero, List.push_toArray, List.append_toArray, List.nil_append, List.cons_append]
    gi_wp2_with (refine ⟨trivial, ?_⟩; gi_at_call 79; refine (callsIn_wide.2 (lines_c _ _)).mono ?_; rintro e w' ⟨rfl, rfl⟩)
    obtain ⟨hsz5, hb5, hV5, hcs, hfs⟩ := five_new w (str s)
    generalize World.alloc _ _ = wl at hsz5 hb5 hV5 hcs hfs ⊢
    refine range_lines 4 (by omega) (w.heap.size + 4) rfl rfl s hs hcs hfs (by omega) (ParI s w) (ParX s w) (fun pre W W' h ht => h.turn (by rw [hsz5] at ht; exact ht)) (fun W W' h ht => h.turn (by rw [hsz5] at ht; exact ht))
      (fun o1 o2 => ?start) (fun x => { tmps := #[Value.string (str s), undef, Value.pointer (some { block := w.heap.size, off := 0 }), Value.pointer (some { block := w.heap.size + 1, off := 0 }), Value.pointer (some { block := w.heap.size + 2, off := 0 }), Value.pointer (some { block := w.heap.size + 3, off := 0 }), .string (str x), undef, Value.string (str s), Value.int IntKind.i64 ↑(str s).size, Value.bool false, Value.string (str s),
          Value.func (Fn.func 94) #[] #[Value.pointer (some { block := w.heap.size + 4, off := 0 })], .string (str x), undef, undef, undef, undef, undef, undef, undef, undef, undef, undef, undef, undef, undef, undef, undef, undef, undef, undef, undef, undef], defers := [] }) ?assign ?body ?done ?stop
    case start =>
      have hbb := balloc (al wl o1) o2
      exact ⟨⟨[], none, 0, rfl, Got.nil, hV5.same (fun k hk _ hl => hbb.block k hl), ⟨World.ownsRow_nil _ _ _ _, by simp⟩⟩, bt hb5 hbb⟩
    case assign =>
      intro x W K hK
      gi_wp2
      exact hK
    case body =>
      rintro pre x W hpre hI hlt
      rw [hsz5] at hlt ⊢
      obtain ⟨⟨pl, A, cc, hpl, hgot, hV, hP⟩, hB⟩ := hI
      obtain ⟨hxl, hpn⟩ := line_in hpre
      have HTR : Hid (∀ u, CallsIn Fence.wide 1 Tryz.prog 81 #[.string (str x), .string ⟨#[10]⟩] u fun e w' => e = .returned (.string (str (trimK x))) ∧ w' = u) := fun u => by
        have h := Tryz.strings_TrimSuffix (str x) ⟨#[10]⟩ u (by rw [str_size]; omega)
        rw [str_data] at h
        exact callsIn_wide.2 h
      have HPK : Hid (CallsIn Fence.wide 1 Tryz.prog 80 #[.string (str (trimK x))] W (PickPost (pickP (splitK (trimK x))) W)) := callsIn_wide.2 (ppick_c _ (by have := trim_len x; omega) W (hE.below hB))
      have HGOT := Lib.hid hgot
      have HCL : Hid ((pickP (splitK (trimK x))).cut.length ≤ 4611686018427387904) := by have h1 := pick_len (splitK (trimK x)); have h2 := (split_le (trimK x)).2; have h3 := trim_len x; show _ ≤ _; omega
      have HY : Hid (rightK (pickP (splitK (trimK x))) = true → lineK (pickP (splitK (trimK x))) ++ [10] = x → progL x = some (pickP (splitK (trimK x)))) := fun h1 h2 => if_pos ⟨h1, h2⟩
      have HN : Hid (¬ (rightK (pickP (splitK (trimK x))) = true ∧ lineK (pickP (splitK (trimK x))) ++ [10] = x) → parG [] s = .error pl.length) := fun h => by
        have := hgot.bad (x := x) (if_neg h) hpre
        rwa [List.length_map] at this
      have HV := Lib.hid hV
      have HP := Lib.hid hP
      have HB := Lib.hid hB
      have HPL := Lib.hid hpl
      have HW : Hid (w.heap.size + 4 < W.heap.size) := by show _ < _; omega
      clear hgot hV hP hB hpl hb5 hV5 hcs hfs hsz5 hpre
      generalize pickP (splitK (trimK x)) = P at HPK HY HN HCL
      have hmx : Tryz.prog.follows .mixedOrders = true := by kernel_rfl
      cases hr : rightK P
      · have HER := Lib.hid (HN.out (fun h => by rw [hr] at h; cases h.1))
        have HRT : Hid (∀ V u, P.cut.length ≤ 4611686018427387904 → Zs u V P.cut → CallsIn Fence.wide 1 Tryz.prog 25 #[.agg #[.int .i64 P.kind, .int .i64 P.t, .int .i64 P.i, V]] u fun e w' => e = .returned (.bool false) ∧ Below u.heap.size u w') := fun V u hl hz => by
          have h := pRight_c P V u hl hz
          rw [hr] at h
          exact callsIn_wide.2 h
        clear HY HN hr
        gi_wp2_with (first
          | (refine ⟨trivial, ?_⟩; gi_at_call 81; refine (CallsIn.inRound _ (HTR.out _)).mono ?_; rintro e w1 ⟨rfl, hw1⟩; obtain rfl := hw1.symm)
          | (refine ⟨trivial, ?_⟩; gi_at_call 80; refine (CallsIn.inRound _ HPK.out).mono ?_; rintro e w2 ⟨A2, c2, rfl, hO2, hb2⟩; have hz3 := (hO2.below (al w2 (.cells #[.int .i64 P.kind, .int .i64 P.t, .int .i64 P.i, .slice A2 P.cut.length c2] 48))).now; unfold pkV)
          | (refine ⟨trivial, ?_⟩; gi_at_call 25; refine (CallsIn.inRound _ (HRT.out _ _ HCL.out hz3)).mono ?_; rintro e w4 ⟨rfl, hb4⟩; have hb4' := bt (balloc hb2 _) hb4; have hV4 := HV.out.same (fun k hk _ hl => hb4'.block k hl); have c2' := hV4.c2; have c3' := hV4.c3; have c4' := hV4.c4; have c5' := hV4.c5; have f2' := hV4.f2; have f3' := hV4.f3; have f4' := hV4.f4; have f5' := hV4.f5)
          | (refine ⟨trivial, ?_⟩))
        gi_region_with_o (fail)
        all_goals
          gi_wp2
          exact bad_end HER.out HB.out hb4' hV4 hlt
      · have HRT : Hid (∀ V u, P.cut.length ≤ 4611686018427387904 → Zs u V P.cut → CallsIn Fence.wide 1 Tryz.prog 25 #[.agg #[.int .i64 P.kind, .int .i64 P.t, .int .i64 P.i, V]] u fun e w' => e = .returned (.bool true) ∧ Below u.heap.size u w') := fun V u hl hz => by
          have h := pRight_c P V u hl hz
          rw [hr] at h
          exact callsIn_wide.2 h
        have HLN : Hid (∀ V u, Zs u V P.cut → Env u → CallsIn Fence.wide 1 Tryz.prog 53 #[.agg #[.int .i64 P.kind, .int .i64 P.t, .int .i64 P.i, V]] u fun e w' => e = .returned (.string (str (lineK P))) ∧ Below u.heap.size u w') := fun V u hz he => callsIn_wide.2 (pline_c P hr V u hz he)
        have HEW : Hid (∀ u, Below W.heap.size W u → Env u) := fun u hu => (hE.below HB.out).below hu
        have hm1 : (str (lineK P)).size ≤ 1000 := by have := line_len P hr; rw [str_size]; omega
        have hnx : (lineK P ++ [10] == x) = ((str (lineK P) ++ ⟨#[10]⟩).toList == (str x).toList) := by
          have e : str (lineK P) ++ ⟨#[10]⟩ = str (lineK P ++ [10]) := str_snoc _ _
          rw [e, str_toList, str_toList]
        have HNX := Lib.hid hnx
        clear hnx
        by_cases hx : lineK P ++ [10] = x
        · have HG2 : Hid (Got (pre ++ [x]) (pl.map (·.p) ++ [P])) := HGOT.out.snoc (HY.out hr hx)
          have h1 : ((str (lineK P) ++ ⟨#[10]⟩).toList == (str x).toList) = true := by rw [← HNX.out]; simpa using hx
          have h2 : ((str (lineK P) ++ ⟨#[10]⟩).toList != (str x).toList) = false := by unfold bne; rw [h1]; rfl
          have HT4 : Hid (pl.length + 1 ≤ maxLen ∧ (pl.length + 1) * 48 ≤ 140737488355328) := by have := HPL.out; show _ ∧ _; unfold maxLen; constructor <;> omega
          have HWS : Hid (w.heap.size + 7 ≤ W.heap.size) := by show _ ≤ _; omega
          clear HY HN hr hx HNX HGOT hpn
          generalize str (lineK P) = L at HLN hm1 h1 h2
          gi_wp2_with (first
            | (refine ⟨trivial, ?_⟩; gi_at_call 81; refine (CallsIn.inRound _ (HTR.out _)).mono ?_; rintro e w1 ⟨rfl, hw1⟩; obtain rfl := hw1.symm)
            | (refine ⟨trivial, ?_⟩; gi_at_call 80; refine (CallsIn.inRound _ HPK.out).mono ?_; rintro e w2 ⟨A2, c2, rfl, hO2, hb2⟩; have hO3 := hO2.below (al w2 (.cells #[.int .i64 P.kind, .int .i64 P.t, .int .i64 P.i, .slice A2 P.cut.length c2] 48)); have hz3 := hO3.now; unfold pkV)
            | (refine ⟨trivial, ?_⟩; gi_at_call 25; refine (CallsIn.inRound _ (HRT.out _ _ HCL.out hz3)).mono ?_; rintro e w4 ⟨rfl, hb4⟩; have hb4' := bt (balloc hb2 _) hb4; have hz4 := SlN.below hz3 hb4; have hp4 := (pkB_new w2 P (.slice A2 P.cut.length c2)).below hb4 (by simp); have p0 := hp4.at_.kind; have p1 := hp4.at_.t; have p2 := hp4.at_.i; have p3 := hp4.at_.cut)
            | (refine ⟨trivial, ?_⟩; gi_at_call 53; refine (CallsIn.inRound _ (HLN.out _ _ hz4 (HEW.out _ hb4'))).mono ?_; rintro e w5 ⟨rfl, hb5⟩; have hb5' := bt hb4' hb5; have hV4 := HV.out.same (fun k hk _ hl => hb5'.block k hl); have c5' := hV4.c5; have f5' := hV4.f5; have hp5 := hp4.below hb5 (by have := hb4.size; rw [World.size_alloc] at this; omega); have q0 := hp5.at_.kind; have q1 := hp5.at_.t; have q2 := hp5.at_.i; have q3 := hp5.at_.cut; have hP5 := HP.out.below (balloc hb5' (.cells #[.int .i64 P.kind, .int .i64 P.t, .int .i64 P.i, .slice A2 P.cut.length c2] 48)); have hsz5 : w.heap.size + 7 ≤ w5.heap.size := Nat.le_trans HWS.out hb5'.size)
            | (gi_at_builtin; refine wplIn_appO (H := Unit) rfl _ _ 26 rfl (w.heap.size + 7) 48 i0 _ 4 48 Tryz.underlying26 hi0 hz0 hz1 hz2 rfl (by decide) (.slice A pl.length cc) pl.length (pl.flatMap Pv.cells) rfl hP5.own (.slice (some ⟨w5.heap.size, 0, none⟩) 1 1) 1 ([(⟨P, .slice A2 P.cut.length c2⟩ : Pv)].flatMap Pv.cells) rfl (sl_pick w5 ⟨P, .slice A2 P.cut.length c2⟩) (pick_one _ (by simp [Value.oneCell'])) HT4.out.1 HT4.out.2 (Nat.le_trans hsz5 (al w5 _).size) (by decide) ?_; intro v6 w6 hown6 hb6 hg6 hat6; obtain ⟨A6, c6, rfl⟩ := own_shape hown6; have hV6 := (HV.out.same (fun k hk _ hl => (balloc hb5' _).block k hl)).same (fun k hk _ hl => hg6.block k hl (own_far hP5 (by omega))); have c6' := hV6.c5; have f6' := hV6.f5)
            | (refine ⟨trivial, ?_⟩))
          exact good_end HG2.out HPL.out HB.out (balloc hb5' _) hV6 hP5 (((hO3.below hb4).below hb5).below (al w5 _) |>.mono (fun k _ hk => by rcases hk with hk | hk; exact (HP.out.own.lt k hk).2; exact Nat.lt_of_lt_of_le hk HWS.out)) hown6 hg6 hat6 hlt
        · have HER := Lib.hid (HN.out (fun h => hx h.2))
          have h1 : ((str (lineK P) ++ ⟨#[10]⟩).toList == (str x).toList) = false := by rw [← HNX.out]; simpa using hx
          have h2 : ((str (lineK P) ++ ⟨#[10]⟩).toList != (str x).toList) = true := by unfold bne; rw [h1]; rfl
          clear HY HN hr hx HNX
          generalize str (lineK P) = L at HLN hm1 h1 h2
          gi_wp2_with (first
            | (refine ⟨trivial, ?_⟩; gi_at_call 81; refine (CallsIn.inRound _ (HTR.out _)).mono ?_; rintro e w1 ⟨rfl, hw1⟩; obtain rfl := hw1.symm)
            | (refine ⟨trivial, ?_⟩; gi_at_call 80; refine (CallsIn.inRound _ HPK.out).mono ?_; rintro e w2 ⟨A2, c2, rfl, hO2, hb2⟩; have hz3 := (hO2.below (al w2 (.cells #[.int .i64 P.kind, .int .i64 P.t, .int .i64 P.i, .slice A2 P.cut.length c2] 48))).now; unfold pkV)
            | (refine ⟨trivial, ?_⟩; gi_at_call 25; refine (CallsIn.inRound _ (HRT.out _ _ HCL.out hz3)).mono ?_; rintro e w4 ⟨rfl, hb4⟩; have hb4' := bt (balloc hb2 _) hb4; have hz4 := SlN.below hz3 hb4; have hp4 := (pkB_new w2 P (.slice A2 P.cut.length c2)).below hb4 (by simp); have p0 := hp4.at_.kind; have p1 := hp4.at_.t; have p2 := hp4.at_.i; have p3 := hp4.at_.cut)
            | (refine ⟨trivial, ?_⟩; gi_at_call 53; refine (CallsIn.inRound _ (HLN.out _ _ hz4 (HEW.out _ hb4'))).mono ?_; rintro e w5 ⟨rfl, hb5⟩; have hb5' := bt hb4' hb5; have hV4 := HV.out.same (fun k hk _ hl => hb5'.block k hl); have c2' := hV4.c2; have c3' := hV4.c3; have c4' := hV4.c4; have c5' := hV4.c5; have f2' := hV4.f2; have f3' := hV4.f3; have f4' := hV4.f4; have f5' := hV4.f5)
            | (refine ⟨trivial, ?_⟩))
          gi_region_with_o (fail)
          all_goals
            gi_wp2
            exact bad_end HER.out HB.out hb5' hV4 hlt
    case done =>
      rintro W hI hk hlt
      rw [hsz5] at hk hlt ⊢
      obtain ⟨⟨pl, A, cc, hpl, hgot, hV, hP⟩, hB⟩ := hI
      have HR := Lib.hid hgot.fin
      have HP := Lib.hid hP
      have HB := Lib.hid hB
      have c2' := hV.c2; have c3' := hV.c3; have c4' := hV.c4; have c5' := hV.c5; have f2' := hV.f2; have f3' := hV.f3; have f4' := hV.f4; have f5' := hV.f5
      have HV := Lib.hid hV
      clear hgot hP hB hpl hb5 hV5 hcs hfs hsz5 hV
      gi_wp2
      obtain ⟨ht, hk3, e2, e3, e4⟩ := fin_sets HV.out hk
      have hB3 := turn_below HB.out ht (fun k h => h.1) HB.out.size
      have hP3 := HP.out.turn ht (fun k h => h.2)
      rw [show w.heap.size + 1 + 1 = w.heap.size + 2 from rfl]
      generalize World.setCell _ _ _ = W3 at ht hk3 e2 e3 e4 hB3 hP3 ⊢
      refine ⟨by simp, .inl ⟨_, _, rfl, run_takeDeferred hk3, ?_⟩⟩
      obtain ⟨ht4, hB4⟩ := fin_put hB3 hk3
      have hP4 := hP3.turn ht4 (fun k h => h.2)
      have k2 := put_cell (k := w.heap.size + 5) (o := .deferred none) (by omega) e2
      have k3 := put_cell (k := w.heap.size + 5) (o := .deferred none) (by omega) e3
      have k4 := put_cell (k := w.heap.size + 5) (o := .deferred none) (by omega) e4
      generalize World.putObj _ _ _ = W4 at hB4 hP4 k2 k3 k4 ⊢
      refine ⟨.tuple #[.slice A pl.length cc, .int .i64 0, .int .i64 0], by simp [results, Tryz.results65, go_sem, k2, k3, k4]; try rfl, ?_⟩
      rw [HR.out]
      exact ⟨_, rfl, hP4.offPks (by omega), hB4⟩
    case stop =>
      rintro W hI hk hlt
      rw [hsz5] at hk hlt ⊢
      obtain ⟨⟨n, hE, d2, d3, d4⟩, hB⟩ := hI
      have HR := Lib.hid hE
      have HB := Lib.hid hB
      clear hE hB hb5 hV5 hcs hfs hsz5
      gi_wp2
      refine ⟨by simp, .inl ⟨_, _, rfl, run_takeDeferred hk, ?_⟩⟩
      obtain ⟨ht4, hB4⟩ := fin_put HB.out hk
      have k2 := put_cell (k := w.heap.size + 5) (o := .deferred none) (by omega) d2
      have k3 := put_cell (k := w.heap.size + 5) (o := .deferred none) (by omega) d3
      have k4 := put_cell (k := w.heap.size + 5) (o := .deferred none) (by omega) d4
      generalize World.putObj _ _ _ = W4 at hB4 k2 k3 k4 ⊢
      refine ⟨.tuple #[.slice none 0 0, .int .i64 8, .int .i64 n], by simp [results, Tryz.results65, go_sem, k2, k3, k4]; try rfl, ?_⟩
      rw [HR.out]
      exact ⟨_, rfl, off_pks_nil _ _, hB4⟩
  · have hbi : (100000 : Int) < ((str s).size : Int) := by rw [str_size]; omega
    rw [if_neg hbig]
    go_enter Tryz.func65, Tryz.ntmps65
    go_wp2_with fail
    refine bodyPost_ret (v := .tuple #[.slice none 0 0, .int .i64 2, .int .i64 0]) (by simp [results, Tryz.results65, go_sem]; try rfl) rfl ?_
    exact ⟨_, rfl, off_pks_nil _ _, by repeat (first | exact Below.refl _ _ | exact al _ _ | refine below_set ?_ (by simp; try omega) _ | refine balloc ?_ _)⟩
end Go.Proofs.YtcgcndmlgfnjbaaGreatDoor

/- What the words of a schedule mean: the program's walk; a line cut at blanks: plain. -/
import Derived.Test.YtcgcndmlgfnjbaaGreatDoorSchE
import Derived.Maps.Own
import Derived.Maps.OwnSet
import Derived.Maps.OwnOps
import Derived.Maps.Views
import Derived.StringKeys
import Derived.Lib.Split
namespace Go.Proofs.YtcgcndmlgfnjbaaGreatDoor
open Go Go.RowKit Go.Maps
set_option linter.unusedVariables false
/-! ### cut at blanks -/
theorem idx_blank : ∀ s : List UInt8, (Lib.index s [32] = -1 ∧ 32 ∉ s) ∨ ∃ a b, s = a ++ 32 :: b ∧ 32 ∉ a ∧ Lib.index s [32] = (a.length : Int)
  | [] => .inl ⟨by unfold Lib.index; rfl, by simp⟩
  | c :: l => by
    by_cases hc : c = 32
    · subst hc
      exact .inr ⟨[], l, rfl, by simp, by unfold Lib.index; simp⟩
    · have hp : ([32] : List UInt8).isPrefixOf (c :: l) = false := by
        simp [List.isPrefixOf]; exact fun e => hc e.symm
      rcases idx_blank l with ⟨h1, h2⟩ | ⟨a, b, rfl, h2, h3⟩
      · refine .inl ⟨?_, by simp; exact ⟨fun e => hc e.symm, h2⟩⟩
        unfold Lib.index
        rw [hp, h1]; rfl
      · refine .inr ⟨c :: a, b, rfl, by simp; exact ⟨fun e => hc e.symm, h2⟩, ?_⟩
        unfold Lib.index
        rw [hp, h3]
        have : ¬ ((a.length : Int) == -1) = true := by simp
        rw [if_neg (by decide), if_neg this]; simp
theorem split_lib : ∀ (n : Nat) (s : List UInt8), s.length ≤ n → Lib.splitK [32] 0 (Lib.count s [32]) s = splitK s
  | n, s, hn => by
    rcases idx_blank s with ⟨h1, h2⟩ | ⟨a, b, rfl, h2, h3⟩
    · rw [Lib.count_miss h1, split_one s h2]; rfl
    · have hc := Lib.count_hit (s := a ++ 32 :: b) (sub := [32]) (i := a.length) (by simp) h3
      have hd : (a ++ 32 :: b).drop (a.length + ([32] : List UInt8).length) = b := by
        rw [show a ++ 32 :: b = (a ++ [32]) ++ b by simp, List.drop_left' (by simp)]
      rw [hd] at hc
      rw [hc, Nat.add_comm, Lib.splitK, h3, if_neg (by simp), split_app a b h2]
      have e1 : ((a.length : Int).toNat) = a.length := by simp
      rw [e1, hd, Nat.add_zero, List.take_left]
      match n, hn with
      | 0, hn => simp at hn
      | n + 1, hn => rw [split_lib n b (by simp at hn; omega)]
theorem count_split (s : List UInt8) : Lib.count s [32] + 1 = (splitK s).length := by
  have h := Lib.splitB_all ⟨#[32]⟩ (by decide) 0 _ (str s) rfl
  have h2 := Lib.splitB_data ⟨#[32]⟩ 0 (Lib.countB (str s) ⟨#[32]⟩) (str s)
  have e : Lib.countB (str s) ⟨#[32]⟩ = Lib.count s [32] := by unfold Lib.countB; rw [str_data]
  rw [e] at h h2
  have h3 := congrArg List.length h2
  rw [List.length_map, h, str_data] at h3
  have h4 : Lib.splitK [32] 0 (Lib.count s [32]) s = splitK s := split_lib _ s (Nat.le_refl _)
  rw [show (⟨#[32]⟩ : ByteArray).data.toList = [32] from rfl, h4] at h3
  exact h3
theorem split_cells (s : List UInt8) : (Lib.splitB ⟨#[32]⟩ 0 (Lib.count s [32]) (str s)).map Value.string = (splitK s).map fun t => Value.string (str t) := by
  have h2 := Lib.splitB_data ⟨#[32]⟩ 0 (Lib.count s [32]) (str s)
  rw [str_data, show (⟨#[32]⟩ : ByteArray).data.toList = [32] from rfl, split_lib _ s (Nat.le_refl _)] at h2
  rw [← h2, List.map_map]
  refine List.map_congr_left fun x _ => ?_
  show Value.string x = Value.string (str x.data.toList)
  rw [str_of]
theorem flat_strs (l : List (List UInt8)) : l.flatMap strCell = l.map fun t => Value.string (str t) := by
  induction l with
  | nil => rfl
  | cons a l ih => rw [List.flatMap_cons, ih]; rfl
theorem strs_made (w : World) (l : List (List UInt8)) : Strs (w.alloc (.cells (l.map fun t => Value.string (str t)).toArray 9)) (.slice (some ⟨w.heap.size, 0, none⟩) l.length l.length) l := by
  have := sl_lit w (l.map fun t => Value.string (str t)) 9 1 l.length l.length (by simp) (Nat.le_refl _)
  show SlN _ _ 1 _ _
  rw [flat_strs]
  exact this
theorem psplit_c (s : List UInt8) (hs : s.length ≤ 1000000) (w : World) (hE : Env w) :
    Calls Tryz.prog 61 #[.string (str s), .string ⟨#[32]⟩] w fun e w' => e = .returned (.slice (some ⟨w.heap.size, 0, none⟩) (splitK s).length (splitK s).length) ∧ Strs w' (.slice (some ⟨w.heap.size, 0, none⟩) (splitK s).length (splitK s).length) (splitK s) ∧ Below w.heap.size w w' := by
  obtain ⟨m, hm⟩ := hE.mlen
  have h := Tryz.strings_Split (str s) ⟨#[32]⟩ m w (by rw [str_size]; omega) hm (by decide)
  have e : Lib.countB (str s) ⟨#[32]⟩ = Lib.count s [32] := by unfold Lib.countB; rw [str_data]
  rw [e, count_split, split_cells] at h
  refine h.mono ?_
  rintro e w' ⟨he, rfl⟩
  exact ⟨he, strs_made w _, al _ _⟩
/-! ### the map of kinds -/
def KindD (D : DataW Unit) (k : Nat) : Prop := IsMap D ∧ ∀ s : List UInt8, D.atKey (.string s) (.lit (.int .i64 0)) = .lit (.int .i64 (if s = wStep ∧ 1 ≤ k then 1 else if s = wOut ∧ 2 ≤ k then 2 else if s = wCrash ∧ 3 ≤ k then 3 else 0))
theorem kindD_zero : KindD (.map []) 0 := ⟨⟨_, rfl⟩, fun s => by simp; rfl⟩
theorem kindD_one {D : DataW Unit} (h : KindD D 0) : KindD (D.put (.string wStep) (.lit (.int .i64 1))) 1 := by
  refine ⟨h.1.put _ _, fun s => ?_⟩
  by_cases he : s = wStep
  · rw [he, atKey_put_same h.1 (k := .string wStep) trivial]; simp
  · rw [atKey_put_other (by intro e; injection e with e; exact he e), h.2 s]; simp [he]
theorem kindD_two {D : DataW Unit} (h : KindD D 1) : KindD (D.put (.string wOut) (.lit (.int .i64 2))) 2 := by
  refine ⟨h.1.put _ _, fun s => ?_⟩
  by_cases he : s = wOut
  · rw [he, atKey_put_same h.1 (k := .string wOut) trivial]; simp [wOut, wStep]
  · rw [atKey_put_other (by intro e; injection e with e; exact he e), h.2 s]; simp [he]
theorem kindD_three {D : DataW Unit} (h : KindD D 2) : KindD (D.put (.string wCrash) (.lit (.int .i64 3))) 3 := by
  refine ⟨h.1.put _ _, fun s => ?_⟩
  by_cases he : s = wCrash
  · rw [he, atKey_put_same h.1 (k := .string wCrash) trivial]; simp [wCrash, wOut, wStep]
  · rw [atKey_put_other (by intro e; injection e with e; exact he e), h.2 s]; simp [he]
theorem kindD_is {D : DataW Unit} (h : KindD D 3) (s : List UInt8) : D.atKey (.string s) (.lit (.int .i64 0)) = .lit (.int .i64 (kindK s)) := by
  rw [h.2 s]; unfold kindK; simp
structure KindM (g n : Nat) (k : Nat) (w w' : World) : Prop where
  below : Below n w w'
  own : ∃ D, w'.ownsMap Tryz.prog 9 (plainElem Tryz.prog 3) g k D ∧ KindD D k
theorem key_of (s : List UInt8) (hs : s.length ≤ 1000000) : keyOf Tryz.prog 9 (.string (str s)) = some (.string s) := by
  have := WideMaps.keyOf_string_mk (P := Tryz.prog) (k := 9) Tryz.underlying9 (s := str s) (by rw [str_size]; unfold maxLen; omega)
  rw [str_data] at this; exact this
theorem kind_put {g n k : Nat} {w w1 : World} (h : KindM g n k w w1) (hg : n ≤ g) (s : List UInt8) (hs : s.length ≤ 1000) (hk : k < 3) (m : Int) (hm : (Lit.int .i64 m).wf = true) (hst : ∀ D, KindD D k → KindD (D.put (.string s) (.lit (.int .i64 m))) (k + 1)) :
    ∃ w2, (Instr.mapUpdate 114 (.map (some g)) (.string (str s)) (.int .i64 m)).run Tryz.prog w1 = .ok () w2 ∧ KindM g n (k + 1) w w2 := by
  obtain ⟨D, hown, hD⟩ := h.own
  obtain ⟨w2, hrun, h1, h2⟩ := hown.update (string_keyed Tryz.underlying9) Tryz.underlying114 (by unfold maxLen; omega) (key_of s (by omega)) (plainElem_int Tryz.underlying3 hm)
  exact ⟨w2, hrun, h.below.grown h2 (by have := hown.lt; omega) (fun k e => by cases e; exact hg), _, h1, hst D hD⟩
set_option maxRecDepth 100000 in
theorem kinds_c (w : World) : Calls Tryz.prog 96 #[] w fun e w' => ∃ g, e = .returned (.map (some g)) ∧ KindM g w.heap.size 3 w w' := by
  have hmm := @run_makeMap Tryz.prog
  have h0 : KindM w.heap.size w.heap.size 0 w (w.alloc (.map #[] 0)) := ⟨(Below.refl _ _).alloc (Nat.le_refl _) _, .map [], World.ownsMap_made w _ _ _, kindD_zero⟩
  obtain ⟨w1, r1, h1⟩ := kind_put h0 (Nat.le_refl _) wStep (by decide) (by decide) 1 (by decide) (fun D hD => kindD_one hD)
  obtain ⟨w2, r2, h2⟩ := kind_put h1 (Nat.le_refl _) wOut (by decide) (by decide) 2 (by decide) (fun D hD => kindD_two hD)
  obtain ⟨w3, r3, h3⟩ := kind_put h2 (Nat.le_refl _) wCrash (by decide) (by decide) 3 (by decide) (fun D hD => kindD_three hD)
  have H3 := Lib.hid h3
  clear h0 h1 h2 h3
  have r1' : (Instr.mapUpdate 114 (.map (some w.heap.size)) (.string ⟨#[115, 116, 101, 112]⟩) (.int .i64 1)).run Tryz.prog (w.alloc (.map #[] 0)) = .ok () w1 := r1
  have r2' : (Instr.mapUpdate 114 (.map (some w.heap.size)) (.string ⟨#[111, 117, 116]⟩) (.int .i64 2)).run Tryz.prog w1 = .ok () w2 := r2
  have r3' : (Instr.mapUpdate 114 (.map (some w.heap.size)) (.string ⟨#[99, 114, 97, 115, 104]⟩) (.int .i64 3)).run Tryz.prog w2 = .ok () w3 := r3
  go_enter Tryz.func96, Tryz.ntmps96
  go_wp2_with fail
  go_ret
  exact ⟨_, rfl, H3.out⟩
theorem zero_int (w : World) : (zeroValue 3).run Tryz.prog w = .ok (.int .i64 0) w := by kernel_rfl
/-- what the map tells of a word -/
theorem int_lit {a b : Int} {c d : List MemPlace} (h : ((DataW.lit (H := Unit) (.int .i64 b)), d) = (.lit (.int .i64 a), c)) : b = a := by
  injection h with h _
  injection h with h
  injection h with _ h
set_option maxRecDepth 100000 in
theorem kind_look {g n : Nat} {w w1 : World} (h : KindM g n 3 w w1) (s : List UInt8) (hs : s.length ≤ 1000000) (k : Nat) :
    (Instr.lookup 114 (.map (some g)) (.string (str s)) false).run Tryz.prog (w1.drewN k) = .ok (.int .i64 (kindK s)) (w1.drewN k) := by
  obtain ⟨D, hown, hD⟩ := h.own
  have hown2 : (w1.drewN k).ownsMap Tryz.prog 9 (plainElem Tryz.prog 3) g 3 D := hown
  obtain ⟨v, ps, hrun, hv⟩ := hown2.lookup (string_keyed Tryz.underlying9) Tryz.underlying114 (zero_int _) (plainElem_int Tryz.underlying3 (by decide)) (key_of s hs)
  rw [kindD_is hD s] at hv
  obtain ⟨a, rfl, hz, _⟩ := plainElem_int_inv Tryz.underlying3 hv
  rw [hrun, int_lit hz]
theorem kind_alloc {g k : Nat} {w w1 : World} (h : KindM g w.heap.size k w w1) (o : Obj) : KindM g w.heap.size k w (w1.alloc o) := by
  obtain ⟨D, hown, hD⟩ := h.own
  exact ⟨h.below.alloc h.below.size o, D, hown.alloc o, hD⟩
theorem kind_lookA {g : Nat} {w w1 : World} (h : KindM g w.heap.size 3 w w1) (s : List UInt8) (hs : s.length ≤ 1000000) (k : Nat) (o : Obj) :
    (Instr.lookup 114 (.map (some g)) (.string (str s)) false).run Tryz.prog ((w1.drewN k).alloc o) = .ok (.int .i64 (kindK s)) ((w1.drewN k).alloc o) := kind_look (kind_alloc h o) s hs k
/-- a block that was made ahead of the call -/
theorem below_undrew {B : Nat} {a w : World} (h : Below B a.drew w) : Below B a w := ⟨h.os, h.tape, h.output, h.size, h.block⟩
theorem kind_kept {w w1 : World} {a b c d : Value} {t : TypeId} (hb : Below (w.alloc (.cells #[a, b, c, d] t)).heap.size (w.alloc (.cells #[a, b, c, d] t)) w1) (n : Nat) (hn : w.heap.size = n) :
    w1.cell? ⟨n, 0, none⟩ = some a ∧ w1.cell? ⟨n, 1, none⟩ = some b ∧ w1.cell? ⟨n, 2, none⟩ = some c ∧ w1.cell? ⟨n, 3, none⟩ = some d ∧
    w1.frozen? ⟨n, 0, none⟩ = false ∧ w1.frozen? ⟨n, 1, none⟩ = false ∧ w1.frozen? ⟨n, 2, none⟩ = false ∧ w1.frozen? ⟨n, 3, none⟩ = false ∧ n < w1.heap.size := by
  subst hn
  have hlt : w.heap.size < (w.alloc (.cells #[a, b, c, d] t)).heap.size := by rw [World.size_alloc]; omega
  exact ⟨(hb.cell (p := ⟨_, 0, none⟩) hlt).trans (cells_new _ _ _ _ _ rfl), (hb.cell (p := ⟨_, 1, none⟩) hlt).trans (cells_new _ _ _ _ _ rfl), (hb.cell (p := ⟨_, 2, none⟩) hlt).trans (cells_new _ _ _ _ _ rfl), (hb.cell (p := ⟨_, 3, none⟩) hlt).trans (cells_new _ _ _ _ _ rfl),
    (hb.frozen (p := ⟨_, 0, none⟩) hlt).trans (by simp), (hb.frozen (p := ⟨_, 1, none⟩) hlt).trans (by simp), (hb.frozen (p := ⟨_, 2, none⟩) hlt).trans (by simp), (hb.frozen (p := ⟨_, 3, none⟩) hlt).trans (by simp), Nat.lt_of_lt_of_le hlt hb.size⟩
/-- a block that holds a pick, of the call's own -/
structure PkB (w : World) (b : Nat) (p : Pk) (v : Value) : Prop where
  at_ : PkAt w b 0 p v
  f0 : w.frozen? ⟨b, 0, none⟩ = false
  f1 : w.frozen? ⟨b, 1, none⟩ = false
  f2 : w.frozen? ⟨b, 2, none⟩ = false
  f3 : w.frozen? ⟨b, 3, none⟩ = false
theorem PkB.below {B : Nat} {w w' : World} {b : Nat} {p : Pk} {v : Value} (h : PkB w b p v) (hb : Below B w w') (hlt : b < B) : PkB w' b p v :=
  ⟨⟨(hb.cell (p := ⟨b, 0, none⟩) hlt).trans h.at_.kind, (hb.cell (p := ⟨b, 0 + 1, none⟩) hlt).trans h.at_.t, (hb.cell (p := ⟨b, 0 + 2, none⟩) hlt).trans h.at_.i, (hb.cell (p := ⟨b, 0 + 3, none⟩) hlt).trans h.at_.cut⟩,
    (hb.frozen (p := ⟨b, 0, none⟩) hlt).trans h.f0, (hb.frozen (p := ⟨b, 1, none⟩) hlt).trans h.f1, (hb.frozen (p := ⟨b, 2, none⟩) hlt).trans h.f2, (hb.frozen (p := ⟨b, 3, none⟩) hlt).trans h.f3⟩
theorem pkB_new (w : World) (p : Pk) (v : Value) : PkB (w.alloc (.cells #[.int .i64 p.kind, .int .i64 p.t, .int .i64 p.i, v] 48)) w.heap.size p v :=
  ⟨⟨cells_new _ _ _ _ _ rfl, cells_new _ _ _ _ _ rfl, cells_new _ _ _ _ _ rfl, cells_new _ _ _ _ _ rfl⟩, by simp, by simp, by simp, by simp⟩
theorem keep4 {w : World} {n m : Nat} (h : ¬ (m = n)) {a b c d u : Value} (hc : w.cell? ⟨m, 0, none⟩ = some u) : ((((w.setCell ⟨n, 0, none⟩ a).setCell ⟨n, 1, none⟩ b).setCell ⟨n, 2, none⟩ c).setCell ⟨n, 3, none⟩ d).cell? ⟨m, 0, none⟩ = some u := by
  simp [World.cell?_setCell_other, hc]
theorem set4_kept {w : World} {n : Nat} {a b c d p0 p1 p2 p3 : Value} (h0 : w.cell? ⟨n, 0, none⟩ = some p0) (h1 : w.cell? ⟨n, 1, none⟩ = some p1) (h2 : w.cell? ⟨n, 2, none⟩ = some p2) (h3 : w.cell? ⟨n, 3, none⟩ = some p3) :
    ((((w.setCell ⟨n, 0, none⟩ a).setCell ⟨n, 1, none⟩ b).setCell ⟨n, 2, none⟩ c).setCell ⟨n, 3, none⟩ d).cell? ⟨n, 0, none⟩ = some a ∧
    ((((w.setCell ⟨n, 0, none⟩ a).setCell ⟨n, 1, none⟩ b).setCell ⟨n, 2, none⟩ c).setCell ⟨n, 3, none⟩ d).cell? ⟨n, 1, none⟩ = some b ∧
    ((((w.setCell ⟨n, 0, none⟩ a).setCell ⟨n, 1, none⟩ b).setCell ⟨n, 2, none⟩ c).setCell ⟨n, 3, none⟩ d).cell? ⟨n, 2, none⟩ = some c ∧
    ((((w.setCell ⟨n, 0, none⟩ a).setCell ⟨n, 1, none⟩ b).setCell ⟨n, 2, none⟩ c).setCell ⟨n, 3, none⟩ d).cell? ⟨n, 3, none⟩ = some d := by
  refine ⟨?_, ?_, ?_, ?_⟩ <;> simp [World.cell?_setCell_other, World.cell?_setCell_same', h0, h1, h2, h3]
theorem own_set {w : World} {B : Nat} {e : TypeId} {size : Nat} {v : Value} {n : Nat} {xs : List Value} (h : w.ownsRow B e size v n xs) {b o : Nat} (hb : b < B) (u : Value) : (w.setCell ⟨b, o, none⟩ u).ownsRow B e size v n xs := by
  have hg : w.grownBy (w.setCell ⟨b, o, none⟩ u) (some b) :=
    ⟨rfl, rfl, rfl, by simp [World.setCell], fun k _ hne => Below.heap_setCell _ _ _ _ (fun e => hne (by rw [e]))⟩
  refine h.kept hg ?_
  by_cases hv : v.ownBlock = none
  · exact .inl hv
  · refine .inr (fun e => ?_)
    have := h.lt b e
    omega
theorem pkB_set2 {w : World} {b : Nat} {k t i : Int} {c : List Int} {v : Value} (h : PkB w b ⟨k, t, i, c⟩ v) (x y : Int) : PkB ((w.setCell ⟨b, 1, none⟩ (.int .i64 x)).setCell ⟨b, 2, none⟩ (.int .i64 y)) b ⟨k, x, y, c⟩ v := by
  have h0 := h.at_.kind; have h1 := h.at_.t; have h2 := h.at_.i; have h3 := h.at_.cut
  simp only [Nat.zero_add] at h1 h2 h3
  exact ⟨⟨by simp [World.cell?_setCell_other, h0], by simp [World.cell?_setCell_other, World.cell?_setCell_same', h1], by simp [World.cell?_setCell_other, World.cell?_setCell_same', h2], by simp [World.cell?_setCell_other, h3]⟩, by simpa using h.f0, by simpa using h.f1, by simpa using h.f2, by simpa using h.f3⟩
theorem pkB_far {w : World} {b g o : Nat} {p : Pk} {v u : Value} (h : PkB w b p v) (hne : ¬ (b = g)) : PkB (w.setCell ⟨g, o, none⟩ u) b p v := by
  have h0 := h.at_.kind; have h1 := h.at_.t; have h2 := h.at_.i; have h3 := h.at_.cut
  exact ⟨⟨by simp [World.cell?_setCell_other, h0], by simp [World.cell?_setCell_other, h1], by simp [World.cell?_setCell_other, h2], by simp [World.cell?_setCell_other, h3]⟩, by simpa using h.f0, by simpa using h.f1, by simpa using h.f2, by simpa using h.f3⟩
theorem PkB.drew {w : World} {b : Nat} {p : Pk} {v : Value} (h : PkB w b p v) : PkB w.drew b p v := ⟨⟨h.at_.kind, h.at_.t, h.at_.i, h.at_.cut⟩, h.f0, h.f1, h.f2, h.f3⟩
end Go.Proofs.YtcgcndmlgfnjbaaGreatDoor

/- scan.Place and the reference's: the walks. -/
import Derived.Test.YtknfimagjkndnaaDoorScanIs
import Derived.WalkKit
import Derived.WalkSpells
import Derived.WalkLawsBesides
import Derived.BigQuiet
import Derived.Deep.QuietTactic
namespace Go.Proofs.YtknfimagjkndnaaDoor
open Go Go.RowKit
set_option linter.unusedVariables false
/-- where token i stands -/
def placeE (l : List Tok) (i : Int) : Int :=
  if 0 ≤ i ∧ i < l.length then (l.getD i.toNat ⟨0, [], 0, 0⟩).pos else match l.getLast? with
    | some t => wrap64 (t.pos + t.text.length)
    | none => 0
def PlacePost (l : List Tok) (i : Int) (w : World) (e : Ending) (w' : World) : Prop := e = .returned (.int .i64 (placeE l i)) ∧ w = w'
def PlacePostD (l : List Tok) (i : Int) (w : World) (e : Ending) (w' : World) : Prop := e = .returned (.int .i64 (placeE l i)) ∧ Below w.heap.size w w'
theorem placeE_in {l : List Tok} {i : Nat} (h : i < l.length) : placeE l i = l[i].pos := by
  unfold placeE
  rw [if_pos (by omega), List.getD_eq_getElem?_getD]
  simp [List.getElem?_eq_getElem h]
theorem placeE_out {l : List Tok} {i : Int} {m : Nat} (h : ¬ (0 ≤ i ∧ i < l.length)) (h0 : l.length = m + 1) : placeE l i = wrap64 ((l[m]'(by omega)).pos + (l[m]'(by omega)).text.length) := by
  unfold placeE
  rw [if_neg h, List.getLast?_eq_getElem?, show l.length - 1 = m by omega, List.getElem?_eq_getElem (by omega)]
theorem placeE_nil {l : List Tok} {i : Int} (h0 : l.length = 0) : placeE l i = 0 := by
  obtain rfl := List.eq_nil_of_length_eq_zero h0
  unfold placeE
  rw [if_neg (by simp)]; rfl
set_option maxRecDepth 100000 in
set_option maxHeartbeats 400000 in
theorem place_in (l : List Tok) (i : Nat) (hi : i < l.length) (v : Value) (w : World) (hv : Toks w v l) :
    Calls Tryd.prog 22 #[v, .int .i64 i] w (PlacePostD l i w) := by
  obtain ⟨b, off, c, rfl, hc, hb, hat⟩ := hv.at_ (by omega)
  have hk := (hat i hi).pos
  clear hat hb
  have HE := Lib.hid (placeE_in hi)
  generalize l[i] = t at hk HE
  go_enter Tryd.func22, Tryd.ntmps22
  go_wp2
  go_ret
  exact ⟨ret_int HE.out.symm, Below.refl _ _⟩
set_option maxRecDepth 100000 in
set_option maxHeartbeats 400000 in
theorem rplace_in (l : List Tok) (i : Nat) (hi : i < l.length) (v : Value) (w : World) (hv : Toks w v l) :
    Calls Tryd.prog 23 #[v, .int .i64 i] w (PlacePostD l i w) := by
  obtain ⟨b, off, c, rfl, hc, hb, hat⟩ := hv.at_ (by omega)
  have hk := (hat i hi).pos
  clear hat hb
  have HE := Lib.hid (placeE_in hi)
  generalize l[i] = t at hk HE
  go_enter Tryd.func23, Tryd.ntmps23
  go_wp2
  go_ret
  exact ⟨ret_int HE.out.symm, Below.refl _ _⟩
set_option maxRecDepth 100000 in
set_option maxHeartbeats 400000 in
theorem place_out (l : List Tok) (hl : l.length ≤ 4611686018427387904) (i : Int) (hi : ¬ (0 ≤ i ∧ i < l.length)) (h0 : 0 < l.length) (v : Value) (w : World) (hv : Toks w v l) :
    Calls Tryd.prog 22 #[v, .int .i64 i] w (PlacePostD l i w) := by
  obtain ⟨b, off, c, rfl, hc, hb, hat⟩ := hv.at_ (by omega)
  obtain ⟨m, hm⟩ : ∃ m, l.length = m + 1 := ⟨l.length - 1, by omega⟩
  have ht := hat m (by omega)
  have hk := ht.kind; have hx := ht.text; have hn := ht.n; have hp := ht.pos
  have HE := Lib.hid (placeE_out hi hm)
  clear hat ht hv
  generalize l[m]'(by omega) = t at hk hx hn hp HE
  have HS : Hid (wrap64 (t.pos + ((str t.text).size : Int)) = placeE l i) := by
    have := HE.out; rw [← str_size] at this; exact this.symm
  have hne : decide (0 ≤ i) = false ∨ (decide (0 ≤ i) = true ∧ decide (i < (m : Int) + 1) = false) := by
    by_cases h : 0 ≤ i
    · exact .inr ⟨by simpa using h, by simp; omega⟩
    · exact .inl (by simpa using h)
  rw [hm] at hl hc ⊢
  clear hi hm h0
  rcases hne with h1 | ⟨h1, h2⟩
  all_goals
    go_enter Tryd.func22, Tryd.ntmps22
    go_wp2
    go_ret
    exact ⟨ret_int HS.out, (Below.refl _ _).alloc (Nat.le_refl _) _⟩
theorem place_c (l : List Tok) (hl : l.length ≤ 4611686018427387904) (i : Int) (v : Value) (w : World) (hv : Toks w v l) :
    Calls Tryd.prog 22 #[v, .int .i64 i] w (PlacePostD l i w) := by
  by_cases hi : 0 ≤ i ∧ i < l.length
  · obtain ⟨n, rfl⟩ := Int.eq_ofNat_of_zero_le hi.1
    exact place_in l n (by omega) v w hv
  · by_cases h0 : 0 < l.length
    · exact place_out l hl i hi h0 v w hv
    · obtain ⟨A, c, rfl, hc⟩ := hv.shape
      have hl0 : l.length = 0 := by omega
      have HE := Lib.hid (placeE_nil (i := i) hl0)
      rw [hl0]
      clear hv h0
      cases h1 : decide (0 ≤ i)
      · clear hi
        go_enter Tryd.func22, Tryd.ntmps22
        go_wp2
        go_ret
        exact ⟨ret_int HE.out.symm, Below.refl _ _⟩
      · have h2 : decide (i < 0) = false := by simp at h1 ⊢; omega
        clear hi
        go_enter Tryd.func22, Tryd.ntmps22
        go_wp2
        go_ret
        exact ⟨ret_int HE.out.symm, Below.refl _ _⟩
set_option maxRecDepth 100000 in
set_option maxHeartbeats 400000 in
theorem rplace_out (l : List Tok) (hl : l.length ≤ 4611686018427387904) (i : Int) (hi : ¬ (0 ≤ i ∧ i < l.length)) (h0 : 0 < l.length) (v : Value) (w : World) (hv : Toks w v l) :
    Calls Tryd.prog 23 #[v, .int .i64 i] w (PlacePostD l i w) := by
  obtain ⟨b, off, c, rfl, hc, hb, hat⟩ := hv.at_ (by omega)
  obtain ⟨m, hm⟩ : ∃ m, l.length = m + 1 := ⟨l.length - 1, by omega⟩
  have ht := hat m (by omega)
  have hk := ht.kind; have hx := ht.text; have hn := ht.n; have hp := ht.pos
  have HE := Lib.hid (placeE_out hi hm)
  clear hat ht hv
  generalize l[m]'(by omega) = t at hk hx hn hp HE
  have HS : Hid (wrap64 (t.pos + ((str t.text).size : Int)) = placeE l i) := by
    have := HE.out; rw [← str_size] at this; exact this.symm
  have hne : decide (0 ≤ i) = false ∨ (decide (0 ≤ i) = true ∧ decide (i < (m : Int) + 1) = false) := by
    by_cases h : 0 ≤ i
    · exact .inr ⟨by simpa using h, by simp; omega⟩
    · exact .inl (by simpa using h)
  rw [hm] at hl hc ⊢
  clear hi hm h0
  rcases hne with h1 | ⟨h1, h2⟩
  all_goals
    go_enter Tryd.func23, Tryd.ntmps23
    go_wp2
    go_quiet (fail)
    go_wp2
    go_ret
    exact ⟨ret_int HS.out, ⟨rfl, rfl, rfl, Nat.le_refl _, fun _ _ => rfl⟩⟩
theorem rplace_c (l : List Tok) (hl : l.length ≤ 4611686018427387904) (i : Int) (v : Value) (w : World) (hv : Toks w v l) :
    Calls Tryd.prog 23 #[v, .int .i64 i] w (PlacePostD l i w) := by
  by_cases hi : 0 ≤ i ∧ i < l.length
  · obtain ⟨n, rfl⟩ := Int.eq_ofNat_of_zero_le hi.1
    exact rplace_in l n (by omega) v w hv
  · by_cases h0 : 0 < l.length
    · exact rplace_out l hl i hi h0 v w hv
    · obtain ⟨A, c, rfl, hc⟩ := hv.shape
      have hl0 : l.length = 0 := by omega
      have HE := Lib.hid (placeE_nil (i := i) hl0)
      rw [hl0]
      clear hv h0
      cases h1 : decide (0 ≤ i)
      · clear hi
        go_enter Tryd.func23, Tryd.ntmps23
        go_wp2
        go_ret
        exact ⟨ret_int HE.out.symm, Below.refl _ _⟩
      · have h2 : decide (i < 0) = false := by simp at h1 ⊢; omega
        clear hi
        go_enter Tryd.func23, Tryd.ntmps23
        go_wp2
        go_ret
        exact ⟨ret_int HE.out.symm, Below.refl _ _⟩
end Go.Proofs.YtknfimagjkndnaaDoor

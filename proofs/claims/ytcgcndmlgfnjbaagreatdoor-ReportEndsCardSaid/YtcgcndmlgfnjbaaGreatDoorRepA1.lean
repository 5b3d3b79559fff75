/- How a path ended: whether it is bad, whether two are alike, a kind's name: both sides' walks. -/
import Derived.Test.YtcgcndmlgfnjbaaGreatDoorRepPlain
import Derived.Test.YtcgcndmlgfnjbaaGreatDoorSchG
import Derived.Test.YtcgcndmlgfnjbaaGreatDoorShelf
namespace Go.Proofs.YtcgcndmlgfnjbaaGreatDoor
open Go Go.RowKit
set_option linter.unusedVariables false
def enV (e : En) (v : Value) : Value := .agg #[.int .i64 e.kind, .int .i64 e.what, .int .i64 e.crashes, v]
/-! ### plain: which of two is ahead -/
def cI (x y : Int) : Int := Lib.compareInt x y
def ordL : List (Int × Int) → Int
  | [] => 0
  | p :: r => if cI p.1 p.2 = 0 then ordL r else cI p.1 p.2
def cmpL : List Int → List Int → Int
  | [], [] => 0
  | [], _ :: _ => -1
  | _ :: _, [] => 1
  | x :: a, y :: b => if cI x y = 0 then cmpL a b else cI x y
def orL : List Int → Int
  | [] => 0
  | x :: r => if x = 0 then orL r else x
theorem cI_zero (x y : Int) : cI x y = 0 ↔ x = y := by
  unfold cI Lib.compareInt
  split
  · constructor
    · intro h; cases h
    · intro h; omega
  · split
    · constructor
      · intro h; cases h
      · intro h; omega
    · constructor
      · intro _; omega
      · intro _; rfl
theorem cI_turn (x y : Int) : cI y x = - cI x y := by
  unfold cI Lib.compareInt
  by_cases h1 : x < y
  · have h2 : ¬ y < x := by omega
    simp [h1, h2]
  · by_cases h2 : y < x
    · simp [h1, h2]
    · simp [h1, h2]
theorem cmpL_turn : ∀ a b, cmpL b a = - cmpL a b
  | [], [] => rfl
  | [], _ :: _ => rfl
  | _ :: _, [] => rfl
  | x :: a, y :: b => by
    unfold cmpL
    rw [cI_turn x y]
    by_cases h : cI x y = 0
    · rw [if_pos h, if_pos (by omega), cmpL_turn a b]
    · rw [if_neg h, if_neg (by omega)]
theorem cmpL_zero : ∀ a b, cmpL a b = 0 ↔ a = b
  | [], [] => by simp [cmpL]
  | [], _ :: _ => by simp [cmpL]
  | _ :: _, [] => by simp [cmpL]
  | x :: a, y :: b => by
    unfold cmpL
    by_cases h : cI x y = 0
    · rw [if_pos h, cmpL_zero a b]
      rw [(cI_zero x y).1 h]; simp
    · rw [if_neg h]
      constructor
      · intro h2; exact absurd h2 h
      · intro h2
        injection h2 with h3 _
        exact absurd ((cI_zero x y).2 h3) h
theorem ordL_turn : ∀ l : List (Int × Int), ordL (l.map fun p => (p.2, p.1)) = - ordL l
  | [] => rfl
  | p :: r => by
    show (if cI p.2 p.1 = 0 then ordL (r.map _) else cI p.2 p.1) = _
    rw [cI_turn p.1 p.2, ordL_turn r]
    unfold ordL
    by_cases h : cI p.1 p.2 = 0
    · rw [if_pos h, if_pos (by omega)]; cases r <;> rfl
    · rw [if_neg h, if_neg (by omega)]
theorem orL_two (x y : Int) : orL [x, y] = if x = 0 then y else x := by
  unfold orL
  by_cases h : x = 0
  · rw [if_pos h, if_pos h]
    unfold orL
    by_cases h2 : y = 0
    · rw [if_pos h2, h2]; rfl
    · rw [if_neg h2]
  · rw [if_neg h, if_neg h]
def headE (a b : En) : List (Int × Int) := [(a.kind, b.kind), (a.what, b.what), (a.crashes, b.crashes)]
def lessE (a b : En) : Bool := decide (orL [ordL (headE a b), cmpL a.cells b.cells] < 0)
theorem head_zero (a b : En) : ordL (headE a b) = 0 ↔ a.kind = b.kind ∧ a.what = b.what ∧ a.crashes = b.crashes := by
  unfold headE ordL
  by_cases h1 : cI a.kind b.kind = 0
  · simp only [h1, if_pos]
    unfold ordL
    by_cases h2 : cI a.what b.what = 0
    · simp only [h2, if_pos]
      unfold ordL
      by_cases h3 : cI a.crashes b.crashes = 0
      · simp only [h3, if_pos]
        exact ⟨fun _ => ⟨(cI_zero _ _).1 h1, (cI_zero _ _).1 h2, (cI_zero _ _).1 h3⟩, fun _ => rfl⟩
      · rw [if_neg h3]
        exact ⟨fun h => absurd h h3, fun h => absurd ((cI_zero _ _).2 h.2.2) h3⟩
    · rw [if_neg h2]
      exact ⟨fun h => absurd h h2, fun h => absurd ((cI_zero _ _).2 h.2.1) h2⟩
  · rw [if_neg h1]
    exact ⟨fun h => absurd h h1, fun h => absurd ((cI_zero _ _).2 h.1) h1⟩
theorem same_less (a b : En) : (!lessE a b && !lessE b a) = decide (a = b) := by
  have h1 : ordL (headE b a) = - ordL (headE a b) := ordL_turn (headE a b)
  have h2 := cmpL_turn a.cells b.cells
  have h3 := head_zero a b
  have h4 := cmpL_zero a.cells b.cells
  have h5 : orL [ordL (headE b a), cmpL b.cells a.cells] = - orL [ordL (headE a b), cmpL a.cells b.cells] := by
    rw [orL_two, orL_two, h1, h2]
    by_cases h : ordL (headE a b) = 0
    · rw [if_pos h, if_pos (by omega)]
    · rw [if_neg h, if_neg (by omega)]
  have h6 : orL [ordL (headE a b), cmpL a.cells b.cells] = 0 ↔ a = b := by
    rw [orL_two]
    obtain ⟨k, x, c, l⟩ := a
    obtain ⟨k', x', c', l'⟩ := b
    by_cases h : ordL (headE ⟨k, x, c, l⟩ ⟨k', x', c', l'⟩) = 0
    · rw [if_pos h, h4]
      obtain ⟨rfl, rfl, rfl⟩ := h3.1 h
      simp
    · rw [if_neg h]
      constructor
      · intro h'; exact absurd h' h
      · intro h'
        injection h' with e1 e2 e3 _
        exact absurd (h3.2 ⟨e1, e2, e3⟩) h
  unfold lessE
  rw [h5]
  generalize orL [ordL (headE a b), cmpL a.cells b.cells] = n at h6
  by_cases h : a = b
  · rw [h6.2 h, decide_eq_true h]; rfl
  · have : ¬ n = 0 := fun e => h (h6.1 e)
    rw [decide_eq_false h]
    by_cases hn : n < 0
    · rw [decide_eq_true hn]; rfl
    · rw [decide_eq_false hn, decide_eq_true (show -n < 0 by omega)]; rfl
theorem ordL_drop (l : List (Int × Int)) (j : Nat) (h : j < l.length) : ordL (l.drop j) = if cI l[j].1 l[j].2 = 0 then ordL (l.drop (j + 1)) else cI l[j].1 l[j].2 := by
  rw [List.drop_eq_getElem_cons h]; rfl
theorem orL_drop (l : List Int) (j : Nat) (h : j < l.length) : orL (l.drop j) = if l[j] = 0 then orL (l.drop (j + 1)) else l[j] := by
  rw [List.drop_eq_getElem_cons h]; rfl
theorem cmpL_drop (a b : List Int) (j : Nat) (h : j < a.length) (h2 : j < b.length) : cmpL (a.drop j) (b.drop j) = if cI a[j] b[j] = 0 then cmpL (a.drop (j + 1)) (b.drop (j + 1)) else cI a[j] b[j] := by
  rw [List.drop_eq_getElem_cons h, List.drop_eq_getElem_cons h2]; rfl
theorem cmpL_end (a b : List Int) (j : Nat) (h : j < a.length) (h2 : b.length ≤ j) : cmpL (a.drop j) (b.drop j) = 1 := by
  rw [List.drop_eq_getElem_cons h, List.drop_eq_nil_of_le h2]; rfl
theorem cmpL_out (a b : List Int) : cmpL (a.drop a.length) (b.drop a.length) = if a.length < b.length then -1 else 0 := by
  rw [List.drop_length]
  by_cases h : a.length < b.length
  · rw [if_pos h, List.drop_eq_getElem_cons h]; rfl
  · rw [if_neg h, List.drop_eq_nil_of_le (by omega)]; rfl
/-! ### walks -/
theorem pBad_c (e : En) (v : Value) (w : World) : Calls Tryz.prog 26 #[enV e v] w fun r w' => r = .returned (.bool (badE e)) ∧ Below w.heap.size w w' := by
  have hR : badE e = ((e.kind == 2) || (e.kind == 3) || (e.kind == 4)) := rfl
  unfold enV
  cases h1 : (e.kind == 2) <;> cases h2 : (e.kind == 3) <;> cases h3 : (e.kind == 4)
  all_goals
    rw [h1, h2, h3] at hR
    have HR := Lib.hid hR
    clear hR
    go_enter Tryz.func26, Tryz.ntmps26
    go_wp2_with fail
    go_ret
    exact ⟨ret_bool (by rw [HR.out]; rfl), al _ _⟩
theorem rBad_c (e : En) (v : Value) (w : World) : Calls Tryz.prog 21 #[enV e v] w fun r w' => r = .returned (.bool (badE e)) ∧ Below w.heap.size w w' := by
  have hR : badE e = (decide (2 ≤ e.kind) && decide (e.kind ≤ 4)) := by
    unfold badE; rw [Bool.eq_iff_iff]; simp; omega
  unfold enV
  cases h1 : decide (2 ≤ e.kind) <;> cases h2 : decide (e.kind ≤ 4)
  all_goals
    rw [h1, h2] at hR
    have HR := Lib.hid hR
    clear hR
    go_enter Tryz.func21, Tryz.ntmps21
    go_wp2_with fail
    go_ret
    exact ⟨ret_bool (by rw [HR.out]; rfl), al _ _⟩
def prCell (p : Int × Int) : List Value := [.int .i64 p.1, .int .i64 p.2]
abbrev Prs (w : World) (v : Value) (l : List (Int × Int)) : Prop := SlN w v 2 l.length (l.flatMap prCell)
theorem Prs.shape {w : World} {v : Value} {l : List (Int × Int)} (h : Prs w v l) : ∃ A c, v = .slice A l.length c ∧ l.length ≤ c := by
  obtain ⟨_, A, c, hv, hc, _⟩ := h; exact ⟨A, c, hv, hc⟩
theorem Prs.at_ {w : World} {v : Value} {l : List (Int × Int)} (h : Prs w v l) (h0 : 0 < l.length) :
    ∃ b off c, v = .slice (some ⟨b, off, none⟩) l.length c ∧ l.length ≤ c ∧ b < w.heap.size ∧ ∀ i (hi : i < l.length), w.cell? ⟨b, off + i * 2, none⟩ = some (.int .i64 l[i].1) ∧ w.cell? ⟨b, off + i * 2 + 1, none⟩ = some (.int .i64 l[i].2) := by
  obtain ⟨_, A, c, hv, hc, hf⟩ := h
  obtain ⟨b, off, hA, hlt, hcell⟩ := hf h0
  subst hA
  refine ⟨b, off, c, hv, hc, hlt, fun i hi => ?_⟩
  have hg := fun k hk => flat_getElem prCell 2 (fun _ => rfl) l i k hi hk
  exact ⟨hcell _ _ (hg 0 (by omega)), hcell _ _ (hg 1 (by omega))⟩
set_option maxRecDepth 100000 in
set_option maxHeartbeats 4000000 in
theorem order_c (l : List (Int × Int)) (hl : l.length ≤ 1000) (v : Value) (w : World) (hv : Prs w v l) :
    Calls Tryz.prog 73 #[v] w fun e w' => e = .returned (.int .i64 (ordL l)) ∧ Below w.heap.size w w' := by
  obtain ⟨A0, c0, rfl, hc0⟩ := hv.shape
  have HV := Lib.hid hv
  clear hv
  go_enter Tryz.func73, Tryz.ntmps73
  go_wp2_with fail
  go_loopw [8] (fun k wr => Below w.heap.size w wr ∧ ∃ j : Nat, j ≤ l.length ∧ k = .int .i64 j ∧ ordL l = ordL (l.drop j)) (fun k _ => l.length - (intOf k).toNat)
  case atStart => exact ⟨Below.refl _ _, 0, Nat.zero_le _, rfl, rfl⟩
  case round =>
    obtain ⟨hb, j, hj, rfl, ho⟩ := hrel
    have HB := Lib.hid hb
    have HO := Lib.hid ho
    clear ho
    have hj0 : (0 : Int) ≤ (j : Int) := Int.natCast_nonneg _
    by_cases hjl : j < l.length
    · have hjl2 : (j : Int) < (l.length : Int) := by omega
      obtain ⟨b, off, c, hE0, hcc, hbt, hat⟩ := Prs.at_ (l := l) HV.out (by omega)
      cases hE0
      obtain ⟨x0, x1⟩ := hat j hjl
      have hx0 := (hb.cell (p := ⟨_, _, none⟩) hbt).trans x0
      have hx1 := (hb.cell (p := ⟨_, _, none⟩) hbt).trans x1
      have HS := Lib.hid (ordL_drop l j hjl)
      have HC : Hid (∀ u, Calls Tryz.prog 87 #[.int .i64 l[j].1, .int .i64 l[j].2] u fun e w' => e = .returned (.int .i64 (cI l[j].1 l[j].2)) ∧ w' = u) := fun u => Tryz.cmp_Compare_int _ _ u
      clear hat x0 x1 hb
      generalize l[j] = x at hx0 hx1 HS HC
      generalize cI x.1 x.2 = n at HS HC
      by_cases hn : n = 0
      · have hnb : (n != 0) = false := by simp [hn]
        have HS2 : Hid (ordL l = ordL (l.drop (j + 1))) := by show _ = _; rw [HO.out, HS.out, if_pos hn]
        clear hn
        go_wp2_with (go_at_call 87; refine (HC.out _).mono ?_; rintro e w2 ⟨rfl, rfl⟩)
        go_roundw
        case rel => exact ⟨(HB.out.alloc HB.out.size _), j + 1, by omega, by go_num, HS2.out⟩
        case measure => simp [intOf]; omega
      · have hnb : (n != 0) = true := by simpa using hn
        have HS2 : Hid (ordL l = n) := by show _ = _; rw [HO.out, HS.out, if_neg hn]
        clear hn
        go_wp2_with (go_at_call 87; refine (HC.out _).mono ?_; rintro e w2 ⟨rfl, rfl⟩)
        go_ret
        exact ⟨ret_int (by rw [HS2.out]), HB.out.alloc HB.out.size _⟩
    · obtain rfl : j = l.length := by omega
      have HS2 : Hid (ordL l = 0) := by show _ = _; rw [HO.out, List.drop_length]; rfl
      go_wp2_with fail
      go_ret
      exact ⟨ret_int (by rw [HS2.out]), HB.out⟩
set_option maxRecDepth 100000 in
set_option maxHeartbeats 4000000 in
theorem compare_c (a b : List Int) (ha : a.length ≤ 4611686018427387904) (hb : b.length ≤ 4611686018427387904) (va vb : Value) (w : World) (hA : Zs w va a) (hB : Zs w vb b) :
    Calls Tryz.prog 75 #[va, vb] w fun e w' => e = .returned (.int .i64 (cmpL a b)) ∧ w = w' := by
  obtain ⟨A1, c1, rfl, hc1⟩ := hA.shape
  obtain ⟨A2, c2, rfl, hc2⟩ := hB.shape
  have HA := Lib.hid hA
  have HB := Lib.hid hB
  clear hA hB
  go_enter Tryz.func75, Tryz.ntmps75
  go_wp2_with fail
  go_loopw [11] (fun k wr => wr = w ∧ ∃ j : Nat, j ≤ a.length ∧ k = .int .i64 j ∧ cmpL a b = cmpL (a.drop j) (b.drop j)) (fun k _ => a.length - (intOf k).toNat)
  case atStart => exact ⟨rfl, 0, Nat.zero_le _, rfl, rfl⟩
  case round =>
    obtain ⟨rfl, j, hj, rfl, ho⟩ := hrel
    have HO := Lib.hid ho
    clear ho
    have hj0 : (0 : Int) ≤ (j : Int) := Int.natCast_nonneg _
    by_cases hjl : j < a.length
    · have hj1 : (j : Int) < (a.length : Int) := by omega
      obtain ⟨b1, o1, k1, hE1, hk1, hl1, hat1⟩ := Zs.at_ (l := a) HA.out (by omega)
      cases hE1
      have hx0 := hat1 j hjl
      by_cases hjb : j < b.length
      · have hj2 : (j : Int) < (b.length : Int) := by omega
        have hj3 : decide ((b.length : Int) ≤ (j : Int)) = false := by simp; omega
        obtain ⟨b2, o2, k2, hE2, hk2, hl2, hat2⟩ := Zs.at_ (l := b) HB.out (by omega)
        cases hE2
        have hy0 := hat2 j hjb
        have HS := Lib.hid (cmpL_drop a b j hjl hjb)
        have HC : Hid (∀ u, Calls Tryz.prog 87 #[.int .i64 a[j], .int .i64 b[j]] u fun e w' => e = .returned (.int .i64 (cI a[j] b[j])) ∧ w' = u) := fun u => Tryz.cmp_Compare_int _ _ u
        clear hat1 hat2
        generalize a[j] = x at hx0 HS HC
        generalize b[j] = y at hy0 HS HC
        generalize cI x y = n at HS HC
        by_cases hn : n = 0
        · have hnb : (n != 0) = false := by simp [hn]
          have HS2 : Hid (cmpL a b = cmpL (a.drop (j + 1)) (b.drop (j + 1))) := by show _ = _; rw [HO.out, HS.out, if_pos hn]
          clear hn
          go_wp2_with (go_at_call 87; refine (HC.out _).mono ?_; rintro e w2 ⟨rfl, rfl⟩)
          go_roundw
          case rel => exact ⟨by trivial, j + 1, by omega, by go_num, HS2.out⟩
          case measure => simp [intOf]; omega
        · have hnb : (n != 0) = true := by simpa using hn
          have HS2 : Hid (cmpL a b = n) := by show _ = _; rw [HO.out, HS.out, if_neg hn]
          clear hn
          go_wp2_with (go_at_call 87; refine (HC.out _).mono ?_; rintro e w2 ⟨rfl, rfl⟩)
          go_ret
          exact ⟨ret_int (by rw [HS2.out]), by trivial⟩
      · have hj2 : (b.length : Int) ≤ (j : Int) := by omega
        have HS2 : Hid (cmpL a b = 1) := by show _ = _; rw [HO.out]; exact cmpL_end a b j hjl (by omega)
        clear hat1
        generalize a[j] = x at hx0
        go_wp2_with fail
        go_ret
        exact ⟨ret_int (by rw [HS2.out]), by trivial⟩
    · obtain rfl : j = a.length := by omega
      have hS : cmpL a b = if a.length < b.length then -1 else 0 := by rw [HO.out, cmpL_out]
      by_cases hlt : a.length < b.length
      · have hlt2 : (a.length : Int) < (b.length : Int) := by omega
        rw [if_pos hlt] at hS
        have HS2 := Lib.hid hS
        clear hS
        go_wp2_with fail
        go_ret
        exact ⟨ret_int (by rw [HS2.out]), by trivial⟩
      · have hlt2 : ¬ ((a.length : Int) < (b.length : Int)) := by omega
        rw [if_neg hlt] at hS
        have HS2 := Lib.hid hS
        clear hS
        go_wp2_with fail
        go_ret
        exact ⟨ret_int (by rw [HS2.out]), by trivial⟩
set_option maxRecDepth 100000 in
set_option maxHeartbeats 4000000 in
theorem or_c (l : List Int) (hl : l.length ≤ 1000) (v : Value) (w : World) (hv : Zs w v l) :
    Calls Tryz.prog 74 #[v] w fun e w' => e = .returned (.int .i64 (orL l)) ∧ w = w' := by
  obtain ⟨A0, c0, rfl, hc0⟩ := hv.shape
  have HV := Lib.hid hv
  clear hv
  go_enter Tryz.func74, Tryz.ntmps74
  go_wp2_with fail
  go_loopw [8] (fun k wr => wr = w ∧ ∃ j : Nat, j ≤ l.length ∧ k = .int .i64 j ∧ orL l = orL (l.drop j)) (fun k _ => l.length - (intOf k).toNat)
  case atStart => exact ⟨rfl, 0, Nat.zero_le _, rfl, rfl⟩
  case round =>
    obtain ⟨rfl, j, hj, rfl, ho⟩ := hrel
    have HO := Lib.hid ho
    clear ho
    have hj0 : (0 : Int) ≤ (j : Int) := Int.natCast_nonneg _
    by_cases hjl : j < l.length
    · have hjl2 : (j : Int) < (l.length : Int) := by omega
      obtain ⟨b, off, c, hE0, hcc, hbt, hat⟩ := Zs.at_ (l := l) HV.out (by omega)
      cases hE0
      have hx0 := hat j hjl
      have HS := Lib.hid (orL_drop l j hjl)
      clear hat
      generalize l[j] = n at hx0 HS
      by_cases hn : n = 0
      · have hnb : (n != 0) = false := by simp [hn]
        have HS2 : Hid (orL l = orL (l.drop (j + 1))) := by show _ = _; rw [HO.out, HS.out, if_pos hn]
        clear hn
        go_wp2_with fail
        go_roundw
        case rel => exact ⟨by trivial, j + 1, by omega, by go_num, HS2.out⟩
        case measure => simp [intOf]; omega
      · have hnb : (n != 0) = true := by simpa using hn
        have HS2 : Hid (orL l = n) := by show _ = _; rw [HO.out, HS.out, if_neg hn]
        clear hn
        go_wp2_with fail
        go_ret
        exact ⟨ret_int (by rw [HS2.out]), by trivial⟩
    · obtain rfl : j = l.length := by omega
      have HS2 : Hid (orL l = 0) := by show _ = _; rw [HO.out, List.drop_length]; rfl
      go_wp2_with fail
      go_ret
      exact ⟨ret_int (by rw [HS2.out]), by trivial⟩
end Go.Proofs.YtcgcndmlgfnjbaaGreatDoor
/- How a path ended: whether two are alike, and a kind's name: both sides' walks. -/
namespace Go.Proofs.YtcgcndmlgfnjbaaGreatDoor
open Go Go.RowKit
set_option linter.unusedVariables false
theorem head_sl (w : World) (a b : En) : Prs (w.alloc (.cells #[.int .i64 a.kind, .int .i64 b.kind, .int .i64 a.what, .int .i64 b.what, .int .i64 a.crashes, .int .i64 b.crashes] 92)) (.slice (some ⟨w.heap.size, 0, none⟩) 3 3) (headE a b) :=
  sl_lit w [.int .i64 a.kind, .int .i64 b.kind, .int .i64 a.what, .int .i64 b.what, .int .i64 a.crashes, .int .i64 b.crashes] 92 2 3 3 rfl (Nat.le_refl _)
theorem two_sl (w : World) (x y : Int) : Zs (w.alloc (.cells #[.int .i64 x, .int .i64 y] 3)) (.slice (some ⟨w.heap.size, 0, none⟩) 2 2) [x, y] :=
  sl_lit w [.int .i64 x, .int .i64 y] 3 1 2 2 rfl (Nat.le_refl _)
set_option maxRecDepth 100000 in
set_option maxHeartbeats 4000000 in
theorem less_c (a b : En) (ha : a.cells.length ≤ 4611686018427387904) (hb : b.cells.length ≤ 4611686018427387904) (va vb : Value) (w : World) (hA : Zs w va a.cells) (hB : Zs w vb b.cells) :
    Calls Tryz.prog 56 #[enV a va, enV b vb] w fun e w' => e = .returned (.bool (lessE a b)) ∧ Below w.heap.size w w' := by
  obtain ⟨A1, c1, rfl, hc1⟩ := hA.shape
  obtain ⟨A2, c2, rfl, hc2⟩ := hB.shape
  have HO : Hid (∀ u, Calls Tryz.prog 73 #[.slice (some ⟨u.heap.size, 0, none⟩) 3 3] (u.alloc (.cells #[.int .i64 a.kind, .int .i64 b.kind, .int .i64 a.what, .int .i64 b.what, .int .i64 a.crashes, .int .i64 b.crashes] 92)) fun e w' => e = .returned (.int .i64 (ordL (headE a b))) ∧ Below u.heap.size u w') := fun u => by
    refine (order_c (headE a b) (by unfold headE; simp) _ _ (head_sl u a b)).mono ?_
    rintro e w' ⟨he, hb⟩
    exact ⟨he, bt (al u _) hb⟩
  have HC : Hid (∀ u, Below w.heap.size w u → Calls Tryz.prog 75 #[.slice A1 a.cells.length c1, .slice A2 b.cells.length c2] u fun e w' => e = .returned (.int .i64 (cmpL a.cells b.cells)) ∧ u = w') := fun u hu => compare_c _ _ ha hb _ _ u (SlN.below hA hu) (SlN.below hB hu)
  have HR : Hid (∀ u, Calls Tryz.prog 74 #[.slice (some ⟨u.heap.size, 0, none⟩) 2 2] (u.alloc (.cells #[.int .i64 (ordL (headE a b)), .int .i64 (cmpL a.cells b.cells)] 3)) fun e w' => e = .returned (.int .i64 (orL [ordL (headE a b), cmpL a.cells b.cells])) ∧ Below u.heap.size u w') := fun u => by
    refine (or_c [_, _] (by simp) _ _ (two_sl u _ _)).mono ?_
    rintro e w' ⟨he, rfl⟩
    exact ⟨he, al u _⟩
  have HV : Hid (lessE a b = decide (orL [ordL (headE a b), cmpL a.cells b.cells] < 0)) := rfl
  clear hA hB
  unfold enV
  have HB0 : Hid (Below w.heap.size w ((w.alloc (.cells #[.int .i64 a.kind, .int .i64 a.what, .int .i64 a.crashes, .slice A1 a.cells.length c1] 25)).alloc (.cells #[.int .i64 b.kind, .int .i64 b.what, .int .i64 b.crashes, .slice A2 b.cells.length c2] 25))) := balloc (al w _) _
  have hc0 := fun j u h => (al (w.alloc (.cells #[.int .i64 a.kind, .int .i64 a.what, .int .i64 a.crashes, .slice A1 a.cells.length c1] 25)) (.cells #[.int .i64 b.kind, .int .i64 b.what, .int .i64 b.crashes, .slice A2 b.cells.length c2] 25)).cell (p := ⟨w.heap.size, j, none⟩) (by simp) |>.trans (cells_new w #[.int .i64 a.kind, .int .i64 a.what, .int .i64 a.crashes, .slice A1 a.cells.length c1] 25 j u h)
  have hd0 := fun j u h => cells_new (w.alloc (.cells #[.int .i64 a.kind, .int .i64 a.what, .int .i64 a.crashes, .slice A1 a.cells.length c1] 25)) #[.int .i64 b.kind, .int .i64 b.what, .int .i64 b.crashes, .slice A2 b.cells.length c2] 25 j u h
  rw [World.size_alloc] at hd0
  have p0 := hc0 0 _ rfl; have p1 := hc0 1 _ rfl; have p2 := hc0 2 _ rfl; have p3 := hc0 3 _ rfl
  have q0 := hd0 0 _ rfl; have q1 := hd0 1 _ rfl; have q2 := hd0 2 _ rfl; have q3 := hd0 3 _ rfl
  clear hc0 hd0
  generalize ordL (headE a b) = n at HO HR HV
  generalize cmpL a.cells b.cells = c at HC HR HV
  generalize orL [n, c] = r at HR HV
  go_enter Tryz.func56, Tryz.ntmps56
  go_upto_region 1 with fail
  generalize World.alloc _ _ = U at HB0 p0 p1 p2 p3 q0 q1 q2 q3 ⊢
  have HLT1 : Hid (w.heap.size < U.heap.size) := World.block_lt_of_cell? U _ p0
  have HLT2 : Hid (w.heap.size + 1 < U.heap.size) := World.block_lt_of_cell? U _ q0
  have HP3 := Lib.hid p3
  have HQ3 := Lib.hid q3
  go_wp2_with (first
    | (go_at_call 73; (with_reducible refine (HO.out _).mono ?_); rintro e w2 ⟨rfl, hb2⟩; have p3' := (hb2.cell (p := ⟨w.heap.size, 3, none⟩) HLT1.out).trans HP3.out; have q3' := (hb2.cell (p := ⟨w.heap.size + 1, 3, none⟩) HLT2.out).trans HQ3.out)
    | (go_at_call 75; (with_reducible refine (HC.out _ (bt HB0.out hb2)).mono ?_); rintro e w3 ⟨rfl, rfl⟩)
    | (go_at_call 74; (with_reducible refine (HR.out _).mono ?_); rintro e w4 ⟨rfl, hb4⟩))
  go_ret
  exact ⟨ret_bool (by rw [HV.out]), bt (bt HB0.out hb2) hb4⟩
set_option maxRecDepth 100000 in
set_option maxHeartbeats 4000000 in
theorem pSameE_c (a b : En) (ha : a.cells.length ≤ 4611686018427387904) (hb : b.cells.length ≤ 4611686018427387904) (va vb : Value) (w : World) (hA : Zs w va a.cells) (hB : Zs w vb b.cells) :
    Calls Tryz.prog 38 #[enV a va, enV b vb] w fun e w' => e = .returned (.bool (decide (a = b))) ∧ Below w.heap.size w w' := by
  have hL : ∀ u, Below w.heap.size w u → Calls Tryz.prog 56 #[enV a va, enV b vb] u fun e w' => e = .returned (.bool (lessE a b)) ∧ Below u.heap.size u w' := fun u hu => less_c a b ha hb va vb u (SlN.below hA hu) (SlN.below hB hu)
  have hM : ∀ u, Below w.heap.size w u → Calls Tryz.prog 56 #[enV b vb, enV a va] u fun e w' => e = .returned (.bool (lessE b a)) ∧ Below u.heap.size u w' := fun u hu => less_c b a hb ha vb va u (SlN.below hB hu) (SlN.below hA hu)
  obtain ⟨A1, c1, rfl, hc1⟩ := hA.shape
  obtain ⟨A2, c2, rfl, hc2⟩ := hB.shape
  have hV := same_less a b
  clear hA hB
  unfold enV at hL hM ⊢
  have HB0 : Hid (Below w.heap.size w ((w.alloc (.cells #[.int .i64 a.kind, .int .i64 a.what, .int .i64 a.crashes, .slice A1 a.cells.length c1] 25)).alloc (.cells #[.int .i64 b.kind, .int .i64 b.what, .int .i64 b.crashes, .slice A2 b.cells.length c2] 25))) := balloc (al w _) _
  have hc0 := fun j u h => (al (w.alloc (.cells #[.int .i64 a.kind, .int .i64 a.what, .int .i64 a.crashes, .slice A1 a.cells.length c1] 25)) (.cells #[.int .i64 b.kind, .int .i64 b.what, .int .i64 b.crashes, .slice A2 b.cells.length c2] 25)).cell (p := ⟨w.heap.size, j, none⟩) (by simp) |>.trans (cells_new w #[.int .i64 a.kind, .int .i64 a.what, .int .i64 a.crashes, .slice A1 a.cells.length c1] 25 j u h)
  have hd0 := fun j u h => cells_new (w.alloc (.cells #[.int .i64 a.kind, .int .i64 a.what, .int .i64 a.crashes, .slice A1 a.cells.length c1] 25)) #[.int .i64 b.kind, .int .i64 b.what, .int .i64 b.crashes, .slice A2 b.cells.length c2] 25 j u h
  rw [World.size_alloc] at hd0
  have p0 := hc0 0 _ rfl; have p1 := hc0 1 _ rfl; have p2 := hc0 2 _ rfl; have p3 := hc0 3 _ rfl
  have q0 := hd0 0 _ rfl; have q1 := hd0 1 _ rfl; have q2 := hd0 2 _ rfl; have q3 := hd0 3 _ rfl
  clear hc0 hd0
  generalize decide (a = b) = d at hV ⊢
  cases h1 : lessE a b <;> cases h2 : lessE b a
  all_goals
    rw [h1, h2] at hV
    rw [h1] at hL
    rw [h2] at hM
    have HV := Lib.hid hV
    have HL := Lib.hid hL
    have HM := Lib.hid hM
    clear hV hL hM h1 h2
    go_enter Tryz.func38, Tryz.ntmps38
    go_upto_region 1 with fail
    generalize World.alloc _ _ = U at HB0 p0 p1 p2 p3 q0 q1 q2 q3 ⊢
    have hl1 : w.heap.size < U.heap.size := World.block_lt_of_cell? U ⟨w.heap.size, 0, none⟩ p0
    have hl2 : w.heap.size + 1 < U.heap.size := World.block_lt_of_cell? U ⟨w.heap.size + 1, 0, none⟩ q0
    have HK : Hid (∀ u, Below U.heap.size U u → (∀ j v, U.cell? ⟨w.heap.size, j, none⟩ = some v → u.cell? ⟨w.heap.size, j, none⟩ = some v) ∧ (∀ j v, U.cell? ⟨w.heap.size + 1, j, none⟩ = some v → u.cell? ⟨w.heap.size + 1, j, none⟩ = some v)) := fun u hu => ⟨fun j v h => (hu.cell (p := ⟨w.heap.size, j, none⟩) hl1).trans h, fun j v h => (hu.cell (p := ⟨w.heap.size + 1, j, none⟩) hl2).trans h⟩
    have P0 := Lib.hid p0; have P1 := Lib.hid p1; have P2 := Lib.hid p2; have P3 := Lib.hid p3
    have Q0 := Lib.hid q0; have Q1 := Lib.hid q1; have Q2 := Lib.hid q2; have Q3 := Lib.hid q3
    first
      | (go_wp2_with (first
          | (go_at_call 56; (with_reducible refine (HL.out _ HB0.out).mono ?_); rintro e w2 ⟨rfl, hb2⟩; obtain ⟨k1, k2⟩ := HK.out _ hb2; have p0' := k1 _ _ P0.out; have p1' := k1 _ _ P1.out; have p2' := k1 _ _ P2.out; have p3' := k1 _ _ P3.out; have q0' := k2 _ _ Q0.out; have q1' := k2 _ _ Q1.out; have q2' := k2 _ _ Q2.out; have q3' := k2 _ _ Q3.out; clear k1 k2)
          | (go_at_call 56; (with_reducible refine (HM.out _ (bt HB0.out hb2)).mono ?_); rintro e w3 ⟨rfl, hb3⟩))
         go_ret
         exact ⟨ret_bool (by rw [← HV.out]; rfl), by first | exact bt (bt HB0.out hb2) hb3 | exact bt HB0.out hb2⟩)
set_option maxRecDepth 100000 in
set_option maxHeartbeats 4000000 in
theorem rSameE_c (a b : En) (ha : a.cells.length ≤ 4611686018427387904) (hb : b.cells.length ≤ 4611686018427387904) (va vb : Value) (w : World) (hA : Zs w va a.cells) (hB : Zs w vb b.cells) :
    Calls Tryz.prog 28 #[enV a va, enV b vb] w fun e w' => e = .returned (.bool (decide (a = b))) ∧ Below w.heap.size w w' := by
  obtain ⟨A1, c1, rfl, hc1⟩ := hA.shape
  obtain ⟨A2, c2, rfl, hc2⟩ := hB.shape
  have hI : ∀ u, Below w.heap.size w u → Calls Tryz.prog 47 #[.slice A1 a.cells.length c1, .slice A2 b.cells.length c2] u fun e w' => e = .returned (.bool (decide (a.cells = b.cells))) ∧ Below u.heap.size u w' := fun u hu => by
    refine (rInts_c a.cells b.cells ha hb _ _ u (SlN.below hA hu) (SlN.below hB hu)).mono ?_
    rintro e w' ⟨he, q, rfl⟩
    exact ⟨he, bdrN (Below.refl _ _) _⟩
  have hV : decide (a = b) = ((a.kind == b.kind) && (a.what == b.what) && (a.crashes == b.crashes) && decide (a.cells = b.cells)) := by
    obtain ⟨k, x, c, l⟩ := a
    obtain ⟨k', x', c', l'⟩ := b
    rw [Bool.eq_iff_iff]; simp [and_assoc]
  clear hA hB
  unfold enV
  cases h1 : (a.kind == b.kind) <;> cases h2 : (a.what == b.what) <;> cases h3 : (a.crashes == b.crashes) <;> cases h4 : decide (a.cells = b.cells)
  all_goals
    rw [h1, h2, h3, h4] at hV
    rw [h4] at hI
    have HV := Lib.hid hV
    have HI := Lib.hid hI
    clear hV hI h4
    go_enter Tryz.func28, Tryz.ntmps28
    go_wp2_with (go_at_call 47; (with_reducible refine (HI.out _ (balloc (al w _) _)).mono ?_); rintro e w2 ⟨rfl, hb2⟩)
    go_ret
    exact ⟨ret_bool (by rw [HV.out]; rfl), by first | exact bt (balloc (al w _) _) hb2 | exact balloc (al w _) _⟩
def nameV : Value := .agg #[.string ⟨#[111, 112, 101, 110]⟩, .string ⟨#[115, 97, 102, 101]⟩, .string ⟨#[99, 108, 97, 105, 109]⟩, .string ⟨#[102, 97, 117, 108, 116]⟩, .string ⟨#[115, 116, 117, 99, 107]⟩]
theorem name_none {k : Int} (h : k < 0 ∨ 5 ≤ k) : nameK k = [] := by
  unfold nameK
  rw [if_neg (by omega), if_neg (by omega), if_neg (by omega), if_neg (by omega), if_neg (by omega)]
set_option maxRecDepth 100000 in
theorem pName_c (k : Int) (w : World) : Calls Tryz.prog 32 #[.int .i64 k] w fun e w' => e = .returned (.string (str (nameK k))) ∧ w = w' := by
  by_cases h : k < 0 ∨ 5 ≤ k
  · have HV := Lib.hid (name_none h)
    by_cases h0 : k < 0
    · have h1 : decide (k < 0) = true := by simpa using h0
      go_enter Tryz.func32, Tryz.ntmps32
      go_wp2_with fail
      go_ret
      exact ⟨ret_str (by rw [HV.out]; rfl), rfl⟩
    · have h1 : (0 : Int) ≤ k := by omega
      have h2 : (5 : Int) ≤ k := by omega
      clear h h0
      go_enter Tryz.func32, Tryz.ntmps32
      go_wp2_with fail
      go_ret
      exact ⟨ret_str (by rw [HV.out]; rfl), rfl⟩
  · have i0 : ∀ w, (Instr.index 66 nameV (.int .i64 0)).run Tryz.prog w = .ok (.string ⟨#[111, 112, 101, 110]⟩) w := fun _ => by kernel_rfl
    have i1 : ∀ w, (Instr.index 66 nameV (.int .i64 1)).run Tryz.prog w = .ok (.string ⟨#[115, 97, 102, 101]⟩) w := fun _ => by kernel_rfl
    have i2 : ∀ w, (Instr.index 66 nameV (.int .i64 2)).run Tryz.prog w = .ok (.string ⟨#[99, 108, 97, 105, 109]⟩) w := fun _ => by kernel_rfl
    have i3 : ∀ w, (Instr.index 66 nameV (.int .i64 3)).run Tryz.prog w = .ok (.string ⟨#[102, 97, 117, 108, 116]⟩) w := fun _ => by kernel_rfl
    have i4 : ∀ w, (Instr.index 66 nameV (.int .i64 4)).run Tryz.prog w = .ok (.string ⟨#[115, 116, 117, 99, 107]⟩) w := fun _ => by kernel_rfl
    unfold nameV at i0 i1 i2 i3 i4
    obtain rfl | rfl | rfl | rfl | rfl : k = 0 ∨ k = 1 ∨ k = 2 ∨ k = 3 ∨ k = 4 := by omega
    all_goals
      clear h
      go_enter Tryz.func32, Tryz.ntmps32
      go_wp2_with fail
      go_ret
      exact ⟨rfl, rfl⟩
set_option maxRecDepth 100000 in
theorem rName_c (k : Int) (w : World) : Calls Tryz.prog 35 #[.int .i64 k] w fun e w' => e = .returned (.string (str (nameK k))) ∧ Below w.heap.size w w' := by
  by_cases h : k < 0 ∨ 5 ≤ k
  · have HV := Lib.hid (name_none h)
    by_cases h0 : k < 0
    · have h1 : decide (k < 0) = true := by simpa using h0
      go_enter Tryz.func35, Tryz.ntmps35
      go_wp2_with fail
      go_ret
      exact ⟨ret_str (by rw [HV.out]; rfl), Below.refl _ _⟩
    · have h1 : (0 : Int) ≤ k := by omega
      have h2 : (4 : Int) < k := by omega
      clear h h0
      go_enter Tryz.func35, Tryz.ntmps35
      go_wp2_with fail
      go_ret
      exact ⟨ret_str (by rw [HV.out]; rfl), Below.refl _ _⟩
  · obtain rfl | rfl | rfl | rfl | rfl : k = 0 ∨ k = 1 ∨ k = 2 ∨ k = 3 ∨ k = 4 := by omega
    all_goals
      clear h
      go_enter Tryz.func35, Tryz.ntmps35
      go_wp2_with fail
      go_ret
      exact ⟨rfl, al _ _⟩
end Go.Proofs.YtcgcndmlgfnjbaaGreatDoor

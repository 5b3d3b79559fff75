/- Rows of rows of picks: whether two are alike; how many crashes: the reference's walks. -/
import Derived.Test.YtimekgplallkiaaDoorSchG
import Derived.Test.YtimekgplallkiaaDoorSchApp
namespace Go.Proofs.YtimekgplallkiaaDoor
open Go Go.RowKit
set_option linter.unusedVariables false
/-- a row of picks and the slice that holds it -/
structure Rv where
  v : Value
  l : List Pk
def Rv.cells (x : Rv) : List Value := [x.v]
theorem Rv.cells_len (x : Rv) : x.cells.length = 1 := rfl
/-- a slice of rows of picks -/
def PRs (w : World) (v : Value) (rows : List (List Pk)) : Prop := ∃ rl : List Rv, rl.map (·.l) = rows ∧ SlN w v 1 rl.length (rl.flatMap Rv.cells) ∧ ∀ x ∈ rl, Pks w x.v x.l
theorem PRs.below {w w' : World} {v : Value} {rows : List (List Pk)} (h : PRs w v rows) (hb : Below w.heap.size w w') : PRs w' v rows := by
  obtain ⟨rl, h1, h2, h3⟩ := h
  exact ⟨rl, h1, SlN.below h2 hb, fun x hx => (h3 x hx).below hb⟩
theorem PRs.shape {w : World} {v : Value} {l : List (List Pk)} (h : PRs w v l) : ∃ A c, v = .slice A l.length c ∧ l.length ≤ c := by
  obtain ⟨rl, rfl, ⟨_, A, c, hv, hc, _⟩, _⟩ := h
  exact ⟨A, c, by rw [List.length_map]; exact hv, by rw [List.length_map]; exact hc⟩
theorem PRs.at_ {w : World} {v : Value} {l : List (List Pk)} (h : PRs w v l) (h0 : 0 < l.length) :
    ∃ b off c, v = .slice (some ⟨b, off, none⟩) l.length c ∧ l.length ≤ c ∧ b < w.heap.size ∧ ∀ i (hi : i < l.length), ∃ A n, w.cell? ⟨b, off + i, none⟩ = some (.slice A l[i].length n) ∧ Pks w (.slice A l[i].length n) l[i] := by
  obtain ⟨rl, rfl, ⟨_, A, c, hv, hc, hf⟩, hz⟩ := h
  obtain ⟨b, off, hA, hlt, hcell⟩ := hf (by simpa using h0)
  subst hA
  refine ⟨b, off, c, by rw [List.length_map]; exact hv, by rw [List.length_map]; exact hc, hlt, fun i hi => ?_⟩
  have hi2 : i < rl.length := by simpa using hi
  have hg := flat_getElem Rv.cells 1 Rv.cells_len rl i 0 hi2 (by omega)
  have hz1 := hz _ (List.getElem_mem hi2)
  obtain ⟨A2, n2, hv2, hn2⟩ := hz1.shape
  have e : (rl.map (·.l))[i] = (rl[i]).l := by simp
  rw [e]
  refine ⟨A2, n2, ?_, ?_⟩
  · rw [← hv2]
    have := hcell _ _ hg
    rw [show off + (i * 1 + 0) = off + i by omega] at this
    exact this
  · rw [← hv2]; exact hz1
/-- rows that the walks can take -/
def RowsOk (a : List (List Pk)) : Prop := a.length ≤ 100000000 ∧ ∀ x ∈ a, x.length ≤ 100000000 ∧ ∀ p ∈ x, p.cut.length ≤ 4611686018427387904
set_option maxRecDepth 100000 in
set_option maxHeartbeats 4000000 in
theorem rRows_c (a b : List (List Pk)) (ha : RowsOk a) (hb : RowsOk b) (va vb : Value) (w : World) (hA : PRs w va a) (hB : PRs w vb b) :
    Calls Tryd.prog 15 #[va, vb] w fun e w' => e = .returned (.bool (decide (a = b))) ∧ ∃ q, w' = w.drewN q := by
  obtain ⟨A1, c1, rfl, hc1⟩ := hA.shape
  obtain ⟨A2, c2, rfl, hc2⟩ := hB.shape
  obtain ⟨ha, hna⟩ := ha
  obtain ⟨hb, hnb⟩ := hb
  by_cases hl : a.length = b.length
  · have hle : ((a.length : Int) == (b.length : Int)) = true := by rw [beq_iff_eq]; omega
    have hln : ((a.length : Int) != (b.length : Int)) = false := by unfold bne; rw [hle]; rfl
    have HA := Lib.hid hA
    have HB := Lib.hid hB
    have HNA := Lib.hid hna
    have HNB := Lib.hid hnb
    clear hA hB hna hnb
    go_enter Tryd.func15, Tryd.ntmps15
    go_wp2_with fail
    go_loopw [5] (fun k wr => (∃ q, wr = w.drewN q) ∧ ∃ j : Nat, j ≤ a.length ∧ k = .int .i64 j ∧ ∀ j' (h : j' < a.length), j' < j → a[j'] = (b[j']'(by omega))) (fun k _ => a.length - (intOf k).toNat)
    case atStart => exact ⟨⟨0, rfl⟩, 0, Nat.zero_le _, rfl, fun j' _ h => absurd h (by omega)⟩
    case round =>
      obtain ⟨hq, j, hj, rfl, hall⟩ := hrel
      have HQ := Lib.hid hq
      have hbw := quiet_below hq
      clear hq
      have HALL := Lib.hid hall
      clear hall
      have hj0 : (0 : Int) ≤ (j : Int) := Int.natCast_nonneg _
      by_cases hjl : j < a.length
      · obtain ⟨b1, o1, k1, hE1, hk1, hl1, hat1⟩ := PRs.at_ (l := a) HA.out (by omega)
        obtain ⟨b2, o2, k2, hE2, hk2, hl2, hat2⟩ := PRs.at_ (l := b) HB.out (by omega)
        cases hE1
        cases hE2
        obtain ⟨P1, n1, x1, hz1⟩ := hat1 j hjl
        obtain ⟨P2, n2, y1, hz2⟩ := hat2 j (by omega)
        have hx0 := (hbw.cell (p := ⟨_, _, none⟩) hl1).trans x1
        have hy0 := (hbw.cell (p := ⟨_, _, none⟩) hl2).trans y1
        have HI : Hid (∀ n, Calls Tryd.prog 19 #[.slice P1 (a[j]).length n1, .slice P2 (b[j]'(by omega)).length n2] (wr.drewN n) fun e w' => e = .returned (.bool (decide (a[j] = (b[j]'(by omega))))) ∧ ∃ m, w' = wr.drewN m) := fun n => by
          have ka := HNA.out _ (List.getElem_mem hjl)
          have kb := HNB.out _ (List.getElem_mem (show j < b.length by omega))
          refine (rPicks_c _ _ ka.1 kb.1 ka.2 kb.2 _ _ (wr.drewN n) (hz1.below (bdrN hbw _)) (hz2.below (bdrN hbw _))).mono ?_
          rintro e w' ⟨he, m, rfl⟩
          exact ⟨he, drewN_two _ _ _⟩
        have HF : Hid (¬ a[j] = (b[j]'(by omega)) → decide (a = b) = false) := fun h => dec_not hl j hjl h
        have HT : Hid (a[j] = (b[j]'(by omega)) → ∀ j' (h : j' < a.length), j' = j → a[j'] = (b[j']'(by omega))) := fun h j' hj' e => by subst e; exact h
        have hj1 : (j : Int) < (a.length : Int) := by omega
        have hj2 : (j : Int) < (b.length : Int) := by omega
        clear hat1 hat2 hbw x1 y1 hz1 hz2
        generalize a[j] = x at hx0 HF HT HI
        generalize b[j]'(by omega) = y at hy0 HF HT HI
        have hI := HI.out
        clear HI
        cases h0 : decide (x = y)
        · rw [h0] at hI
          have HI := Lib.hid hI
          have HF2 := Lib.hid (HF.out (by simpa using h0))
          clear hI h0 HF HT
          go_wp2_with fail
          go_quiet (first | (go_at_call 19; exact HI.out _))
          go_wp2_with fail
          go_ret
          exact ⟨ret_bool HF2.out.symm, quiet_two HQ.out _⟩
        · rw [h0] at hI
          have HI := Lib.hid hI
          have HT2 := Lib.hid (HT.out (by simpa using h0))
          clear hI h0 HF HT
          go_wp2_with fail
          go_quiet (first | (go_at_call 19; exact HI.out _))
          go_wp2_with fail
          go_roundw
          case rel =>
            refine ⟨quiet_two HQ.out _, j + 1, by omega, by go_num, fun j' h hlt => ?_⟩
            by_cases hjj : j' < j
            · exact HALL.out j' h hjj
            · exact HT2.out j' h (by omega)
          case measure => simp [intOf]; omega
      · have HY := Lib.hid (dec_list hl (fun i hi => HALL.out i hi (by omega)))
        go_wp2_with fail
        go_ret
        exact ⟨ret_bool HY.out.symm, HQ.out⟩
  · have hle : ((a.length : Int) == (b.length : Int)) = false := by rw [beq_eq_false_iff_ne]; omega
    have hln : ((a.length : Int) != (b.length : Int)) = true := by unfold bne; rw [hle]; rfl
    have HN := Lib.hid (decl_len hl)
    go_enter Tryd.func15, Tryd.ntmps15
    go_wp2_with fail
    go_ret
    exact ⟨ret_bool HN.out.symm, 0, rfl⟩
theorem crash_take (l : List Pk) (j : Nat) (h : j < l.length) : crashK (l.take (j + 1)) = crashK (l.take j) + (if l[j].kind = 3 then 1 else 0) := by
  rw [List.take_succ_eq_append_getElem h, crash_app]
  unfold crashK
  by_cases hk : l[j].kind = 3
  · rw [if_pos hk, List.filter_cons_of_pos (by simp [hk])]; rfl
  · rw [if_neg hk, List.filter_cons_of_neg (by simp [hk])]; rfl
theorem crash_le (l : List Pk) : crashK l ≤ l.length := List.length_filter_le _ _
set_option maxRecDepth 100000 in
set_option maxHeartbeats 4000000 in
theorem rCrashes_c (l : List Pk) (hl : l.length ≤ 100000000) (v : Value) (w : World) (hv : Pks w v l) :
    Calls Tryd.prog 14 #[v] w fun e w' => e = .returned (.int .i64 (crashK l)) ∧ w = w' := by
  obtain ⟨A0, c0, rfl, hc0⟩ := hv.shape
  have HV := Lib.hid hv
  clear hv
  go_enter Tryd.func14, Tryd.ntmps14
  go_wp2_with fail
  go_loopw [3, 4] (fun n k wr => wr = w ∧ ∃ j : Nat, j ≤ l.length ∧ k = .int .i64 j ∧ n = .int .i64 (crashK (l.take j))) (fun _ k _ => l.length - (intOf k).toNat)
  case atStart => exact ⟨rfl, 0, Nat.zero_le _, rfl, rfl⟩
  case round =>
    obtain ⟨rfl, j, hj, rfl, rfl⟩ := hrel
    have hj0 : (0 : Int) ≤ (j : Int) := Int.natCast_nonneg _
    by_cases hjl : j < l.length
    · have hjl2 : (j : Int) < (l.length : Int) := by omega
      obtain ⟨b, off, c, hE0, hcc, hbt, hat⟩ := Pks.at_ (l := l) HV.out (by omega)
      cases hE0
      obtain ⟨A1, n1, x1, hz1⟩ := hat j hjl
      have hx0 := x1.kind
      have HS := Lib.hid (crash_take l j hjl)
      have hle : crashK (l.take j) ≤ j := by have := crash_le (l.take j); rw [List.length_take] at this; omega
      clear hat x1 hz1
      generalize l[j] = x at hx0 HS
      generalize crashK (l.take j) = m at HS hle ⊢
      cases hk : (x.kind == 3)
      · have HS2 : Hid (crashK (l.take (j + 1)) = m) := by
          show _ = _
          rw [HS.out, if_neg (by intro h; rw [h] at hk; cases hk)]; rfl
        go_wp2_with fail
        go_roundw
        case rel => exact ⟨by trivial, j + 1, by omega, by go_num, by rw [HS2.out]⟩
        case measure => simp [intOf]; omega
      · have HS2 : Hid (crashK (l.take (j + 1)) = m + 1) := by
          show _ = _
          rw [HS.out, if_pos (by simpa using hk)]
        go_wp2_with fail
        go_roundw
        case rel => exact ⟨by trivial, j + 1, by omega, by go_num, by rw [HS2.out]; go_num⟩
        case measure => simp [intOf]; omega
    · obtain rfl : j = l.length := by omega
      have HR : Hid (crashK (l.take l.length) = crashK l) := by show _ = _; rw [List.take_length]
      go_wp2_with fail
      go_ret
      first | exact ⟨rfl, by trivial⟩ | exact ⟨ret_int (by rw [HR.out]), by trivial⟩
end Go.Proofs.YtimekgplallkiaaDoor

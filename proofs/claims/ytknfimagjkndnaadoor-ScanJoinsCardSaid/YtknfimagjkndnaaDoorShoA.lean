/- Tokens shown, and held against others: the reference's walks. -/
import Derived.Test.YtknfimagjkndnaaDoorHlpA
import Derived.Test.YtknfimagjkndnaaDoorScnLaw
import Derived.BigQuiet
import Derived.Deep.QuietTactic
namespace Go.Proofs.YtknfimagjkndnaaDoor
open Go Go.RowKit
set_option linter.unusedVariables false
theorem str_snoc (a b : List UInt8) : str a ++ str b = str (a ++ b) := (ByteArray.mk_append_mk a b)
theorem shw_take0 (l : List Tok) (h : 0 < l.length) : shwE (l.take (0 + 1)) = l[0].text := by
  cases l with
  | nil => simp at h
  | cons t r => simp [shwE, tailE]
theorem shw_take (l : List Tok) (j : Nat) (h : j < l.length) : shwE (l.take (j + 1)) = if j = 0 then l[j].text else (shwE (l.take j) ++ [32]) ++ l[j].text := by
  rw [List.take_succ_eq_append_getElem h, shwE_snoc]
  by_cases hj : j = 0
  · subst hj; simp
  · have : ¬ l.take j = [] := by
      intro e
      have := congrArg List.length e
      rw [List.length_take, List.length_nil] at this
      omega
    rw [if_neg this, if_neg hj]; simp
/-- how long -/
theorem tailE_take (l : List Tok) (j : Nat) : (tailE (l.take j)).length ≤ (tailE l).length := by
  have : tailE l = tailE (l.take j) ++ tailE (l.drop j) := by
    unfold tailE; rw [← List.flatMap_append, List.take_append_drop]
  rw [this, List.length_append]; omega
theorem shw_le (l : List Tok) (j : Nat) : (shwE (l.take j)).length ≤ (tailE l).length := Nat.le_trans (shwE_len _) (tailE_take l j)
theorem text_le (l : List Tok) (j : Nat) (h : j < l.length) : (l[j].text).length ≤ (tailE l).length := by
  have h1 : tailE l = tailE (l.take j) ++ tailE (l.drop j) := by
    unfold tailE; rw [← List.flatMap_append, List.take_append_drop]
  rw [h1, List.drop_eq_getElem_cons h, List.length_append]
  simp only [tailE, List.flatMap_cons, List.length_append, List.length_cons]
  omega
set_option maxRecDepth 100000 in
set_option maxHeartbeats 4000000 in
theorem rshow_c (l : List Tok) (hl : l.length ≤ 100000) (hn : (tailE l).length ≤ 100000000) (v : Value) (w : World) (hv : Toks w v l) :
    Calls Tryd.prog 19 #[v] w fun e w' => e = .returned (.string (str (shwE l))) ∧ w = w' := by
  obtain ⟨A0, c0, rfl, hc0⟩ := hv.shape
  have HV := Lib.hid hv
  clear hv
  go_enter Tryd.func19, Tryd.ntmps19
  go_wp2_with fail
  go_loopw [3, 4] (fun s k wr => wr = w ∧ ∃ j : Nat, j ≤ l.length ∧ k = .int .i64 j ∧ s = .string (str (shwE (l.take j)))) (fun _ k _ => l.length - (intOf k).toNat)
  case atStart => exact ⟨rfl, 0, Nat.zero_le _, rfl, rfl⟩
  case round =>
    obtain ⟨rfl, j, hj, rfl, rfl⟩ := hrel
    have hj0 : (0 : Int) ≤ (j : Int) := Int.natCast_nonneg _
    by_cases hjl : j < l.length
    · have hjl2 : (j : Int) < (l.length : Int) := by omega
      obtain ⟨b, off, c, hE0, hcc, hbt, hat⟩ := Toks.at_ (l := l) HV.out (by omega)
      cases hE0
      have hx1 := (hat j hjl).text
      have HS := Lib.hid (shw_take l j hjl)
      have HSO : Hid (j = 0 → shwE (l.take j) = []) := fun e => by rw [e]; rfl
      have hl1 := shw_le l j
      have hl2 := text_le l j hjl
      clear hat
      generalize l[j].text = tx at hx1 HS hl2
      generalize shwE (l.take j) = so at HS HSO hl1 ⊢
      by_cases hz : j = 0
      · have HS2 : Hid (str so ++ str tx = str (shwE (l.take (j + 1)))) := by
          show _ = _
          subst hz
          rw [str_snoc, HS.out, if_pos rfl, HSO.out rfl]; rfl
        have hj1 : ¬ ((0 : Int) < (j : Int)) := by omega
        have hz1 : (str so).size ≤ 100000000 := by rw [str_size]; omega
        have hz2 : (str tx).size ≤ 100000000 := by rw [str_size]; omega
        clear HS HSO hl1 hl2 hz
        generalize str so = S at HS2 hz1 ⊢
        generalize str tx = T at HS2 hz2 hx1
        go_wp2_with fail
        go_roundw
        case rel => exact ⟨trivial, j + 1, by omega, by go_num, by rw [← HS2.out]⟩
        case measure => simp [intOf]; omega
      · have hj1 : ((0 : Int) < (j : Int)) := by omega
        have HS2 : Hid ((str so ++ str [32]) ++ str tx = str (shwE (l.take (j + 1)))) := by
          show _ = _
          rw [str_snoc, str_snoc, HS.out, if_neg hz]
        have hz1 : (str so).size ≤ 100000000 := by rw [str_size]; omega
        have hz2 : (str tx).size ≤ 100000000 := by rw [str_size]; omega
        clear HS HSO hl1 hl2 hz
        generalize str so = S at HS2 hz1 ⊢
        generalize str tx = T at HS2 hz2 hx1
        go_wp2_with fail
        go_roundw
        case rel => exact ⟨trivial, j + 1, by omega, by go_num, by rw [← HS2.out]; rfl⟩
        case measure => simp [intOf]; omega
    · obtain rfl : j = l.length := by omega
      have HF : Hid (str (shwE (l.take l.length)) = str (shwE l)) := by show _ = _; rw [List.take_length]
      go_wp2_with fail
      go_ret
      exact ⟨ret_str HF.out, rfl⟩
set_option maxRecDepth 100000 in
set_option maxHeartbeats 4000000 in
theorem rsameT_c (a b : List Tok) (ha : a.length ≤ 100000) (hb : b.length ≤ 100000) (va vb : Value) (pl : Bool) (w : World) (hA : Toks w va a) (hB : Toks w vb b) :
    Calls Tryd.prog 12 #[va, vb, .bool pl] w fun e w' => e = .returned (.bool (sameT pl a b)) ∧ Below w.heap.size w w' := by
  obtain ⟨A1, c1, rfl, hc1⟩ := hA.shape
  obtain ⟨A2, c2, rfl, hc2⟩ := hB.shape
  by_cases hl : a.length = b.length
  · have hle : ((a.length : Int) == (b.length : Int)) = true := by rw [beq_iff_eq]; omega
    have hln : ((a.length : Int) != (b.length : Int)) = false := by unfold bne; rw [hle]; rfl
    have HA := Lib.hid hA
    have HB := Lib.hid hB
    clear hA hB
    go_enter Tryd.func12, Tryd.ntmps12
    go_wp2_with fail
    go_loopw [7] (fun k wr => Below w.heap.size w wr ∧ ∃ j : Nat, j ≤ a.length ∧ k = .int .i64 j ∧ ∀ j' (h : j' < a.length), j' < j → sameTk pl a[j'] (b[j']'(by omega)) = true) (fun k _ => a.length - (intOf k).toNat)
    case atStart => exact ⟨Below.refl _ _, 0, Nat.zero_le _, rfl, fun j' _ h => absurd h (by omega)⟩
    case round =>
      obtain ⟨hbw, j, hj, rfl, hall⟩ := hrel
      have HBW := Lib.hid hbw
      have HALL := Lib.hid hall
      clear hall
      by_cases hjl : j < a.length
      · obtain ⟨b1, o1, k1, hE1, hk1, hl1, hat1⟩ := HA.out.at_ (by omega)
        obtain ⟨b2, o2, k2, hE2, hk2, hl2, hat2⟩ := HB.out.at_ (by omega)
        cases hE1
        cases hE2
        have x1 := hat1 j hjl
        have y1 := hat2 j (by omega)
        have hx0 := (hbw.cell (p := ⟨_, _, none⟩) hl1).trans x1.kind
        have hx1 := (hbw.cell (p := ⟨_, _, none⟩) hl1).trans x1.text
        have hx2 := (hbw.cell (p := ⟨_, _, none⟩) hl1).trans x1.n
        have hx3 := (hbw.cell (p := ⟨_, _, none⟩) hl1).trans x1.pos
        have hy0 := (hbw.cell (p := ⟨_, _, none⟩) hl2).trans y1.kind
        have hy1 := (hbw.cell (p := ⟨_, _, none⟩) hl2).trans y1.text
        have hy2 := (hbw.cell (p := ⟨_, _, none⟩) hl2).trans y1.n
        have hy3 := (hbw.cell (p := ⟨_, _, none⟩) hl2).trans y1.pos
        have HF : Hid (sameTk pl a[j] (b[j]'(by omega)) = false → sameT pl a b = false) := fun h => sameT_at hl j hjl h
        have HT : Hid (sameTk pl a[j] (b[j]'(by omega)) = true → ∀ j' (h : j' < a.length), j' = j → sameTk pl a[j'] (b[j']'(by omega)) = true) := fun h j' hj' e => by subst e; exact h
        have hj0 : (0 : Int) ≤ (j : Int) := Int.natCast_nonneg _
        have hj1 : (j : Int) < (a.length : Int) := by omega
        have hj2 : (j : Int) < (b.length : Int) := by omega
        clear hat1 hat2 x1 y1 hbw
        generalize a[j] = x at hx0 hx1 hx2 hx3 HF HT
        generalize b[j]'(by omega) = y at hy0 hy1 hy2 hy3 HF HT
        cases h0 : (x.kind == y.kind)
        · have h0' : (x.kind != y.kind) = true := by unfold bne; rw [h0]; rfl
          go_wp2_with fail
          go_quiet (fail)
          go_wp2_with fail
          go_ret
          exact ⟨ret_bool (HF.out (by simp [sameTk, *])).symm, below_drewN HBW.out _⟩
        · have h0' : (x.kind != y.kind) = false := by unfold bne; rw [h0]; rfl
          have hnm : (x.text == y.text) = ((str x.text).toList == (str y.text).toList) := by rw [str_toList, str_toList]
          cases h2 : ((str x.text).toList == (str y.text).toList)
          · have h2' : ((str x.text).toList != (str y.text).toList) = true := by unfold bne; rw [h2]; rfl
            have HF2 : Hid (sameT pl a b = false) := HF.out (by rw [h2] at hnm; simp only [sameTk, hnm]; simp)
            clear hnm
            go_wp2_with fail
            go_quiet (fail)
            go_wp2_with fail
            go_ret
            exact ⟨ret_bool HF2.out.symm, below_drewN HBW.out _⟩
          · have h2' : ((str x.text).toList != (str y.text).toList) = false := by unfold bne; rw [h2]; rfl
            rw [h2] at hnm
            cases h1 : (x.n == y.n)
            · have h1' : (x.n != y.n) = true := by unfold bne; rw [h1]; rfl
              have HF2 : Hid (sameT pl a b = false) := HF.out (by simp only [sameTk, h1]; simp)
              clear hnm
              go_wp2_with fail
              go_quiet (fail)
              go_wp2_with fail
              go_ret
              exact ⟨ret_bool HF2.out.symm, below_drewN HBW.out _⟩
            · have h1' : (x.n != y.n) = false := by unfold bne; rw [h1]; rfl
              cases pl
              · have HT2 := Lib.hid (HT.out (by simp only [sameTk, hnm, h0, h1]; simp))
                clear hnm
                go_wp2_with fail
                go_quiet (fail)
                go_wp2_with fail
                go_roundw
                case rel =>
                  refine ⟨below_drewN HBW.out _, j + 1, by omega, by go_num, fun j' h hlt => ?_⟩
                  by_cases hjj : j' < j
                  · exact HALL.out j' h hjj
                  · exact HT2.out j' h (by omega)
                case measure => simp [intOf]; omega
              · cases h3 : (x.pos == y.pos)
                · have h3' : (x.pos != y.pos) = true := by unfold bne; rw [h3]; rfl
                  have HF2 : Hid (sameT true a b = false) := HF.out (by simp only [sameTk, h3]; simp)
                  clear hnm
                  go_wp2_with fail
                  go_quiet (fail)
                  go_wp2_with fail
                  go_ret
                  exact ⟨ret_bool HF2.out.symm, below_drewN HBW.out _⟩
                · have h3' : (x.pos != y.pos) = false := by unfold bne; rw [h3]; rfl
                  have HT2 := Lib.hid (HT.out (by simp only [sameTk, hnm, h0, h1, h3]; simp))
                  clear hnm
                  go_wp2_with fail
                  go_quiet (fail)
                  go_wp2_with fail
                  go_roundw
                  case rel =>
                    refine ⟨below_drewN HBW.out _, j + 1, by omega, by go_num, fun j' h hlt => ?_⟩
                    by_cases hjj : j' < j
                    · exact HALL.out j' h hjj
                    · exact HT2.out j' h (by omega)
                  case measure => simp [intOf]; omega
      · have HY := Lib.hid (sameT_all (b := pl) hl (fun i hi => HALL.out i hi (by omega)))
        go_wp2_with fail
        go_ret
        exact ⟨ret_bool HY.out.symm, HBW.out⟩
  · have hle : ((a.length : Int) == (b.length : Int)) = false := by rw [beq_eq_false_iff_ne]; omega
    have hln : ((a.length : Int) != (b.length : Int)) = true := by unfold bne; rw [hle]; rfl
    have HN := Lib.hid (sameT_len (b := pl) hl)
    go_enter Tryd.func12, Tryd.ntmps12
    go_wp2_with fail
    go_ret
    exact ⟨ret_bool HN.out.symm, Below.refl _ _⟩
end Go.Proofs.YtknfimagjkndnaaDoor

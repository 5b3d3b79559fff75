/- Each token stands in the text at its place: the walk. -/
import Derived.Test.YtknfimagjkndnaaDoorScaA
import Derived.IntWalk
namespace Go.Proofs.YtknfimagjkndnaaDoor
open Go Go.RowKit
set_option linter.unusedVariables false
theorem placed_at {s : List UInt8} : ∀ {l : List Tok} {e : Nat} (h : Placed s e l) (j : Nat) (hj : j < l.length), ∃ e', Placed s e' (l.drop j) := by
  intro l
  induction l with
  | nil => intro e h j hj; simp at hj
  | cons t r ih =>
    intro e h j hj
    match j with
    | 0 => exact ⟨e, h⟩
    | j + 1 =>
      obtain ⟨p, n, _, _, _, _, _, _, _, _, _, h2⟩ := h
      exact ih h2 j (by simpa using hj)
theorem ext_mid (s : ByteArray) (p n : Nat) (x : List UInt8) (hx : x = (s.data.toList.drop p).take n) : s.extract p (p + n) = str x := by
  rw [← str_of (s.extract p (p + n)), hx]
  congr 1
  rw [← ByteArray.toList_eq, extract_toList]
  congr 1; omega
set_option maxRecDepth 100000 in
set_option maxHeartbeats 8000000 in
theorem places_law (s : ByteArray) (hs : s.size ≤ 9223372036854775807) (w : World) (hE : Env w) :
    Calls Tryd.prog 6 #[.string s] w (Yes w) := by
  have HE := Lib.hid hE
  clear hE
  go_enter Tryd.func6, Tryd.ntmps6
  go_upto_region 2 with fail
  have hz := cut_size s 1500
  simp only [Int.cast_ofNat_Int] at hz
  generalize s.extract 0 (min (s.size : Int) 1500).toNat = s' at hz ⊢
  have hlen := data_len s'
  have HP := Lib.hid (fun u hu => scanP_c s' (by omega) u hu)
  have hpl := placed_scan s'.data.toList (by omega)
  have hl := scan_len s'.data.toList
  rw [data_len] at hl
  generalize scanE s'.data.toList = R at HP hpl hl
  obtain ⟨T, e0, p0⟩ := R
  simp only at HP hpl hl
  by_cases h0 : e0 = 0
  · subst h0
    have HPL := Lib.hid hpl
    clear hpl hs
    go_upto_region 3 with (first
      | (go_at_call 10; refine (HP.out _ HE.out).mono ?_; rintro e w1 ⟨A1, c1, rfl, hv1, hb1⟩; have HB1 := Lib.hid hb1; have HV1 := Lib.hid hv1; clear hb1 hv1))
    go_upto_region 7 with fail
    go_loopw [6, 7] (fun en k wr => Below w1.heap.size w1 wr ∧ ∃ j E : Nat, j ≤ T.length ∧ E ≤ s'.size ∧ k = .int .i64 j ∧ en = .int .i64 E ∧ Placed s'.data.toList E (T.drop j)) (fun _ k _ => T.length - (intOf k).toNat)
    case atStart => exact ⟨Below.refl _ _, 0, 0, Nat.zero_le _, Nat.zero_le _, rfl, rfl, HPL.out⟩
    case round =>
      obtain ⟨hb, j, E, hj, hEs, rfl, rfl, hpj⟩ := hrel
      have HB := Lib.hid hb
      have hj0 : (0 : Int) ≤ (j : Int) := Int.natCast_nonneg _
      by_cases hjl : j < T.length
      · have hjl2 : (j : Int) < (T.length : Int) := by omega
        obtain ⟨b, off, c, hE0, hcc, hbt, hat⟩ := Toks.at_ (l := T) HV1.out (by omega)
        cases hE0
        have x1 := hat j hjl
        have hx0 := (hb.cell (p := ⟨_, _, none⟩) hbt).trans x1.kind
        have hx1 := (hb.cell (p := ⟨_, _, none⟩) hbt).trans x1.text
        have hx2 := (hb.cell (p := ⟨_, _, none⟩) hbt).trans x1.n
        have hx3 := (hb.cell (p := ⟨_, _, none⟩) hbt).trans x1.pos
        rw [List.drop_eq_getElem_cons hjl] at hpj
        obtain ⟨p, n, hp1, hp2, hp3, hp4, hp5, hp6, hp7, hp8, hp9, hp10⟩ := hpj
        have HNX := Lib.hid hp10
        clear hat x1 hb hp10
        generalize T[j] = x at hx0 hx1 hx2 hx3 hp1 hp5 hp6 hp7 hp8 hp9
        rw [hp1] at hx3
        have htn : x.text.length = n := by rw [hp5, List.length_take, List.length_drop]; omega
        have hsz : (str x.text).size = n := by rw [str_size, htn]
        have hext := ext_mid s' p n x.text hp5
        have htl : ((str x.text).toList != (str x.text).toList) = false := by simp
        have k1 : decide (p < E) = false := by simp; omega
        have k1b : ¬ (p < E) := by omega
        have k3b : ¬ (s'.size < p + n) := by omega
        have k3c : decide (s'.size < p + n) = false := by simp; omega
        have k2 : ((n : Int) == 0) = false := by rw [beq_eq_false_iff_ne]; omega
        have k3 : decide ((s'.size : Int) < (p : Int) + (n : Int)) = false := by simp; omega
        have k4 : decide (x.kind < 1) = false := by simp; omega
        have k5 : decide (3 < x.kind) = false := by simp; omega
        have k6 : decide (x.n < 0) = false := by simp; omega
        have k7 : decide (4294967296 < x.n) = false := by simp; omega
        have hw1 : IntKind.i64.wrap ((p : Int) + (n : Int)) = ((p + n : Nat) : Int) := by rw [← Int.natCast_add]; exact IntWalk.i64_in _ (by omega)
        have hcs : (x.n = 0) ∨ (¬ x.n = 0 ∧ x.kind = 2) := by
          rcases hp7 with h | h
          · by_cases h2 : x.n = 0
            · exact .inl h2
            · exact .inr ⟨h2, h⟩
          · exact .inl h
        clear hp1 hp3 hp4 hp5 hp6 hp7 hp8 hp9 htn
        rcases hcs with hn0 | ⟨hn1, hk2⟩
        all_goals
          go_wp2_with fail
          go_quiet (fail)
          go_wp2_with fail
          go_roundw
          case rel => exact ⟨below_drewN (bt HB.out (al _ _)) _, j + 1, p + n, by omega, by omega, by go_num, by go_num, HNX.out⟩
          case measure => simp [intOf]; omega
      · obtain rfl : j = T.length := by omega
        have HEU := Lib.hid (HE.out.below (bt HB1.out hb))
        have HB2 := Lib.hid (bt HB1.out hb)
        go_wp2_with (first
          | (go_at_call 17; refine (fixed_c _ HEU.out).mono ?_; rintro e w8 ⟨rfl, hb8⟩))
        go_ret
        exact ⟨rfl, bt HB2.out hb8⟩
  · have h01 : (e0 != 0) = true := by rw [bne_iff_ne]; exact h0
    clear hpl h0 hs hz
    go_wp2_with (first
      | (go_at_call 10; refine (HP.out _ HE.out).mono ?_; rintro e w1 ⟨A1, c1, rfl, hv1, hb1⟩; have HB1 := Lib.hid hb1; clear hb1 hv1)
      | (go_at_call 17; refine (fixed_c _ (HE.out.below HB1.out)).mono ?_; rintro e w8 ⟨rfl, hb8⟩))
    go_ret
    exact ⟨rfl, bt HB1.out hb8⟩
end Go.Proofs.YtknfimagjkndnaaDoor

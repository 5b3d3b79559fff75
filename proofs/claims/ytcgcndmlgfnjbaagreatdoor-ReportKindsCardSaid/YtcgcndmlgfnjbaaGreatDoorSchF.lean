/- A schedule's text: the reference's walk. -/
import Derived.Test.YtcgcndmlgfnjbaaGreatDoorSchE
namespace Go.Proofs.YtcgcndmlgfnjbaaGreatDoor
open Go Go.RowKit
set_option linter.unusedVariables false
set_option maxRecDepth 100000 in
set_option maxHeartbeats 4000000 in
theorem rShow_c (l : List Pk) (hl : l.length ≤ 100000000) (hn : ∀ x ∈ l, x.cut.length ≤ 4611686018427387904) (v : Value) (w : World) (hv : Pks w v l) :
    Calls Tryz.prog 36 #[v] w fun e w' => e = .returned (.string (str (showK l))) ∧ Below w.heap.size w w' := by
  obtain ⟨A0, c0, rfl, hc0⟩ := hv.shape
  have HV := Lib.hid hv
  have HN := Lib.hid hn
  clear hv hn
  go_enter Tryz.func36, Tryz.ntmps36
  go_wp2_with fail
  go_loopw [3, 4] (fun s k wr => Below w.heap.size w wr ∧ ∃ j : Nat, j ≤ l.length ∧ k = .int .i64 j ∧ s = .string (str (textK (l.take j))) ∧ (l.take j).all rightK = true) (fun _ k _ => l.length - (intOf k).toNat)
  case atStart => exact ⟨Below.refl _ _, 0, Nat.zero_le _, rfl, rfl, rfl⟩
  case round =>
    obtain ⟨hb, j, hj, rfl, rfl, hno⟩ := hrel
    have HNO := Lib.hid hno
    have HB := Lib.hid hb
    have hj0 : (0 : Int) ≤ (j : Int) := Int.natCast_nonneg _
    by_cases hjl : j < l.length
    · have hjl2 : (j : Int) < (l.length : Int) := by omega
      obtain ⟨b, off, c, hE0, hcc, hbt, hat⟩ := Pks.at_ (l := l) HV.out (by omega)
      cases hE0
      obtain ⟨A1, n1, x1, hz1⟩ := hat j hjl
      have hx0 := (hb.cell (p := ⟨_, _, none⟩) hbt).trans x1.kind
      have hx1 := (hb.cell (p := ⟨_, _, none⟩) hbt).trans x1.t
      have hx2 := (hb.cell (p := ⟨_, _, none⟩) hbt).trans x1.i
      have hx3 := (hb.cell (p := ⟨_, _, none⟩) hbt).trans x1.cut
      have HCJ := Lib.hid (rRight_c (l[j]) _ wr (HN.out _ (List.getElem_mem hjl)) (SlN.below hz1 hb))
      have HZ1 := Lib.hid (SlN.below hz1 hb)
      cases his : rightK (l[j])
      · have HR : Hid (showK l = []) := by show _ = _; unfold showK; rw [all_not hjl his]; rfl
        rw [his] at HCJ
        clear his hb hat x1 hz1 hno HZ1
        generalize l[j] = x at hx0 hx1 hx2 hx3 HCJ
        unfold pkV at HCJ
        go_wp2_with (go_at_call 30; refine (HCJ.out).mono ?_; rintro e w2 ⟨rfl, hb2⟩)
        go_ret
        exact ⟨ret_str (by rw [HR.out]; rfl), bt HB.out hb2⟩
      · have HF : Hid ((l.take (j + 1)).all rightK = true) := by
          show _ = _
          rw [List.take_succ_eq_append_getElem hjl, List.all_append, HNO.out, List.all_cons, his]; rfl
        have HLN : Hid (∀ u, Below wr.heap.size wr u → Calls Tryz.prog 55 #[pkV l[j] (.slice A1 (l[j]).cut.length n1)] u fun e w' => e = .returned (.string (str (lineK l[j] ++ [10]))) ∧ Below u.heap.size u w') := fun u hu => rline_c _ his _ _ (SlN.below HZ1.out hu)
        have HS := Lib.hid (textK_take l j hjl)
        have hl1 := textK_len (l.take j) hno
        rw [List.length_take] at hl1
        have hl2 := line_len _ his
        rw [his] at HCJ
        have hm1 : (str (textK (l.take j))).size ≤ 22600000000 := by rw [str_size]; omega
        have hm2 : (str (lineK l[j] ++ [10])).size ≤ 226 := by rw [str_size, List.length_append]; show _ + 1 ≤ _; omega
        have HSS : Hid (str (textK (l.take j)) ++ str (lineK l[j] ++ [10]) = str (textK (l.take (j + 1)))) := by show _ = _; rw [str_snoc, HS.out]
        have hy0 := fun (u : World) (hu : Below wr.heap.size wr u) => (hu.cell (p := ⟨_, _, none⟩) (Nat.lt_of_lt_of_le hbt hb.size)).trans hx0
        have hy1 := fun (u : World) (hu : Below wr.heap.size wr u) => (hu.cell (p := ⟨_, _, none⟩) (Nat.lt_of_lt_of_le hbt hb.size)).trans hx1
        have hy2 := fun (u : World) (hu : Below wr.heap.size wr u) => (hu.cell (p := ⟨_, _, none⟩) (Nat.lt_of_lt_of_le hbt hb.size)).trans hx2
        have hy3 := fun (u : World) (hu : Below wr.heap.size wr u) => (hu.cell (p := ⟨_, _, none⟩) (Nat.lt_of_lt_of_le hbt hb.size)).trans hx3
        have HY0 := Lib.hid hy0
        have HY1 := Lib.hid hy1
        have HY2 := Lib.hid hy2
        have HY3 := Lib.hid hy3
        clear his hb hat x1 hz1 hno HZ1 HS hl1 hl2 hy0 hy1 hy2 hy3
        generalize str (textK (l.take j)) = so at HSS hm1 ⊢
        generalize str (lineK l[j] ++ [10]) = ln at HSS hm2 HLN
        generalize l[j] = x at hx0 hx1 hx2 hx3 HY0 HY1 HY2 HY3 HCJ HLN
        unfold pkV at HCJ HLN
        go_wp2_with (first
          | (go_at_call 30; refine (HCJ.out).mono ?_; rintro e w2 ⟨rfl, hb2⟩; have hq0 := HY0.out _ hb2; have hq1 := HY1.out _ hb2; have hq2 := HY2.out _ hb2; have hq3 := HY3.out _ hb2)
          | (go_at_call 55; refine (HLN.out _ hb2).mono ?_; rintro e w3 ⟨rfl, hb3⟩))
        go_roundw
        case rel => exact ⟨bt (bt HB.out hb2) hb3, j + 1, by omega, by go_num, by rw [← HSS.out], HF.out⟩
        case measure => simp [intOf]; omega
    · obtain rfl : j = l.length := by omega
      have HF : Hid (str (textK (l.take l.length)) = str (showK l)) := by
        show _ = _
        unfold showK
        rw [List.take_length] at hno ⊢
        rw [hno]; rfl
      clear hno HNO
      go_wp2_with fail
      go_ret
      exact ⟨by first | exact ret_str HF.out | (rw [← HF.out]; simp), HB.out⟩
end Go.Proofs.YtcgcndmlgfnjbaaGreatDoor

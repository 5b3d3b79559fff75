/- A name, or a kept word, is one word by itself: the walk. -/
import Derived.Test.YtknfimagjkndnaaDoorScaA
namespace Go.Proofs.YtknfimagjkndnaaDoor
open Go Go.RowKit
set_option linter.unusedVariables false
set_option maxRecDepth 100000 in
set_option maxHeartbeats 8000000 in
theorem snames_law (s : ByteArray) (hs : s.size ≤ 9223372036854775807) (w : World) (hE : Env w) :
    Calls Tryd.prog 9 #[.string s] w (Yes w) := by
  have HE := Lib.hid hE
  clear hE
  go_enter Tryd.func9, Tryd.ntmps9
  go_upto_region 2 with fail
  have hz := cut_size s 40
  simp only [Int.cast_ofNat_Int] at hz
  generalize s.extract 0 (min (s.size : Int) 40).toNat = s' at hz ⊢
  obtain ⟨tl, rfl⟩ : ∃ tl, s' = str tl := ⟨s'.data.toList, (str_of s').symm⟩
  have HP := Lib.hid (fun u hu => scanP_c (str tl) (by omega) u hu)
  rw [str_data] at HP
  rw [str_size] at hz
  have HN : Hid (∀ u, Env u → Calls Tryd.prog 13 #[.string (str tl)] u fun e w' => e = .returned (.bool (nameE tl)) ∧ Below u.heap.size u w') := fun u hu => name_c tl (by omega) u hu
  have HK := Lib.hid (fun u hu => Kept_c tl (by omega) u hu)
  have hone := one_word tl (by omega)
  have hnk := name_kept tl
  have htt := str_toList tl
  generalize scanE tl = R at HP hone
  obtain ⟨T, e0, p0⟩ := R
  simp only at HP hone
  generalize nameE tl = bn at HN hone hnk
  generalize keptE tl = bk at HK hone hnk
  clear hz hs
  have hno : (bn || bk) = false → (bn = false ∧ bk = false) := by cases bn <;> cases bk <;> simp
  have hfin : (bn || bk) = true → ((bn = true ∧ bk = false) ∨ (bn = false ∧ bk = true)) := by revert hnk; cases bn <;> cases bk <;> simp
  by_cases h0 : e0 = 0
  · subst h0
    by_cases hl : T.length = 1
    · obtain ⟨x, rfl⟩ : ∃ x, T = [x] := List.length_eq_one_iff.1 hl
      have hone2 : (bn || bk) = ((x.kind == 1) && ((str x.text).toList == tl)) := by rw [hone, str_toList, Bool.eq_iff_iff]; simp
      have HP2 : Hid (∀ u, Env u → Calls Tryd.prog 10 #[.string (str tl)] u fun r w' => ∃ b o c, r = .returned (.tuple #[.slice (some ⟨b, o, none⟩) 1 c, .int .i64 0, .int .i64 p0]) ∧ TokAt w' b o x ∧ Below u.heap.size u w') := fun u hu => by
        refine (HP.out u hu).mono ?_
        rintro r w' ⟨A, c, rfl, hv, hb⟩
        obtain ⟨b, o, c', hE, hc, hlt, hat⟩ := Toks.at_ (l := [x]) hv (by simp)
        cases hE
        exact ⟨b, o, c, rfl, hat 0 (by simp), hb⟩
      clear hone hl HP
      cases hk : (x.kind == 1)
      · obtain ⟨rfl, rfl⟩ := hno (by rw [hone2, hk]; rfl)
        clear hno hfin hnk hone2 htt
        go_wp2_with (first
                | (go_at_call 10; refine (HP2.out _ HE.out).mono ?_; rintro e w1 ⟨b1, o1, c1, rfl, hat1, hb1⟩; have HB1 := Lib.hid hb1; have hx0 := hat1.kind; have hx1 := hat1.text; clear hb1 hat1)
                | (go_at_call 13; refine (HN.out _ (HE.out.below HB1.out)).mono ?_; rintro e w2 ⟨rfl, hb2⟩; have HB2 := Lib.hid (bt HB1.out hb2); clear hb2)
                | (go_at_call 15; refine (HK.out _ (HE.out.below HB2.out)).mono ?_; rintro e w3 ⟨rfl, hb3⟩; have HB3 := Lib.hid (bt HB2.out hb3); clear hb3)
                | (go_at_call 13; refine (HN.out _ (HE.out.below HB3.out)).mono ?_; rintro e w4 ⟨rfl, hb4⟩; have HB4 := Lib.hid (bt HB3.out hb4); clear hb4)
                | (go_at_call 17; refine (fixed_c _ (HE.out.below HB4.out)).mono ?_; rintro e w8 ⟨rfl, hb8⟩))
        go_ret
        exact ⟨rfl, bt HB4.out hb8⟩
      · cases htx : ((str x.text).toList == tl)
        · obtain ⟨rfl, rfl⟩ := hno (by rw [hone2, htx]; simp)
          have htx2 : ((str x.text).toList == (str tl).toList) = false := by rw [htt]; exact htx
          clear hno hfin hnk hone2 htt htx
          go_wp2_with (first
                  | (go_at_call 10; refine (HP2.out _ HE.out).mono ?_; rintro e w1 ⟨b1, o1, c1, rfl, hat1, hb1⟩; have HB1 := Lib.hid hb1; have hx0 := hat1.kind; have hx1 := hat1.text; clear hb1 hat1)
                  | (go_at_call 13; refine (HN.out _ (HE.out.below HB1.out)).mono ?_; rintro e w2 ⟨rfl, hb2⟩; have HB2 := Lib.hid (bt HB1.out hb2); clear hb2)
                  | (go_at_call 15; refine (HK.out _ (HE.out.below HB2.out)).mono ?_; rintro e w3 ⟨rfl, hb3⟩; have HB3 := Lib.hid (bt HB2.out hb3); clear hb3)
                  | (go_at_call 13; refine (HN.out _ (HE.out.below HB3.out)).mono ?_; rintro e w4 ⟨rfl, hb4⟩; have HB4 := Lib.hid (bt HB3.out hb4); clear hb4)
                  | (go_at_call 17; refine (fixed_c _ (HE.out.below HB4.out)).mono ?_; rintro e w8 ⟨rfl, hb8⟩))
          go_ret
          exact ⟨rfl, bt HB4.out hb8⟩
        · have htx2 : ((str x.text).toList == (str tl).toList) = true := by rw [htt]; exact htx
          rcases hfin (by rw [hone2, hk, htx]; rfl) with ⟨rfl, rfl⟩ | ⟨rfl, rfl⟩
          · clear hno hfin hnk hone2 htt htx
            go_wp2_with (first
                    | (go_at_call 10; refine (HP2.out _ HE.out).mono ?_; rintro e w1 ⟨b1, o1, c1, rfl, hat1, hb1⟩; have HB1 := Lib.hid hb1; have hx0 := hat1.kind; have hx1 := hat1.text; clear hb1 hat1)
                    | (go_at_call 13; refine (HN.out _ (HE.out.below HB1.out)).mono ?_; rintro e w2 ⟨rfl, hb2⟩; have HB2 := Lib.hid (bt HB1.out hb2); clear hb2)
                    | (go_at_call 13; refine (HN.out _ (HE.out.below HB2.out)).mono ?_; rintro e w4 ⟨rfl, hb4⟩; have HB4 := Lib.hid (bt HB2.out hb4); clear hb4)
                    | (go_at_call 15; refine (HK.out _ (HE.out.below HB4.out)).mono ?_; rintro e w5 ⟨rfl, hb5⟩; have HB5 := Lib.hid (bt HB4.out hb5); clear hb5)
                    | (go_at_call 17; refine (fixed_c _ (HE.out.below HB5.out)).mono ?_; rintro e w8 ⟨rfl, hb8⟩))
            go_ret
            exact ⟨rfl, bt HB5.out hb8⟩
          · clear hno hfin hnk hone2 htt htx
            go_wp2_with (first
                    | (go_at_call 10; refine (HP2.out _ HE.out).mono ?_; rintro e w1 ⟨b1, o1, c1, rfl, hat1, hb1⟩; have HB1 := Lib.hid hb1; have hx0 := hat1.kind; have hx1 := hat1.text; clear hb1 hat1)
                    | (go_at_call 13; refine (HN.out _ (HE.out.below HB1.out)).mono ?_; rintro e w2 ⟨rfl, hb2⟩; have HB2 := Lib.hid (bt HB1.out hb2); clear hb2)
                    | (go_at_call 15; refine (HK.out _ (HE.out.below HB2.out)).mono ?_; rintro e w3 ⟨rfl, hb3⟩; have HB3 := Lib.hid (bt HB2.out hb3); clear hb3)
                    | (go_at_call 13; refine (HN.out _ (HE.out.below HB3.out)).mono ?_; rintro e w4 ⟨rfl, hb4⟩; have HB4 := Lib.hid (bt HB3.out hb4); clear hb4)
                    | (go_at_call 17; refine (fixed_c _ (HE.out.below HB4.out)).mono ?_; rintro e w8 ⟨rfl, hb8⟩))
            go_ret
            exact ⟨rfl, bt HB4.out hb8⟩
    · obtain ⟨rfl, rfl⟩ := hno (by
        rw [hone]
        match T, hl with
        | [], _ => simp
        | [x], hl => exact absurd rfl hl
        | a :: b :: r, _ => simp)
      have hl1 : ((T.length : Int) == 1) = false := by rw [beq_eq_false_iff_ne]; omega
      clear hno hfin hnk hone htt hl
      go_wp2_with (first
              | (go_at_call 10; refine (HP.out _ HE.out).mono ?_; rintro e w1 ⟨A1, c1, rfl, hv1, hb1⟩; have HB1 := Lib.hid hb1; clear hb1 hv1)
              | (go_at_call 13; refine (HN.out _ (HE.out.below HB1.out)).mono ?_; rintro e w2 ⟨rfl, hb2⟩; have HB2 := Lib.hid (bt HB1.out hb2); clear hb2)
              | (go_at_call 15; refine (HK.out _ (HE.out.below HB2.out)).mono ?_; rintro e w3 ⟨rfl, hb3⟩; have HB3 := Lib.hid (bt HB2.out hb3); clear hb3)
              | (go_at_call 13; refine (HN.out _ (HE.out.below HB3.out)).mono ?_; rintro e w4 ⟨rfl, hb4⟩; have HB4 := Lib.hid (bt HB3.out hb4); clear hb4)
              | (go_at_call 17; refine (fixed_c _ (HE.out.below HB4.out)).mono ?_; rintro e w8 ⟨rfl, hb8⟩))
      go_ret
      exact ⟨rfl, bt HB4.out hb8⟩
  · have h01 : (e0 == 0) = false := by rw [beq_eq_false_iff_ne]; exact h0
    obtain ⟨rfl, rfl⟩ := hno (by rw [hone, decide_eq_false h0]; rfl)
    clear hno hfin hnk hone htt h0
    go_wp2_with (first
            | (go_at_call 10; refine (HP.out _ HE.out).mono ?_; rintro e w1 ⟨A1, c1, rfl, hv1, hb1⟩; have HB1 := Lib.hid hb1; clear hb1 hv1)
            | (go_at_call 13; refine (HN.out _ (HE.out.below HB1.out)).mono ?_; rintro e w2 ⟨rfl, hb2⟩; have HB2 := Lib.hid (bt HB1.out hb2); clear hb2)
            | (go_at_call 15; refine (HK.out _ (HE.out.below HB2.out)).mono ?_; rintro e w3 ⟨rfl, hb3⟩; have HB3 := Lib.hid (bt HB2.out hb3); clear hb3)
            | (go_at_call 13; refine (HN.out _ (HE.out.below HB3.out)).mono ?_; rintro e w4 ⟨rfl, hb4⟩; have HB4 := Lib.hid (bt HB3.out hb4); clear hb4)
            | (go_at_call 17; refine (fixed_c _ (HE.out.below HB4.out)).mono ?_; rintro e w8 ⟨rfl, hb8⟩))
    go_ret
    exact ⟨rfl, bt HB4.out hb8⟩
end Go.Proofs.YtknfimagjkndnaaDoor

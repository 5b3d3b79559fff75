/- The laws on schedules: what is shown is parsed as it was; joined: the walks. -/
import Derived.Test.YtimekgplallkiaaDoorSchX
namespace Go.Proofs.YtimekgplallkiaaDoor
open Go Go.RowKit
set_option linter.unusedVariables false
/-- what Parse tells of a text, by words of one's own -/
theorem pparse_at (l : List UInt8) (hl : l.length ≤ 1000000) (P : List Pk) (e p : Int) (hR : parseK l = (P, e, p)) (w : World) (hE : Env w) :
    Calls Tryd.prog 21 #[.string (str l)] w fun r w' => ∃ A c, r = .returned (.tuple #[.slice A P.length c, .int .i64 e, .int .i64 p]) ∧ Pks w' (.slice A P.length c) P ∧ Below w.heap.size w w' :=
  parse_at l _ rfl hl w hE P _ e p rfl hR
set_option maxRecDepth 100000 in
set_option maxHeartbeats 8000000 in
theorem lawBack_c (l : List Pk) (hl : l.length ≤ 9223372036854775807) (hln : ∀ x ∈ l, x.cut.length ≤ 9223372036854775807) (v : Value) (s : ByteArray) (hz : s.size ≤ 9223372036854775807) (w : World) (hv : Pks w v l) (hE : Env w) :
    Calls Tryd.prog 5 #[v, .string s] w (Yes w) := by
  have HE := Lib.hid hE
  have HCL := Lib.hid (pCut_c l hl hln v w hv)
  have hl4 := cutPs_len l
  have hlc := cutPs_cut l
  obtain ⟨A0, c0, rfl, hc0⟩ := hv.shape
  clear hE hv hl hln hc0
  generalize cutPs l = L at HCL hl4 hlc
  go_enter Tryd.func5, Tryd.ntmps5
  go_wp2_with (first
    | (go_at_call 8; (with_reducible refine (HCL.out).mono ?_); rintro e w1 ⟨A2, c2, rfl, hp1, hb1⟩))
  have ht := cut_size s 1500
  simp only [Int.cast_ofNat_Int] at ht
  generalize s.extract 0 (min (s.size : Int) 1500).toNat = t at ht ⊢
  have HP1 := Lib.hid hp1
  have HB1 := Lib.hid hb1
  have HLC := Lib.hid hlc
  clear HCL hlc hp1 hb1
  go_loopw [5, 6] (fun r k wr => ∃ j : Nat, j ≤ L.length ∧ k = .int .i64 j ∧ r = .bool ((L.take j).all rightK) ∧ Below w1.heap.size w1 wr) (fun _ k _ => L.length - (intOf k).toNat)
  case atStart => exact ⟨0, Nat.zero_le _, rfl, rfl, Below.refl _ _⟩
  case round =>
    obtain ⟨j, hj, rfl, rfl, hb⟩ := hrel
    have HB := Lib.hid hb
    have hj0 : (0 : Int) ≤ (j : Int) := Int.natCast_nonneg _
    by_cases hjl : j < L.length
    · have hjl2 : (j : Int) < (L.length : Int) := by omega
      obtain ⟨b, off, c, hE0, hcc, hbt, hat⟩ := Pks.at_ (l := L) HP1.out (by omega)
      cases hE0
      obtain ⟨A4, n4, x1, hz1⟩ := hat j hjl
      have hat1 := four_at x1 hb
      have q0 := hat1.kind; have q1 := hat1.t; have q2 := hat1.i; have q3 := hat1.cut
      have hz1 := SlN.below hz1 hb
      have hcl := HLC.out _ (List.getElem_mem hjl)
      have HST := Lib.hid (all_step L j hjl)
      clear hat x1 hb hat1
      generalize L[j] = x at q0 q1 q2 q3 hz1 hcl HST
      have RP : Hid (Calls Tryd.prog 9 #[.agg #[.int .i64 x.kind, .int .i64 x.t, .int .i64 x.i, .slice A4 x.cut.length n4]] wr fun e w' => e = .returned (.bool (rightK x)) ∧ Below wr.heap.size wr w') := pRight_c x _ wr (by omega) hz1
      clear hz1 hcl
      generalize (L.take j).all rightK = r at HST ⊢
      generalize rightK x = rb at RP HST
      cases r
      · go_wp2_with fail
        go_roundw
        case rel => exact ⟨j + 1, by omega, by go_num, by rw [HST.out]; rfl, HB.out⟩
        case measure => simp [intOf]; omega
      · go_wp2_with (go_at_call 9; (with_reducible refine (RP.out).mono ?_); rintro e w3 ⟨rfl, hb3⟩)
        go_roundw
        case rel => exact ⟨j + 1, by omega, by go_num, by rw [HST.out]; rfl, bt HB.out hb3⟩
        case measure => simp [intOf]; omega
    · obtain rfl : j = L.length := by omega
      have hlc := HLC.out
      have HLU : Hid (∀ u, Below wr.heap.size wr u → Pks u (.slice A2 L.length c2) L) := fun u hu => (HP1.out.below hb).below hu
      have HEU : Hid (∀ u, Below wr.heap.size wr u → Env u) := fun u hu => HE.out.below (bt (bt HB1.out hb) hu)
      have HBF := Lib.hid (bt HB1.out hb)
      have HSH : Hid (Calls Tryd.prog 11 #[.slice A2 L.length c2] wr fun e w' => e = .returned (.string (str (showK L))) ∧ Below wr.heap.size wr w') := pShow_c L (by omega) (fun x hx => by have := hlc x hx; omega) _ wr (HLU.out wr (Below.refl _ _)) (HEU.out wr (Below.refl _ _))
      have hpf := parse_facts t.data.toList
      have HPT : Hid (∀ P e p, parseK t.data.toList = (P, e, p) → ∀ u, Env u → Calls Tryd.prog 21 #[.string t] u fun r w' => ∃ A c, r = .returned (.tuple #[.slice A P.length c, .int .i64 e, .int .i64 p]) ∧ Pks w' (.slice A P.length c) P ∧ Below u.heap.size u w') := fun P e p h u hu => by
        have := pparse_at _ (by rw [data_len]; omega) P e p h u hu
        rwa [str_of] at this
      have hall := List.take_length (l := L)
      rw [hall]
      clear hall hb
      have HPF : Hid (∃ (P : List Pk) (e p : Int), (∀ u, Env u → Calls Tryd.prog 21 #[.string t] u fun r w' => ∃ A c, r = .returned (.tuple #[.slice A P.length c, .int .i64 e, .int .i64 p]) ∧ Pks w' (.slice A P.length c) P ∧ Below u.heap.size u w') ∧ ((e = 0 ∧ ∀ u v, Pks u v P → Env u → Calls Tryd.prog 11 #[v] u fun e w' => e = .returned (.string t) ∧ Below u.heap.size u w') ∨ (¬ e = 0 ∧ P.length = 0 ∧ 0 ≤ p))) := by
        rcases hpf with ⟨P, h, h1, h2⟩ | ⟨e, n, h, h1⟩
        · refine ⟨P, 0, 0, HPT.out P 0 0 h, .inl ⟨rfl, fun u v hv hu => ?_⟩⟩
          have hg := text_ge P
          rw [h2, data_len] at hg
          have := pShow_c P (by omega) (fun x hx => by have := all_cut h1 x hx; omega) v u hv hu
          rw [show_all h1, h2, str_of] at this
          exact this
        · exact ⟨[], _, _, HPT.out _ _ _ h, .inr ⟨h1, rfl, by omega⟩⟩
      clear hpf HPT
      have HMID : Hid (∃ (T : ByteArray) (m : List Pk), Calls Tryd.prog 11 #[.slice A2 L.length c2] wr (fun e w' => e = .returned (.string T) ∧ Below wr.heap.size wr w') ∧ (∀ u, Env u → Calls Tryd.prog 21 #[.string T] u fun r w' => ∃ A c, r = .returned (.tuple #[.slice A m.length c, .int .i64 0, .int .i64 0]) ∧ Pks w' (.slice A m.length c) m ∧ Below u.heap.size u w') ∧ ((L.all rightK = true ∧ m = L) ∨ (L.all rightK = false ∧ T = ⟨#[]⟩))) := by
        by_cases ha : L.all rightK = true
        · refine ⟨str (textK L), L, by have := HSH.out; rwa [show_all ha] at this, fun u hu => pparse_at _ (by have := textK_len L ha; omega) L 0 0 (parse_shown L ha (by omega)) u hu, .inl ⟨ha, rfl⟩⟩
        · have ha : L.all rightK = false := by simpa using ha
          refine ⟨⟨#[]⟩, [], by have := HSH.out; rwa [show_none ha] at this, fun u hu => pparse_at [] (by decide) [] 0 0 parse_empty u hu, .inr ⟨ha, rfl⟩⟩
      have HPK : Hid (∀ u, Below wr.heap.size wr u → ∀ v2, Pks u v2 L → Calls Tryd.prog 19 #[.slice A2 L.length c2, v2] u fun e w' => e = .returned (.bool true) ∧ Below u.heap.size u w') := fun u hu v2 h2 => by
        refine (rPicks_c L L (by omega) (by omega) (fun x hx => by have := hlc x hx; omega) (fun x hx => by have := hlc x hx; omega) _ _ u (HLU.out u hu) h2).mono ?_
        rintro e w' ⟨rfl, q, rfl⟩
        exact ⟨by simp, bdrN (Below.refl _ _) _⟩
      clear hlc HSH
      obtain ⟨T, m, hsh, hpm, hm⟩ := HMID.out
      obtain ⟨P, e2, p2, hpp, hcase⟩ := HPF.out
      have HSH := Lib.hid hsh
      have HPM := Lib.hid hpm
      have HPP := Lib.hid hpp
      clear hsh hpm hpp HMID HPF
      rcases hm with ⟨ha, rfl⟩ | ⟨ha, rfl⟩
      all_goals
        rw [ha]
        clear ha
        rcases hcase with ⟨rfl, hst⟩ | ⟨he2, hpl, hp0⟩
      · have HST := Lib.hid hst
        clear hst
        go_wp2_with (first
          | (go_at_call 11; (with_reducible refine (HSH.out).mono ?_); rintro e w3 ⟨rfl, h3⟩)
          | (go_at_call 21; (with_reducible refine (HPM.out _ (HEU.out _ h3)).mono ?_); rintro e w4 ⟨A4, c4, rfl, hp4, hb4⟩; have h4 := bt h3 hb4; clear hb4 h3)
          | (go_at_call 19; (with_reducible refine (HPK.out _ h4 _ hp4).mono ?_); rintro e w5 ⟨rfl, hb5⟩; have h5 := bt h4 hb5; clear hb5)
          | (go_at_call 21; (with_reducible refine (HPP.out _ (HEU.out _ h5)).mono ?_); rintro e w6 ⟨A6, c6, rfl, hp6, hb6⟩; have h6 := bt h5 hb6; clear hb6 h5)
          | (go_at_call 11; (with_reducible refine (HST.out _ _ hp6 (HEU.out _ h6)).mono ?_); rintro e w7 ⟨rfl, hb7⟩; have h7 := bt h6 hb7; clear hb7 h6)
          | (go_at_call 20; (with_reducible refine (fixed_c _ (HEU.out _ h7)).mono ?_); rintro e w8 ⟨rfl, hb8⟩; have h8 := bt h7 hb8; clear hb8 h7))
        go_ret
        exact ⟨rfl, bt HBF.out h8⟩
      · have hn1 : (e2 == 0) = false := by rw [beq_eq_false_iff_ne]; exact he2
        have hn2 : (e2 != 0) = true := by rw [bne_iff_ne]; exact he2
        have hn3 : decide (0 ≤ p2) = true := by simpa using hp0
        rw [hpl] at HPP
        go_wp2_with (first
          | (go_at_call 11; (with_reducible refine (HSH.out).mono ?_); rintro e w3 ⟨rfl, h3⟩)
          | (go_at_call 21; (with_reducible refine (HPM.out _ (HEU.out _ h3)).mono ?_); rintro e w4 ⟨A4, c4, rfl, hp4, hb4⟩; have h4 := bt h3 hb4; clear hb4 h3)
          | (go_at_call 19; (with_reducible refine (HPK.out _ h4 _ hp4).mono ?_); rintro e w5 ⟨rfl, hb5⟩; have h5 := bt h4 hb5; clear hb5)
          | (go_at_call 21; (with_reducible refine (HPP.out _ (HEU.out _ h5)).mono ?_); rintro e w6 ⟨A6, c6, rfl, hp6, hb6⟩; have h6 := bt h5 hb6; clear hb6 h5)
          | (go_at_call 20; (with_reducible refine (fixed_c _ (HEU.out _ h6)).mono ?_); rintro e w8 ⟨rfl, hb8⟩; have h8 := bt h6 hb8; clear hb8 h6))
        go_ret
        exact ⟨rfl, bt HBF.out h8⟩
      · have HST := Lib.hid hst
        clear hst
        go_wp2_with (first
          | (go_at_call 11; (with_reducible refine (HSH.out).mono ?_); rintro e w3 ⟨rfl, h3⟩)
          | (go_at_call 21; (with_reducible refine (HPM.out _ (HEU.out _ h3)).mono ?_); rintro e w4 ⟨A4, c4, rfl, hp4, hb4⟩; have h4 := bt h3 hb4; clear hb4 h3)
          | (go_at_call 21; (with_reducible refine (HPP.out _ (HEU.out _ h4)).mono ?_); rintro e w6 ⟨A6, c6, rfl, hp6, hb6⟩; have h6 := bt h4 hb6; clear hb6 h4)
          | (go_at_call 11; (with_reducible refine (HST.out _ _ hp6 (HEU.out _ h6)).mono ?_); rintro e w7 ⟨rfl, hb7⟩; have h7 := bt h6 hb7; clear hb7 h6)
          | (go_at_call 20; (with_reducible refine (fixed_c _ (HEU.out _ h7)).mono ?_); rintro e w8 ⟨rfl, hb8⟩; have h8 := bt h7 hb8; clear hb8 h7))
        go_ret
        exact ⟨rfl, bt HBF.out h8⟩
      · have hn1 : (e2 == 0) = false := by rw [beq_eq_false_iff_ne]; exact he2
        have hn2 : (e2 != 0) = true := by rw [bne_iff_ne]; exact he2
        have hn3 : decide (0 ≤ p2) = true := by simpa using hp0
        rw [hpl] at HPP
        go_wp2_with (first
          | (go_at_call 11; (with_reducible refine (HSH.out).mono ?_); rintro e w3 ⟨rfl, h3⟩)
          | (go_at_call 21; (with_reducible refine (HPM.out _ (HEU.out _ h3)).mono ?_); rintro e w4 ⟨A4, c4, rfl, hp4, hb4⟩; have h4 := bt h3 hb4; clear hb4 h3)
          | (go_at_call 21; (with_reducible refine (HPP.out _ (HEU.out _ h4)).mono ?_); rintro e w6 ⟨A6, c6, rfl, hp6, hb6⟩; have h6 := bt h4 hb6; clear hb6 h4)
          | (go_at_call 20; (with_reducible refine (fixed_c _ (HEU.out _ h6)).mono ?_); rintro e w8 ⟨rfl, hb8⟩; have h8 := bt h6 hb8; clear hb8 h6))
        go_ret
        exact ⟨rfl, bt HBF.out h8⟩
end Go.Proofs.YtimekgplallkiaaDoor

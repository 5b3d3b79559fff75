/- The laws of words on numbers: the walks. -/
import Derived.Test.YtmcgeaodmnchaaaDoorWalkJ
import Derived.WalkKit
import Derived.WalkSpells
import Derived.WalkLawsBesides
import Derived.Lib.Hide
namespace Go.Proofs.YtmcgeaodmnchaaaDoor
open Go.RowKit
set_option linter.unusedVariables false
/-- what the operators make of a and b -/
structure Ord (a b : Int) (l g e u m an o x y z : Int) : Prop where
  hl : twoE 12 a b = (l, 0)
  hg : twoE 12 b a = (g, 0)
  he : twoE 10 a b = (e, 0)
  hu : twoE 11 a b = (u, 0)
  hm : twoE 13 a b = (m, 0)
  han : twoE 14 a b = (an, 0)
  ho : twoE 15 a b = (o, 0)
  hx : oneE 4 a = (x, 0)
  hy : oneE 4 b = (y, 0)
  hz : twoE 14 x y = (z, 0)
theorem ord_cases (a b : Int) : ∃ l g e u m an o x y z, Ord a b l g e u m an o x y z ∧
    ((l = 1 ∧ g = 0 ∧ e = 0 ∧ u = 1 ∧ m = 1) ∨ (l = 0 ∧ g = 1 ∧ e = 0 ∧ u = 1 ∧ m = 0) ∨ (l = 0 ∧ g = 0 ∧ e = 1 ∧ u = 0 ∧ m = 1)) ∧
    ((an = 1 ∧ o = 1 ∧ x = 0 ∧ y = 0 ∧ z = 0) ∨ (an = 0 ∧ o = 1 ∧ x = 1 ∧ y = 0 ∧ z = 0) ∨ (an = 0 ∧ o = 1 ∧ x = 0 ∧ y = 1 ∧ z = 0) ∨ (an = 0 ∧ o = 0 ∧ x = 1 ∧ y = 1 ∧ z = 1)) := by
  refine ⟨_, _, _, _, _, _, _, _, _, _, ⟨tw12 a b, tw12 b a, tw10 a b, tw11 a b, tw13 a b, tw14 a b, tw15 a b, on4 a, on4 b, tw14 _ _⟩, ?_, ?_⟩
  · have h : a < b ∨ b < a ∨ a = b := by omega
    rcases h with h | h | h
    · exact .inl ⟨by simp [trB, h], by simp [trB]; omega, by simp [trB]; omega, by simp [trB]; omega, by simp [trB]; omega⟩
    · exact .inr (.inl ⟨by simp [trB]; omega, by simp [trB, h], by simp [trB]; omega, by simp [trB]; omega, by simp [trB]; omega⟩)
    · subst h
      exact .inr (.inr ⟨by simp [trB], by simp [trB], by simp [trB], by simp [trB], by simp [trB]⟩)
  · by_cases h1 : a = 0 <;> by_cases h2 : b = 0 <;> simp [trB, h1, h2]
set_option maxRecDepth 100000 in
set_option maxHeartbeats 1000000 in
theorem orders_00 (a b : Int) (ho : Ord a b 1 0 0 1 1 1 1 0 0 0) (w : World) (hE : Env w) :
    Calls Tryd.prog 8 #[.int .i64 a, .int .i64 b] w (Yes w) := by
  have HE := Lib.hid hE
  clear hE
  have HO := Lib.hid ho
  clear ho
  go_enter Tryd.func8, Tryd.ntmps8
  go_wp2_with fail
  refine (two_at HO.out.hl _).mono ?_
  rintro e w1 ⟨rfl, hb1⟩
  go_wp2_with fail
  refine (two_at HO.out.hg _).mono ?_
  rintro e w2 ⟨rfl, hb2⟩
  go_wp2_with fail
  refine (two_at HO.out.he _).mono ?_
  rintro e w3 ⟨rfl, hb3⟩
  go_wp2_with fail
  refine (two_at HO.out.hu _).mono ?_
  rintro e w4 ⟨rfl, hb4⟩
  go_wp2_with fail
  refine (two_at HO.out.hm _).mono ?_
  rintro e w5 ⟨rfl, hb5⟩
  go_wp2_with fail
  refine (two_at HO.out.han _).mono ?_
  rintro e w6 ⟨rfl, hb6⟩
  go_wp2_with fail
  refine (two_at HO.out.ho _).mono ?_
  rintro e w7 ⟨rfl, hb7⟩
  go_wp2_with fail
  refine (one_at HO.out.hx _).mono ?_
  rintro e w8 ⟨rfl, rfl⟩
  go_wp2_with fail
  refine (one_at HO.out.hy _).mono ?_
  rintro e w9 ⟨rfl, rfl⟩
  go_wp2_with fail
  refine (two_at HO.out.hz _).mono ?_
  rintro e w10 ⟨rfl, hb10⟩
  have hb := (bt (bt (bt (bt (bt (bt (bt hb1 hb2) hb3) hb4) hb5) hb6) hb7) hb10)
  clear hb1 hb2 hb3 hb4 hb5 hb6 hb7 hb10
  have HE2 := Lib.hid (HE.out.below hb)
  go_wp2_with (go_at_call 18; refine (fixed_c _ HE2.out).mono ?_; rintro e w' ⟨rfl, hb3⟩)
  go_ret
  exact ⟨rfl, bt hb hb3⟩
set_option maxRecDepth 100000 in
set_option maxHeartbeats 1000000 in
theorem orders_01 (a b : Int) (ho : Ord a b 1 0 0 1 1 0 1 1 0 0) (w : World) (hE : Env w) :
    Calls Tryd.prog 8 #[.int .i64 a, .int .i64 b] w (Yes w) := by
  have HE := Lib.hid hE
  clear hE
  have HO := Lib.hid ho
  clear ho
  go_enter Tryd.func8, Tryd.ntmps8
  go_wp2_with fail
  refine (two_at HO.out.hl _).mono ?_
  rintro e w1 ⟨rfl, hb1⟩
  go_wp2_with fail
  refine (two_at HO.out.hg _).mono ?_
  rintro e w2 ⟨rfl, hb2⟩
  go_wp2_with fail
  refine (two_at HO.out.he _).mono ?_
  rintro e w3 ⟨rfl, hb3⟩
  go_wp2_with fail
  refine (two_at HO.out.hu _).mono ?_
  rintro e w4 ⟨rfl, hb4⟩
  go_wp2_with fail
  refine (two_at HO.out.hm _).mono ?_
  rintro e w5 ⟨rfl, hb5⟩
  go_wp2_with fail
  refine (two_at HO.out.han _).mono ?_
  rintro e w6 ⟨rfl, hb6⟩
  go_wp2_with fail
  refine (two_at HO.out.ho _).mono ?_
  rintro e w7 ⟨rfl, hb7⟩
  go_wp2_with fail
  refine (one_at HO.out.hx _).mono ?_
  rintro e w8 ⟨rfl, rfl⟩
  go_wp2_with fail
  refine (one_at HO.out.hy _).mono ?_
  rintro e w9 ⟨rfl, rfl⟩
  go_wp2_with fail
  refine (two_at HO.out.hz _).mono ?_
  rintro e w10 ⟨rfl, hb10⟩
  have hb := (bt (bt (bt (bt (bt (bt (bt hb1 hb2) hb3) hb4) hb5) hb6) hb7) hb10)
  clear hb1 hb2 hb3 hb4 hb5 hb6 hb7 hb10
  have HE2 := Lib.hid (HE.out.below hb)
  go_wp2_with (go_at_call 18; refine (fixed_c _ HE2.out).mono ?_; rintro e w' ⟨rfl, hb3⟩)
  go_ret
  exact ⟨rfl, bt hb hb3⟩
set_option maxRecDepth 100000 in
set_option maxHeartbeats 1000000 in
theorem orders_02 (a b : Int) (ho : Ord a b 1 0 0 1 1 0 1 0 1 0) (w : World) (hE : Env w) :
    Calls Tryd.prog 8 #[.int .i64 a, .int .i64 b] w (Yes w) := by
  have HE := Lib.hid hE
  clear hE
  have HO := Lib.hid ho
  clear ho
  go_enter Tryd.func8, Tryd.ntmps8
  go_wp2_with fail
  refine (two_at HO.out.hl _).mono ?_
  rintro e w1 ⟨rfl, hb1⟩
  go_wp2_with fail
  refine (two_at HO.out.hg _).mono ?_
  rintro e w2 ⟨rfl, hb2⟩
  go_wp2_with fail
  refine (two_at HO.out.he _).mono ?_
  rintro e w3 ⟨rfl, hb3⟩
  go_wp2_with fail
  refine (two_at HO.out.hu _).mono ?_
  rintro e w4 ⟨rfl, hb4⟩
  go_wp2_with fail
  refine (two_at HO.out.hm _).mono ?_
  rintro e w5 ⟨rfl, hb5⟩
  go_wp2_with fail
  refine (two_at HO.out.han _).mono ?_
  rintro e w6 ⟨rfl, hb6⟩
  go_wp2_with fail
  refine (two_at HO.out.ho _).mono ?_
  rintro e w7 ⟨rfl, hb7⟩
  go_wp2_with fail
  refine (one_at HO.out.hx _).mono ?_
  rintro e w8 ⟨rfl, rfl⟩
  go_wp2_with fail
  refine (one_at HO.out.hy _).mono ?_
  rintro e w9 ⟨rfl, rfl⟩
  go_wp2_with fail
  refine (two_at HO.out.hz _).mono ?_
  rintro e w10 ⟨rfl, hb10⟩
  have hb := (bt (bt (bt (bt (bt (bt (bt hb1 hb2) hb3) hb4) hb5) hb6) hb7) hb10)
  clear hb1 hb2 hb3 hb4 hb5 hb6 hb7 hb10
  have HE2 := Lib.hid (HE.out.below hb)
  go_wp2_with (go_at_call 18; refine (fixed_c _ HE2.out).mono ?_; rintro e w' ⟨rfl, hb3⟩)
  go_ret
  exact ⟨rfl, bt hb hb3⟩
set_option maxRecDepth 100000 in
set_option maxHeartbeats 1000000 in
theorem orders_03 (a b : Int) (ho : Ord a b 1 0 0 1 1 0 0 1 1 1) (w : World) (hE : Env w) :
    Calls Tryd.prog 8 #[.int .i64 a, .int .i64 b] w (Yes w) := by
  have HE := Lib.hid hE
  clear hE
  have HO := Lib.hid ho
  clear ho
  go_enter Tryd.func8, Tryd.ntmps8
  go_wp2_with fail
  refine (two_at HO.out.hl _).mono ?_
  rintro e w1 ⟨rfl, hb1⟩
  go_wp2_with fail
  refine (two_at HO.out.hg _).mono ?_
  rintro e w2 ⟨rfl, hb2⟩
  go_wp2_with fail
  refine (two_at HO.out.he _).mono ?_
  rintro e w3 ⟨rfl, hb3⟩
  go_wp2_with fail
  refine (two_at HO.out.hu _).mono ?_
  rintro e w4 ⟨rfl, hb4⟩
  go_wp2_with fail
  refine (two_at HO.out.hm _).mono ?_
  rintro e w5 ⟨rfl, hb5⟩
  go_wp2_with fail
  refine (two_at HO.out.han _).mono ?_
  rintro e w6 ⟨rfl, hb6⟩
  go_wp2_with fail
  refine (two_at HO.out.ho _).mono ?_
  rintro e w7 ⟨rfl, hb7⟩
  go_wp2_with fail
  refine (one_at HO.out.hx _).mono ?_
  rintro e w8 ⟨rfl, rfl⟩
  go_wp2_with fail
  refine (one_at HO.out.hy _).mono ?_
  rintro e w9 ⟨rfl, rfl⟩
  go_wp2_with fail
  refine (two_at HO.out.hz _).mono ?_
  rintro e w10 ⟨rfl, hb10⟩
  have hb := (bt (bt (bt (bt (bt (bt (bt hb1 hb2) hb3) hb4) hb5) hb6) hb7) hb10)
  clear hb1 hb2 hb3 hb4 hb5 hb6 hb7 hb10
  have HE2 := Lib.hid (HE.out.below hb)
  go_wp2_with (go_at_call 18; refine (fixed_c _ HE2.out).mono ?_; rintro e w' ⟨rfl, hb3⟩)
  go_ret
  exact ⟨rfl, bt hb hb3⟩
set_option maxRecDepth 100000 in
set_option maxHeartbeats 1000000 in
theorem orders_10 (a b : Int) (ho : Ord a b 0 1 0 1 0 1 1 0 0 0) (w : World) (hE : Env w) :
    Calls Tryd.prog 8 #[.int .i64 a, .int .i64 b] w (Yes w) := by
  have HE := Lib.hid hE
  clear hE
  have HO := Lib.hid ho
  clear ho
  go_enter Tryd.func8, Tryd.ntmps8
  go_wp2_with fail
  refine (two_at HO.out.hl _).mono ?_
  rintro e w1 ⟨rfl, hb1⟩
  go_wp2_with fail
  refine (two_at HO.out.hg _).mono ?_
  rintro e w2 ⟨rfl, hb2⟩
  go_wp2_with fail
  refine (two_at HO.out.he _).mono ?_
  rintro e w3 ⟨rfl, hb3⟩
  go_wp2_with fail
  refine (two_at HO.out.hu _).mono ?_
  rintro e w4 ⟨rfl, hb4⟩
  go_wp2_with fail
  refine (two_at HO.out.hm _).mono ?_
  rintro e w5 ⟨rfl, hb5⟩
  go_wp2_with fail
  refine (two_at HO.out.han _).mono ?_
  rintro e w6 ⟨rfl, hb6⟩
  go_wp2_with fail
  refine (two_at HO.out.ho _).mono ?_
  rintro e w7 ⟨rfl, hb7⟩
  go_wp2_with fail
  refine (one_at HO.out.hx _).mono ?_
  rintro e w8 ⟨rfl, rfl⟩
  go_wp2_with fail
  refine (one_at HO.out.hy _).mono ?_
  rintro e w9 ⟨rfl, rfl⟩
  go_wp2_with fail
  refine (two_at HO.out.hz _).mono ?_
  rintro e w10 ⟨rfl, hb10⟩
  have hb := (bt (bt (bt (bt (bt (bt (bt hb1 hb2) hb3) hb4) hb5) hb6) hb7) hb10)
  clear hb1 hb2 hb3 hb4 hb5 hb6 hb7 hb10
  have HE2 := Lib.hid (HE.out.below hb)
  go_wp2_with (go_at_call 18; refine (fixed_c _ HE2.out).mono ?_; rintro e w' ⟨rfl, hb3⟩)
  go_ret
  exact ⟨rfl, bt hb hb3⟩
set_option maxRecDepth 100000 in
set_option maxHeartbeats 1000000 in
theorem orders_11 (a b : Int) (ho : Ord a b 0 1 0 1 0 0 1 1 0 0) (w : World) (hE : Env w) :
    Calls Tryd.prog 8 #[.int .i64 a, .int .i64 b] w (Yes w) := by
  have HE := Lib.hid hE
  clear hE
  have HO := Lib.hid ho
  clear ho
  go_enter Tryd.func8, Tryd.ntmps8
  go_wp2_with fail
  refine (two_at HO.out.hl _).mono ?_
  rintro e w1 ⟨rfl, hb1⟩
  go_wp2_with fail
  refine (two_at HO.out.hg _).mono ?_
  rintro e w2 ⟨rfl, hb2⟩
  go_wp2_with fail
  refine (two_at HO.out.he _).mono ?_
  rintro e w3 ⟨rfl, hb3⟩
  go_wp2_with fail
  refine (two_at HO.out.hu _).mono ?_
  rintro e w4 ⟨rfl, hb4⟩
  go_wp2_with fail
  refine (two_at HO.out.hm _).mono ?_
  rintro e w5 ⟨rfl, hb5⟩
  go_wp2_with fail
  refine (two_at HO.out.han _).mono ?_
  rintro e w6 ⟨rfl, hb6⟩
  go_wp2_with fail
  refine (two_at HO.out.ho _).mono ?_
  rintro e w7 ⟨rfl, hb7⟩
  go_wp2_with fail
  refine (one_at HO.out.hx _).mono ?_
  rintro e w8 ⟨rfl, rfl⟩
  go_wp2_with fail
  refine (one_at HO.out.hy _).mono ?_
  rintro e w9 ⟨rfl, rfl⟩
  go_wp2_with fail
  refine (two_at HO.out.hz _).mono ?_
  rintro e w10 ⟨rfl, hb10⟩
  have hb := (bt (bt (bt (bt (bt (bt (bt hb1 hb2) hb3) hb4) hb5) hb6) hb7) hb10)
  clear hb1 hb2 hb3 hb4 hb5 hb6 hb7 hb10
  have HE2 := Lib.hid (HE.out.below hb)
  go_wp2_with (go_at_call 18; refine (fixed_c _ HE2.out).mono ?_; rintro e w' ⟨rfl, hb3⟩)
  go_ret
  exact ⟨rfl, bt hb hb3⟩
set_option maxRecDepth 100000 in
set_option maxHeartbeats 1000000 in
theorem orders_12 (a b : Int) (ho : Ord a b 0 1 0 1 0 0 1 0 1 0) (w : World) (hE : Env w) :
    Calls Tryd.prog 8 #[.int .i64 a, .int .i64 b] w (Yes w) := by
  have HE := Lib.hid hE
  clear hE
  have HO := Lib.hid ho
  clear ho
  go_enter Tryd.func8, Tryd.ntmps8
  go_wp2_with fail
  refine (two_at HO.out.hl _).mono ?_
  rintro e w1 ⟨rfl, hb1⟩
  go_wp2_with fail
  refine (two_at HO.out.hg _).mono ?_
  rintro e w2 ⟨rfl, hb2⟩
  go_wp2_with fail
  refine (two_at HO.out.he _).mono ?_
  rintro e w3 ⟨rfl, hb3⟩
  go_wp2_with fail
  refine (two_at HO.out.hu _).mono ?_
  rintro e w4 ⟨rfl, hb4⟩
  go_wp2_with fail
  refine (two_at HO.out.hm _).mono ?_
  rintro e w5 ⟨rfl, hb5⟩
  go_wp2_with fail
  refine (two_at HO.out.han _).mono ?_
  rintro e w6 ⟨rfl, hb6⟩
  go_wp2_with fail
  refine (two_at HO.out.ho _).mono ?_
  rintro e w7 ⟨rfl, hb7⟩
  go_wp2_with fail
  refine (one_at HO.out.hx _).mono ?_
  rintro e w8 ⟨rfl, rfl⟩
  go_wp2_with fail
  refine (one_at HO.out.hy _).mono ?_
  rintro e w9 ⟨rfl, rfl⟩
  go_wp2_with fail
  refine (two_at HO.out.hz _).mono ?_
  rintro e w10 ⟨rfl, hb10⟩
  have hb := (bt (bt (bt (bt (bt (bt (bt hb1 hb2) hb3) hb4) hb5) hb6) hb7) hb10)
  clear hb1 hb2 hb3 hb4 hb5 hb6 hb7 hb10
  have HE2 := Lib.hid (HE.out.below hb)
  go_wp2_with (go_at_call 18; refine (fixed_c _ HE2.out).mono ?_; rintro e w' ⟨rfl, hb3⟩)
  go_ret
  exact ⟨rfl, bt hb hb3⟩
set_option maxRecDepth 100000 in
set_option maxHeartbeats 1000000 in
theorem orders_13 (a b : Int) (ho : Ord a b 0 1 0 1 0 0 0 1 1 1) (w : World) (hE : Env w) :
    Calls Tryd.prog 8 #[.int .i64 a, .int .i64 b] w (Yes w) := by
  have HE := Lib.hid hE
  clear hE
  have HO := Lib.hid ho
  clear ho
  go_enter Tryd.func8, Tryd.ntmps8
  go_wp2_with fail
  refine (two_at HO.out.hl _).mono ?_
  rintro e w1 ⟨rfl, hb1⟩
  go_wp2_with fail
  refine (two_at HO.out.hg _).mono ?_
  rintro e w2 ⟨rfl, hb2⟩
  go_wp2_with fail
  refine (two_at HO.out.he _).mono ?_
  rintro e w3 ⟨rfl, hb3⟩
  go_wp2_with fail
  refine (two_at HO.out.hu _).mono ?_
  rintro e w4 ⟨rfl, hb4⟩
  go_wp2_with fail
  refine (two_at HO.out.hm _).mono ?_
  rintro e w5 ⟨rfl, hb5⟩
  go_wp2_with fail
  refine (two_at HO.out.han _).mono ?_
  rintro e w6 ⟨rfl, hb6⟩
  go_wp2_with fail
  refine (two_at HO.out.ho _).mono ?_
  rintro e w7 ⟨rfl, hb7⟩
  go_wp2_with fail
  refine (one_at HO.out.hx _).mono ?_
  rintro e w8 ⟨rfl, rfl⟩
  go_wp2_with fail
  refine (one_at HO.out.hy _).mono ?_
  rintro e w9 ⟨rfl, rfl⟩
  go_wp2_with fail
  refine (two_at HO.out.hz _).mono ?_
  rintro e w10 ⟨rfl, hb10⟩
  have hb := (bt (bt (bt (bt (bt (bt (bt hb1 hb2) hb3) hb4) hb5) hb6) hb7) hb10)
  clear hb1 hb2 hb3 hb4 hb5 hb6 hb7 hb10
  have HE2 := Lib.hid (HE.out.below hb)
  go_wp2_with (go_at_call 18; refine (fixed_c _ HE2.out).mono ?_; rintro e w' ⟨rfl, hb3⟩)
  go_ret
  exact ⟨rfl, bt hb hb3⟩
set_option maxRecDepth 100000 in
set_option maxHeartbeats 1000000 in
theorem orders_20 (a b : Int) (ho : Ord a b 0 0 1 0 1 1 1 0 0 0) (w : World) (hE : Env w) :
    Calls Tryd.prog 8 #[.int .i64 a, .int .i64 b] w (Yes w) := by
  have HE := Lib.hid hE
  clear hE
  have HO := Lib.hid ho
  clear ho
  go_enter Tryd.func8, Tryd.ntmps8
  go_wp2_with fail
  refine (two_at HO.out.hl _).mono ?_
  rintro e w1 ⟨rfl, hb1⟩
  go_wp2_with fail
  refine (two_at HO.out.hg _).mono ?_
  rintro e w2 ⟨rfl, hb2⟩
  go_wp2_with fail
  refine (two_at HO.out.he _).mono ?_
  rintro e w3 ⟨rfl, hb3⟩
  go_wp2_with fail
  refine (two_at HO.out.hu _).mono ?_
  rintro e w4 ⟨rfl, hb4⟩
  go_wp2_with fail
  refine (two_at HO.out.hm _).mono ?_
  rintro e w5 ⟨rfl, hb5⟩
  go_wp2_with fail
  refine (two_at HO.out.han _).mono ?_
  rintro e w6 ⟨rfl, hb6⟩
  go_wp2_with fail
  refine (two_at HO.out.ho _).mono ?_
  rintro e w7 ⟨rfl, hb7⟩
  go_wp2_with fail
  refine (one_at HO.out.hx _).mono ?_
  rintro e w8 ⟨rfl, rfl⟩
  go_wp2_with fail
  refine (one_at HO.out.hy _).mono ?_
  rintro e w9 ⟨rfl, rfl⟩
  go_wp2_with fail
  refine (two_at HO.out.hz _).mono ?_
  rintro e w10 ⟨rfl, hb10⟩
  have hb := (bt (bt (bt (bt (bt (bt (bt hb1 hb2) hb3) hb4) hb5) hb6) hb7) hb10)
  clear hb1 hb2 hb3 hb4 hb5 hb6 hb7 hb10
  have HE2 := Lib.hid (HE.out.below hb)
  go_wp2_with (go_at_call 18; refine (fixed_c _ HE2.out).mono ?_; rintro e w' ⟨rfl, hb3⟩)
  go_ret
  exact ⟨rfl, bt hb hb3⟩
set_option maxRecDepth 100000 in
set_option maxHeartbeats 1000000 in
theorem orders_21 (a b : Int) (ho : Ord a b 0 0 1 0 1 0 1 1 0 0) (w : World) (hE : Env w) :
    Calls Tryd.prog 8 #[.int .i64 a, .int .i64 b] w (Yes w) := by
  have HE := Lib.hid hE
  clear hE
  have HO := Lib.hid ho
  clear ho
  go_enter Tryd.func8, Tryd.ntmps8
  go_wp2_with fail
  refine (two_at HO.out.hl _).mono ?_
  rintro e w1 ⟨rfl, hb1⟩
  go_wp2_with fail
  refine (two_at HO.out.hg _).mono ?_
  rintro e w2 ⟨rfl, hb2⟩
  go_wp2_with fail
  refine (two_at HO.out.he _).mono ?_
  rintro e w3 ⟨rfl, hb3⟩
  go_wp2_with fail
  refine (two_at HO.out.hu _).mono ?_
  rintro e w4 ⟨rfl, hb4⟩
  go_wp2_with fail
  refine (two_at HO.out.hm _).mono ?_
  rintro e w5 ⟨rfl, hb5⟩
  go_wp2_with fail
  refine (two_at HO.out.han _).mono ?_
  rintro e w6 ⟨rfl, hb6⟩
  go_wp2_with fail
  refine (two_at HO.out.ho _).mono ?_
  rintro e w7 ⟨rfl, hb7⟩
  go_wp2_with fail
  refine (one_at HO.out.hx _).mono ?_
  rintro e w8 ⟨rfl, rfl⟩
  go_wp2_with fail
  refine (one_at HO.out.hy _).mono ?_
  rintro e w9 ⟨rfl, rfl⟩
  go_wp2_with fail
  refine (two_at HO.out.hz _).mono ?_
  rintro e w10 ⟨rfl, hb10⟩
  have hb := (bt (bt (bt (bt (bt (bt (bt hb1 hb2) hb3) hb4) hb5) hb6) hb7) hb10)
  clear hb1 hb2 hb3 hb4 hb5 hb6 hb7 hb10
  have HE2 := Lib.hid (HE.out.below hb)
  go_wp2_with (go_at_call 18; refine (fixed_c _ HE2.out).mono ?_; rintro e w' ⟨rfl, hb3⟩)
  go_ret
  exact ⟨rfl, bt hb hb3⟩
set_option maxRecDepth 100000 in
set_option maxHeartbeats 1000000 in
theorem orders_22 (a b : Int) (ho : Ord a b 0 0 1 0 1 0 1 0 1 0) (w : World) (hE : Env w) :
    Calls Tryd.prog 8 #[.int .i64 a, .int .i64 b] w (Yes w) := by
  have HE := Lib.hid hE
  clear hE
  have HO := Lib.hid ho
  clear ho
  go_enter Tryd.func8, Tryd.ntmps8
  go_wp2_with fail
  refine (two_at HO.out.hl _).mono ?_
  rintro e w1 ⟨rfl, hb1⟩
  go_wp2_with fail
  refine (two_at HO.out.hg _).mono ?_
  rintro e w2 ⟨rfl, hb2⟩
  go_wp2_with fail
  refine (two_at HO.out.he _).mono ?_
  rintro e w3 ⟨rfl, hb3⟩
  go_wp2_with fail
  refine (two_at HO.out.hu _).mono ?_
  rintro e w4 ⟨rfl, hb4⟩
  go_wp2_with fail
  refine (two_at HO.out.hm _).mono ?_
  rintro e w5 ⟨rfl, hb5⟩
  go_wp2_with fail
  refine (two_at HO.out.han _).mono ?_
  rintro e w6 ⟨rfl, hb6⟩
  go_wp2_with fail
  refine (two_at HO.out.ho _).mono ?_
  rintro e w7 ⟨rfl, hb7⟩
  go_wp2_with fail
  refine (one_at HO.out.hx _).mono ?_
  rintro e w8 ⟨rfl, rfl⟩
  go_wp2_with fail
  refine (one_at HO.out.hy _).mono ?_
  rintro e w9 ⟨rfl, rfl⟩
  go_wp2_with fail
  refine (two_at HO.out.hz _).mono ?_
  rintro e w10 ⟨rfl, hb10⟩
  have hb := (bt (bt (bt (bt (bt (bt (bt hb1 hb2) hb3) hb4) hb5) hb6) hb7) hb10)
  clear hb1 hb2 hb3 hb4 hb5 hb6 hb7 hb10
  have HE2 := Lib.hid (HE.out.below hb)
  go_wp2_with (go_at_call 18; refine (fixed_c _ HE2.out).mono ?_; rintro e w' ⟨rfl, hb3⟩)
  go_ret
  exact ⟨rfl, bt hb hb3⟩
set_option maxRecDepth 100000 in
set_option maxHeartbeats 1000000 in
theorem orders_23 (a b : Int) (ho : Ord a b 0 0 1 0 1 0 0 1 1 1) (w : World) (hE : Env w) :
    Calls Tryd.prog 8 #[.int .i64 a, .int .i64 b] w (Yes w) := by
  have HE := Lib.hid hE
  clear hE
  have HO := Lib.hid ho
  clear ho
  go_enter Tryd.func8, Tryd.ntmps8
  go_wp2_with fail
  refine (two_at HO.out.hl _).mono ?_
  rintro e w1 ⟨rfl, hb1⟩
  go_wp2_with fail
  refine (two_at HO.out.hg _).mono ?_
  rintro e w2 ⟨rfl, hb2⟩
  go_wp2_with fail
  refine (two_at HO.out.he _).mono ?_
  rintro e w3 ⟨rfl, hb3⟩
  go_wp2_with fail
  refine (two_at HO.out.hu _).mono ?_
  rintro e w4 ⟨rfl, hb4⟩
  go_wp2_with fail
  refine (two_at HO.out.hm _).mono ?_
  rintro e w5 ⟨rfl, hb5⟩
  go_wp2_with fail
  refine (two_at HO.out.han _).mono ?_
  rintro e w6 ⟨rfl, hb6⟩
  go_wp2_with fail
  refine (two_at HO.out.ho _).mono ?_
  rintro e w7 ⟨rfl, hb7⟩
  go_wp2_with fail
  refine (one_at HO.out.hx _).mono ?_
  rintro e w8 ⟨rfl, rfl⟩
  go_wp2_with fail
  refine (one_at HO.out.hy _).mono ?_
  rintro e w9 ⟨rfl, rfl⟩
  go_wp2_with fail
  refine (two_at HO.out.hz _).mono ?_
  rintro e w10 ⟨rfl, hb10⟩
  have hb := (bt (bt (bt (bt (bt (bt (bt hb1 hb2) hb3) hb4) hb5) hb6) hb7) hb10)
  clear hb1 hb2 hb3 hb4 hb5 hb6 hb7 hb10
  have HE2 := Lib.hid (HE.out.below hb)
  go_wp2_with (go_at_call 18; refine (fixed_c _ HE2.out).mono ?_; rintro e w' ⟨rfl, hb3⟩)
  go_ret
  exact ⟨rfl, bt hb hb3⟩
theorem orders_c (a b : Int) (w : World) (hE : Env w) :
    Calls Tryd.prog 8 #[.int .i64 a, .int .i64 b] w (Yes w) := by
  obtain ⟨l, g, e, u, m, an, o, x, y, z, ho, h1, h2⟩ := ord_cases a b
  rcases h1 with ⟨rfl, rfl, rfl, rfl, rfl⟩ | ⟨rfl, rfl, rfl, rfl, rfl⟩ | ⟨rfl, rfl, rfl, rfl, rfl⟩
  · rcases h2 with ⟨rfl, rfl, rfl, rfl, rfl⟩ | ⟨rfl, rfl, rfl, rfl, rfl⟩ | ⟨rfl, rfl, rfl, rfl, rfl⟩ | ⟨rfl, rfl, rfl, rfl, rfl⟩
    · exact orders_00 a b ho w hE
    · exact orders_01 a b ho w hE
    · exact orders_02 a b ho w hE
    · exact orders_03 a b ho w hE
  · rcases h2 with ⟨rfl, rfl, rfl, rfl, rfl⟩ | ⟨rfl, rfl, rfl, rfl, rfl⟩ | ⟨rfl, rfl, rfl, rfl, rfl⟩ | ⟨rfl, rfl, rfl, rfl, rfl⟩
    · exact orders_10 a b ho w hE
    · exact orders_11 a b ho w hE
    · exact orders_12 a b ho w hE
    · exact orders_13 a b ho w hE
  · rcases h2 with ⟨rfl, rfl, rfl, rfl, rfl⟩ | ⟨rfl, rfl, rfl, rfl, rfl⟩ | ⟨rfl, rfl, rfl, rfl, rfl⟩ | ⟨rfl, rfl, rfl, rfl, rfl⟩
    · exact orders_20 a b ho w hE
    · exact orders_21 a b ho w hE
    · exact orders_22 a b ho w hE
    · exact orders_23 a b ho w hE
end Go.Proofs.YtmcgeaodmnchaaaDoor

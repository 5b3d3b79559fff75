/- The calls whose answers the document fixes (words). -/
import Derived.Test.YtmcgeaodmnchaaaDoorWalkE
import Derived.Test.YtmcgeaodmnchaaaDoorWalkF
import Derived.WalkKit
import Derived.WalkSpells
import Derived.WalkLawsBesides
import Derived.Lib.Hide
namespace Go.Proofs.YtmcgeaodmnchaaaDoor
open Go.RowKit
set_option linter.unusedVariables false
def Two2 (x y : Int) (w : World) (e : Ending) (w' : World) : Prop := e = .returned (.tuple #[.int .i64 x, .int .i64 y]) ∧ Below w.heap.size w w'
theorem two_at {op a b x y : Int} (h : twoE op a b = (x, y)) (w : World) : Calls Tryd.prog 13 #[.int .i64 op, .int .i64 a, .int .i64 b] w (Two2 x y w) :=
  (two_c op a b w).mono fun e w' hp => by unfold TwoPost at hp; rw [h] at hp; exact hp
theorem one_at {op a x y : Int} (h : oneE op a = (x, y)) (w : World) : Calls Tryd.prog 11 #[.int .i64 op, .int .i64 a] w fun e w' => e = .returned (.tuple #[.int .i64 x, .int .i64 y]) ∧ w = w' :=
  (one_c op a w).mono fun e w' hp => by unfold OnePost at hp; rw [h] at hp; exact hp
theorem parse_at {s : ByteArray} {x y : Int} (h : numE s.data.toList = (x, y)) (hs : s.size ≤ 281474976710656) (w : World) (hE : Env w) : Calls Tryd.prog 19 #[.string s] w (Two2 x y w) :=
  (parse_c s w hs hE).mono fun e w' hp => by unfold NumBPost at hp; rw [h] at hp; exact hp
theorem text_at {n : Int} {s : ByteArray} (h : str (Lib.itoa n) = s) (hn : I64 n) (w : World) (hE : Env w) :
    Calls Tryd.prog 21 #[.int .i64 n] w fun e w' => e = .returned (.string s) ∧ Below w.heap.size w w' := by
  subst h; exact text_c n hn w hE
theorem bt {a b c : World} (h : Below a.heap.size a b) (k : Below b.heap.size b c) : Below a.heap.size a c := h.trans (k.mono h.size)
theorem f1 : twoE 8 (-7) 2 = (-3, 0) := by decide +kernel
theorem f2 : twoE 9 (-7) 2 = (-1, 0) := by decide +kernel
theorem f3 : twoE 5 9223372036854775807 1 = (-9223372036854775808, 0) := by decide +kernel
theorem f4 : twoE 8 1 0 = (0, 12) := by decide +kernel
theorem f5 : twoE 3 1 1 = (0, 1) := by decide +kernel
theorem f6 : oneE 4 0 = (1, 0) := by decide +kernel
theorem f7 : oneE 5 0 = (0, 1) := by decide +kernel
theorem f8 : numE [45, 49, 50] = (-12, 0) := by decide +kernel
theorem f9 : numE [48, 49, 50] = (0, 8) := by decide +kernel
theorem f10 : numE [57, 50, 50, 51, 51, 55, 50, 48, 51, 54, 56, 53, 52, 55, 55, 53, 56, 48, 56] = (0, 4) := by decide +kernel
theorem f11 : str (Lib.itoa (-9223372036854775808)) = ⟨#[45, 57, 50, 50, 51, 51, 55, 50, 48, 51, 54, 56, 53, 52, 55, 55, 53, 56, 48, 56]⟩ := by decide +kernel
set_option maxRecDepth 100000 in
set_option maxHeartbeats 1000000 in
theorem fixed_c (w : World) (hE : Env w) :
    Calls Tryd.prog 18 #[] w fun e w' => e = .returned (.bool true) ∧ Below w.heap.size w w' := by
  have HE := Lib.hid hE
  clear hE
  go_enter Tryd.func18, Tryd.ntmps18
  go_wp2_with fail
  refine (two_at f1 _).mono ?_
  rintro e w1 ⟨rfl, hb1⟩
  go_wp2_with fail
  refine (two_at f2 _).mono ?_
  rintro e w2 ⟨rfl, hb2⟩
  go_wp2_with fail
  refine (two_at f3 _).mono ?_
  rintro e w3 ⟨rfl, hb3⟩
  go_wp2_with fail
  refine (two_at f4 _).mono ?_
  rintro e w4 ⟨rfl, hb4⟩
  go_wp2_with fail
  refine (two_at f5 _).mono ?_
  rintro e w5 ⟨rfl, hb5⟩
  have hb := bt (bt (bt (bt hb1 hb2) hb3) hb4) hb5
  clear hb1 hb2 hb3 hb4 hb5
  go_wp2_with fail
  refine (one_at f6 _).mono ?_
  rintro e w5 ⟨rfl, rfl⟩
  go_wp2_with fail
  refine (one_at f7 _).mono ?_
  rintro e w5 ⟨rfl, rfl⟩
  go_wp2_with fail
  refine (parse_at (s := ⟨#[45, 49, 50]⟩) f8 (by decide +kernel) _ (HE.out.below hb)).mono ?_
  rintro e w6 ⟨rfl, hb6⟩
  replace hb := bt hb hb6
  clear hb6
  go_wp2_with fail
  refine (parse_at (s := ⟨#[48, 49, 50]⟩) f9 (by decide +kernel) _ (HE.out.below hb)).mono ?_
  rintro e w7 ⟨rfl, hb7⟩
  replace hb := bt hb hb7
  clear hb7
  go_wp2_with fail
  refine (parse_at (s := ⟨#[57, 50, 50, 51, 51, 55, 50, 48, 51, 54, 56, 53, 52, 55, 55, 53, 56, 48, 56]⟩) f10 (by decide +kernel) _ (HE.out.below hb)).mono ?_
  rintro e w8 ⟨rfl, hb8⟩
  replace hb := bt hb hb8
  clear hb8
  go_wp2_with fail
  refine (text_at f11 ⟨by decide, by decide⟩ _ (HE.out.below hb)).mono ?_
  rintro e w9 ⟨rfl, hb9⟩
  replace hb := bt hb hb9
  clear hb9
  go_wp2_with (first | (go_at_call 15; refine (truth_c _ _).mono ?_; rintro e w' ⟨rfl, rfl⟩) | (go_at_call 16; refine (bool_c _ _).mono ?_; rintro e w' ⟨rfl, rfl⟩))
  go_ret
  exact ⟨rfl, hb⟩
end Go.Proofs.YtmcgeaodmnchaaaDoor

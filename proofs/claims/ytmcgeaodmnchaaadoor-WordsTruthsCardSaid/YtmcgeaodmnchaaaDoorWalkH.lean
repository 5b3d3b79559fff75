/- The laws of words: the walks. -/
import Derived.Test.YtmcgeaodmnchaaaDoorWalkG
import Derived.WalkKit
import Derived.WalkSpells
import Derived.WalkLawsBesides
import Derived.Lib.Hide
namespace Go.Proofs.YtmcgeaodmnchaaaDoor
open Go.RowKit
set_option linter.unusedVariables false
def Yes (w : World) (e : Ending) (w' : World) : Prop := e = .returned (.bool true) ∧ Below w.heap.size w w'
set_option maxRecDepth 100000 in
set_option maxHeartbeats 1000000 in
theorem does_c (op a b : Int) (ha : I64 a) (hb : I64 b) (w : World) (hE : Env w) :
    Calls Tryd.prog 3 #[.int .i64 op, .int .i64 a, .int .i64 b] w (Yes w) := by
  have HE := Lib.hid hE
  have HA := Lib.hid ha
  have HB := Lib.hid hb
  clear hE ha hb
  go_enter Tryd.func3, Tryd.ntmps3
  go_wp2_with fail
  refine (one_c op a _).mono ?_
  rintro e w1 ⟨rfl, rfl⟩
  go_wp2_with fail
  refine (rone_c op a _).mono ?_
  rintro e w1 ⟨rfl, rfl⟩
  go_wp2_with fail
  refine (two_c op a b _).mono ?_
  rintro e w1 ⟨rfl, hb1⟩
  go_wp2_with fail
  refine (rtwo_c op a b _ HA.out HB.out).mono ?_
  rintro e w2 ⟨rfl, rfl⟩
  generalize (oneE op a).1 = x1
  generalize (oneE op a).2 = x2
  generalize (twoE op a b).1 = x3
  generalize (twoE op a b).2 = x4
  go_wp2_with (first | (go_at_call 15; refine (truth_c _ _).mono ?_; rintro e w' ⟨rfl, rfl⟩) | (go_at_call 16; refine (bool_c _ _).mono ?_; rintro e w' ⟨rfl, rfl⟩) | (go_at_call 17; refine (rbool_c _ _).mono ?_; rintro e w' ⟨rfl, rfl⟩) | (go_at_call 18; refine (fixed_c _ (HE.out.below hb1)).mono ?_; rintro e w' ⟨rfl, hb2⟩))
  go_ret
  exact ⟨rfl, bt hb1 hb2⟩
end Go.Proofs.YtmcgeaodmnchaaaDoor

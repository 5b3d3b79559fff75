/- Trial of walks of package words. -/
import Derived.Test.YtmcgeaodmnchaaaDoorRows
import Derived.Test.YtmcgeaodmnchaaaDoorNumRef
import Derived.WalkKit
import Derived.WalkSpells
import Derived.WalkLawsBesides
import Derived.Laws.EntriesVeiled
namespace Go.Proofs.YtmcgeaodmnchaaaDoor
open Go.RowKit
set_option linter.unusedVariables false
def trB (b : Bool) : Int := if b then 1 else 0
theorem truth_c (n : Int) (w : World) :
    Calls Tryd.prog 15 #[.int .i64 n] w fun e w' => e = .returned (.bool (n != 0)) ∧ w = w' := by
  go_enter Tryd.func15, Tryd.ntmps15
  go_wp2
  go_ret
  exact ⟨rfl, rfl⟩
theorem bool_c (b : Bool) (w : World) :
    Calls Tryd.prog 16 #[.bool b] w fun e w' => e = .returned (.int .i64 (trB b)) ∧ w = w' := by
  cases b
  all_goals
    go_enter Tryd.func16, Tryd.ntmps16
    go_wp2
    go_ret
    exact ⟨rfl, rfl⟩
def clo (f n : Nat) : Value := .func (.func f) #[] #[.pointer (some ⟨n, 0, none⟩)]
def fnV (f : Nat) : Value := .func (.func f) #[] #[]
def opsV (n : Nat) : Value := .agg #[.nilFunc, .nilFunc, .nilFunc, .nilFunc, .nilFunc, fnV 30, fnV 31, fnV 32, fnV 33, fnV 34,
  clo 29 (n + 1 + 1), clo 29 (n + 1 + 1 + 1), clo 29 (n + 1 + 1 + 1 + 1), clo 29 (n + 1 + 1 + 1 + 1 + 1), clo 29 (n + 1 + 1 + 1 + 1 + 1 + 1), clo 29 (n + 1 + 1 + 1 + 1 + 1 + 1 + 1)]
structure OpsW (n : Nat) (w w' : World) : Prop where
  below : Below n w w'
  c10 : w'.cell? ⟨n + 1 + 1, 0, none⟩ = some (fnV 35)
  c11 : w'.cell? ⟨n + 1 + 1 + 1, 0, none⟩ = some (fnV 36)
  c12 : w'.cell? ⟨n + 1 + 1 + 1 + 1, 0, none⟩ = some (fnV 37)
  c13 : w'.cell? ⟨n + 1 + 1 + 1 + 1 + 1, 0, none⟩ = some (fnV 38)
  c14 : w'.cell? ⟨n + 1 + 1 + 1 + 1 + 1 + 1, 0, none⟩ = some (fnV 39)
  c15 : w'.cell? ⟨n + 1 + 1 + 1 + 1 + 1 + 1 + 1, 0, none⟩ = some (fnV 40)
set_option maxHeartbeats 1000000 in
theorem ops_c (w : World) :
    Calls Tryd.prog 23 #[] w fun e w' => e = .returned (opsV w.heap.size) ∧ OpsW w.heap.size w w' := by
  go_enter Tryd.func23, Tryd.ntmps23
  go_wp2
  refine bodyPost_ret (v := opsV w.heap.size) ?_ rfl ⟨rfl, ?_⟩
  · simp [results, Tryd.results23, go_sem, opsV, clo, fnV]
  · constructor
    · repeat (first | exact Below.refl _ _ | (refine Below.alloc ?_ (by first | omega | (simp; done) | (simp; omega)) _))
    all_goals simp [go_sem, fnV]
end Go.Proofs.YtmcgeaodmnchaaaDoor

/- From the rows' condition on package-level variables, and the world's shape, to what the walks ask of them. -/
import Derived.Test.YtcgcndmlgfnjbaaGreatDoorCards
import Derived.Test.YtcgcndmlgfnjbaaGreatDoorTie
import Derived.Test.YtcgcndmlgfnjbaaGreatDoorEnv0
import Derived.WalkKit
import Derived.ProofKit
import Derived.OpenShut
import Derived.Deep.DeepHandedRow
import Derived.Lib.LaidTab
import Derived.Stop.LaidErr
import Derived.LaidMore
import Derived.LaidSub
import Derived.Shelf.Vars
import Derived.Test.YtcgcndmlgfnjbaaGreatDoorMem
import Derived.Deep.Slices
import Derived.Deep.Fields
import Derived.ChangeSame
import Derived.Test.YtcgcndmlgfnjbaaGreatDoorChecked
namespace Go.Proofs.YtcgcndmlgfnjbaaGreatDoor
open Go Go.ChangeShapes Go.WideShapes Go.ChangeAt Go.RowKit
set_option linter.unusedVariables false
theorem own : ownKnob Tryz.prog.godebug = none := by kernel_rfl
theorem laidOut : laidOutB Tryz.prog = true := by kernel_rfl
theorem cells_tab : Tryz.prog.cellsOf 140 = 20 := by kernel_rfl
theorem cells_u64 : Tryz.prog.cellsOf 125 = 1 := by kernel_rfl
theorem starName : ("*errors.errorString" : String) = "*" ++ "errors.errorString" := by decide
theorem rowErr (u : TypeId) (h : Tryz.prog.typeName? 3 u = some "*errors.errorString") : u = 153 :=
  typeName_ptr_named (nm := "errors.errorString") (by rw [← starName]; kernel_rfl) (by kernel_rfl) (by decide) u (by rw [← starName]; exact h)
theorem lt_of_cell {W : World} {g : Nat} {u : Value} (h : W.cell? ⟨g, 0, none⟩ = some u) : g < W.heap.size := World.block_lt_of_cell? W ⟨g, 0, none⟩ h
theorem lt_of_var {W : World} {n : String} {g : Nat} {cs : Array Value} (hg : Tryz.prog.globalNamed n = some g) (h : W.var? Tryz.prog n = some cs) (hc : cs[0]?.isSome = true) : g < W.heap.size := by
  have h0 := World.var?_cell hg h 0
  rcases Nat.lt_or_ge g W.heap.size with hlt | hge
  · exact hlt
  · have : W.cell? ⟨g, 0, none⟩ = none := by simp [World.cell?, Array.getElem?_eq_none hge]
    rw [this] at h0
    rw [← h0] at hc; cases hc
theorem max_of_shape {W : World} (hS : W.ShapedOpen Tryz.prog) : ∃ m, W.cell? ⟨0, 0, none⟩ = some (.int .i64 m) :=
  cell_of_shapedOpen_int hS (t := 3) (zero := #[.int .i64 0]) (of_decide_eq_true (by kernel_rfl)) (by kernel_rfl) rfl (by kernel_rfl) (by kernel_rfl) Tryz.underlying3
theorem env_of_laid {W : World} (l : List (String × DataW Unit)) (h : laidMetH Tryz.prog l W) (hS : W.ShapedOpen Tryz.prog)
    (h1 : l.filter (fun x => x.1 == "internal/strconv.uint64pow10") = [("internal/strconv.uint64pow10", Rows.laid_internal_strconv_uint64pow10)])
    (h2 : l.filter (fun x => x.1 == "strconv.ErrRange") = [("strconv.ErrRange", Rows.laid_strconv_ErrRange)]) : Env W := by
  have t1 := h.filter (fun x => x.1 == "internal/strconv.uint64pow10")
  have t2 := h.filter (fun x => x.1 == "strconv.ErrRange")
  rw [h1, MakeChecks.laidMetH_plain _ _ _ (by kernel_rfl)] at t1
  rw [h2, MakeChecks.laidMetH_plain _ _ _ (by kernel_rfl)] at t2
  have e1 : (Rows.laid_internal_strconv_uint64pow10 : DataW Unit) = Lib.tabData .u64 Lib.pow10Tab := by kernel_rfl
  rw [e1] at t1
  have r1 := Lib.tabIs_of_head (g := 1) (by kernel_rfl) (by kernel_rfl) Tryz.underlying140 Tryz.underlying125 cells_u64 cells_tab t1
  obtain ⟨a2, s2, v2, _⟩ := laid_sentinel (g := 5) t2 (by kernel_rfl) (by kernel_rfl) Tryz.underlying72 rowErr Tryz.underlying153 Tryz.underlying155 rfl rfl Tryz.underlying9 (by kernel_rfl) (by kernel_rfl)
  obtain ⟨m, hm⟩ := max_of_shape hS
  exact ⟨lt_of_cell hm, lt_of_var (by kernel_rfl) v2 rfl, lt_of_var (by kernel_rfl) r1 (by kernel_rfl), ⟨m, hm⟩, ⟨_, _, v2⟩, r1⟩
end Go.Proofs.YtcgcndmlgfnjbaaGreatDoor

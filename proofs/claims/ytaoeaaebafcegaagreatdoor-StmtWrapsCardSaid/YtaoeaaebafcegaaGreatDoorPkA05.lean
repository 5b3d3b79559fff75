/- Chapter 04 (statements), joined: EnvA. -/
import Derived.Test.YtaoeaaebafcegaaGreatDoorPkA03
import Derived.Test.YtaoeaaebafcegaaGreatDoorCards
import Derived.Test.YtaoeaaebafcegaaGreatDoorChecked
import Derived.Test.YtaoeaaebafcegaaGreatDoorRows
import Derived.Test.YtaoeaaebafcegaaGreatDoorTie
import Derived.BigQuiet
import Derived.ChangeSame
import Derived.Deep.AppendLies
import Derived.Deep.DeepHandedRow
import Derived.Deep.Draws
import Derived.Deep.Fields
import Derived.Deep.QuietTactic
import Derived.Deep.Slices
import Derived.LaidMore
import Derived.LaidSub
import Derived.Laws.AppendOwn
import Derived.Laws.OwnMore
import Derived.Laws.Strings
import Derived.Lib.Hide
import Derived.Maps.Own
import Derived.Maps.OwnOps
import Derived.Maps.Views
import Derived.OpenShut
import Derived.ProofKit
import Derived.Shelf.Vars
import Derived.StringKeys
import Derived.WalkLawsBesides
import Derived.WalkSpells
set_option maxRecDepth 100000
namespace Go.Proofs.YtaoeaaebafcegaaGreatDoor
open Go Go.ChangeShapes Go.WideShapes Go.ChangeAt Go.RowKit
set_option linter.unusedVariables false
theorem own:ownKnob Tryz.prog.godebug=none:=by kernel_rfl
theorem cells_tab:Tryz.prog.cellsOf 158 = 20:=by kernel_rfl
theorem cells_u64:Tryz.prog.cellsOf 147 = 1:=by kernel_rfl
theorem lt_of_cellE {W:World} {g:Nat} {u:Value} (h:W.cell? ⟨g,0,none⟩=some u):g < W.heap.size:=World.block_lt_of_cell? W ⟨g,0,none⟩ h
theorem lt_of_var {W:World} {n:String} {g:Nat} {cs:Array Value} (hg:Tryz.prog.globalNamed n=some g) (h:W.var? Tryz.prog n=some cs) (hc:cs[0]?.isSome=true):g < W.heap.size:=by
 have h0:=World.var?_cell hg h 0
 rcases Nat.lt_or_ge g W.heap.size with hlt | hge
 ·exact hlt
 ·have:W.cell? ⟨g,0,none⟩=none:=by simp [World.cell?,Array.getElem?_eq_none hge]
  rw [this] at h0
  rw [← h0] at hc;cases hc
theorem max_of_shape {W:World} (hS:W.ShapedOpen Tryz.prog):∃ m,W.cell? ⟨0,0,none⟩=some (.int .i64 m) :=
 cell_of_shapedOpen_int hS (t:=3) (zero:=#[.int .i64 0]) (of_decide_eq_true (by kernel_rfl)) (by kernel_rfl) rfl (by kernel_rfl) (by kernel_rfl) Tryz.underlying3
theorem env_of_laid {W:World} (l:List (String × DataW Unit)) (h:laidMetH Tryz.prog l W) (hS:W.ShapedOpen Tryz.prog)
 (h1 : l.filter (fun x => x.1 == "internal/strconv.uint64pow10") = [("internal/strconv.uint64pow10", Rows.laid_internal_strconv_uint64pow10)]) : Env W := by
 have t1 := h.filter (fun x => x.1 == "internal/strconv.uint64pow10")
 rw [h1,MakeChecks.laidMetH_plain _ _ _ (by kernel_rfl)] at t1
 have e1:(Rows.laid_internal_strconv_uint64pow10:DataW Unit)=Lib.tabData .u64 Lib.pow10Tab:=by kernel_rfl
 rw [e1] at t1
 have r1:=Lib.tabIs_of_head (g:=1) (by kernel_rfl) (by kernel_rfl) Tryz.underlying158 Tryz.underlying147 cells_u64 cells_tab t1
 obtain ⟨m,hm⟩:=max_of_shape hS
 exact ⟨lt_of_cellE hm,lt_of_var (by kernel_rfl) r1 (by kernel_rfl),⟨m,hm⟩,r1⟩
end Go.Proofs.YtaoeaaebafcegaaGreatDoor
namespace Go.Proofs.YtaoeaaebafcegaaGreatDoor
open Go Go.ChangeShapes Go.WideShapes Go.Deep Go.RowKit
set_option linter.unusedVariables false
end Go.Proofs.YtaoeaaebafcegaaGreatDoor

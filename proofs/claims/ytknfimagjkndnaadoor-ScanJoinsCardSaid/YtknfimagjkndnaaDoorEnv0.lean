/- What the package-level variables hold that the calls read. -/
import Derived.Test.YtknfimagjkndnaaDoorShelf
import Derived.Below
import Derived.WalkKit
import Derived.Lib.LaidTab
import Derived.WalkSmall
namespace Go.Proofs.YtknfimagjkndnaaDoor
open Go Go.RowKit
set_option linter.unusedVariables false
/-- what the package-level variables hold that the calls read -/
structure Env (w : World) : Prop where
  hm : 4 < w.heap.size
  hr : 1 < w.heap.size
  mlen : ∃ m, w.cell? ⟨4, 0, none⟩ = some (.int .i64 m)
  rng : ∃ tp p, w.var? Tryd.prog "strconv.ErrRange" = some #[.iface tp p]
theorem Env.below {w w' : World} (h : Env w) (hb : Below w.heap.size w w') : Env w' := by
  have := hb.size
  have h1 := h.hm; have h2 := h.hr
  obtain ⟨m, h3⟩ := h.mlen
  obtain ⟨c, d, h5⟩ := h.rng
  exact ⟨by omega, by omega, ⟨m, (hb.cell (p := ⟨_, 0, none⟩) h1).trans h3⟩, ⟨c, d, var?_below hb (by kernel_rfl) h2 h5⟩⟩
end Go.Proofs.YtknfimagjkndnaaDoor

/- What the package-level variables hold that the calls read. -/
import Derived.Test.YtcgcndmlgfnjbaaGreatDoorShelf
import Derived.Below
import Derived.WalkKit
import Derived.Lib.LaidTab
import Derived.WalkSmall
namespace Go.Proofs.YtcgcndmlgfnjbaaGreatDoor
open Go Go.RowKit
set_option linter.unusedVariables false
/-- what the package-level variables hold that the calls read -/
structure Env (w : World) : Prop where
  hm : 0 < w.heap.size
  hr : 5 < w.heap.size
  ht : 1 < w.heap.size
  mlen : ∃ m, w.cell? ⟨0, 0, none⟩ = some (.int .i64 m)
  rng : ∃ tp p, w.var? Tryz.prog "strconv.ErrRange" = some #[.iface tp p]
  tab : Lib.TabIs Tryz.prog w "internal/strconv.uint64pow10" .u64 Lib.pow10Tab
theorem Env.below {w w' : World} (h : Env w) (hb : Below w.heap.size w w') : Env w' := by
  have := hb.size
  have h1 := h.hm; have h2 := h.hr; have h3 := h.ht
  obtain ⟨m, h4⟩ := h.mlen
  obtain ⟨c, d, h5⟩ := h.rng
  exact ⟨by omega, by omega, by omega, ⟨m, (hb.cell (p := ⟨_, 0, none⟩) h1).trans h4⟩, ⟨c, d, var?_below hb (by kernel_rfl) h2 h5⟩, var?_below hb (by kernel_rfl) h3 h.tab⟩
end Go.Proofs.YtcgcndmlgfnjbaaGreatDoor

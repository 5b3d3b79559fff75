/- A pick in memory whose numbers are laid anew. -/
import Derived.Test.YtcgcndmlgfnjbaaGreatDoorSchI
namespace Go.Proofs.YtcgcndmlgfnjbaaGreatDoor
open Go Go.RowKit
set_option linter.unusedVariables false
theorem pkB_cut {w : World} {b : Nat} {p : Pk} {v : Value} (h : PkB w b p v) (u : Value) : PkB (w.setCell ⟨b, 3, none⟩ u) b p u := by
  obtain ⟨⟨h0, h1, h2, h3⟩, g0, g1, g2, g3⟩ := h
  refine ⟨⟨?_, ?_, ?_, ?_⟩, ?_, ?_, ?_, ?_⟩
  · simpa [World.cell?_setCell_other] using h0
  · simpa [World.cell?_setCell_other] using h1
  · simpa [World.cell?_setCell_other] using h2
  · simp only [Nat.zero_add] at h3 ⊢
    simp [World.cell?_setCell_same', h3]
  · simpa using g0
  · simpa using g1
  · simpa using g2
  · simpa using g3
end Go.Proofs.YtcgcndmlgfnjbaaGreatDoor

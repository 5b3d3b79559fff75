/- Chapter 04 (statements), joined: Env0. -/
import Derived.Test.YtaoeaaebafcegaaGreatDoorPkShelf
import Derived.Below
import Derived.Lib.ItoaNum
import Derived.Lib.LaidTab
import Derived.WalkKit
import Derived.WalkSmall
set_option maxRecDepth 100000
namespace Go.Proofs.YtaoeaaebafcegaaGreatDoor
open Go Go.RowKit
set_option linter.unusedVariables false
structure Env (w:World):Prop where
 hm:0 < w.heap.size
 ht:1 < w.heap.size
 mlen:∃ m,w.cell? ⟨0,0,none⟩=some (.int .i64 m)
 tab : Lib.TabIs Tryz.prog w "internal/strconv.uint64pow10" .u64 Lib.pow10Tab
theorem Env.below {w w':World} (h:Env w) (hb:Below w.heap.size w w'):Env w':=by
 have:=hb.size
 have h1:=h.hm;have h2:=h.ht
 obtain ⟨m,h3⟩:=h.mlen
 exact ⟨by omega,by omega,⟨m,(hb.cell (p:=⟨_,0,none⟩) h1).trans h3⟩,var?_below hb (by kernel_rfl) h2 h.tab⟩
end Go.Proofs.YtaoeaaebafcegaaGreatDoor

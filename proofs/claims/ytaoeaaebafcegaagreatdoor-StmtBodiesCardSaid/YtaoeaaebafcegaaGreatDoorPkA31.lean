/- Chapter 04 (statements), joined: StrH. -/
import Derived.Test.YtaoeaaebafcegaaGreatDoorPkA16
import Derived.Test.YtaoeaaebafcegaaGreatDoorPkA27
import Derived.Test.YtaoeaaebafcegaaGreatDoorPkA30
import Derived.Deep.Cut
set_option maxRecDepth 100000
namespace Go.Proofs.YtaoeaaebafcegaaGreatDoor
open Go Go.RowKit
set_option linter.unusedVariables false
def okS (x:St):Bool:=decide (1≤x.kind) && decide (x.kind < 15) && decide (0≤x.pos) && decide (x.pos≤4000) && (if hasC x 107=true then decide (1≤x.n) && decide (x.n≤8) else x.n == 0)
theorem fits_ok (x:St):fitsS x=(okS x && textB (hasC x 114) x.reg && textB (hasC x 110) x.name && nodesB (hasC x 101) x.e && nodesB (hasC x 102) x.f):=by
 unfold fitsS okS textB nodesB
 rw [show decide (x.kind < 15)=decide (x.kind≤14) from decide_eq_decide.2 (by omega)]
 generalize decide (1≤x.kind)=a
 generalize decide (x.kind≤14)=b
 generalize decide (0≤x.pos)=c
 generalize decide (x.pos≤4000)=d
 generalize (if hasC x 107=true then decide (1≤x.n) && decide (x.n≤8) else x.n == 0)=t
 cases a <;> cases b <;> cases c <;> cases d <;> cases t <;> simp
theorem has_any (k:Int) (w:World):Calls Tryz.prog 22 #[.int .i64 k] w fun e w'=>e = .returned (.string (str (hasS k.toNat)))∧Below w.heap.size w w':=by
 by_cases h:0≤k∧k < 15
 ·obtain ⟨n,rfl⟩:=Int.eq_ofNat_of_zero_le h.1
  rw [Int.toNat_natCast]
  exact has_c n (by omega) w
 ·have hs:str (hasS k.toNat)=⟨#[]⟩:=by
   by_cases h0:k < 0
   ·rw [show k.toNat=0 by omega];rfl
   ·have:hasS k.toNat = []:=by
     unfold hasS
     rw [List.getD_eq_getElem?_getD,List.getElem?_eq_none (by show 15≤_;omega)]
     rfl
    rw [this];rfl
  rw [hs]
  exact (has_no k (by omega) w).mono (fun e w' hh=>⟨hh.1,by rw [hh.2];exact Below.refl _ _⟩)
theorem odd1_any (k:Nat) (c:UInt8) (hc:c∈([114,110,101,102,107]:List UInt8)) (b:Nat) (w:World) (hb:w.cell? ⟨b,0,none⟩=some (.string (str (hasS k)))) :
 Calls Tryz.prog 55 #[.string ⟨#[c]⟩,.pointer (some ⟨b,0,none⟩)] w fun e w'=>e = .returned (.bool ((hasS k).contains c))∧w=w':=by
 by_cases hk:k < 15
 ·exact odd1_c k hk c hc b w hb
 ·have:hasS k = []:=by
   unfold hasS
   rw [List.getD_eq_getElem?_getD,List.getElem?_eq_none (by show 15≤_;omega)]
   rfl
  rw [this] at hb ⊢
  exact odd1_empty c b w hb
end Go.Proofs.YtaoeaaebafcegaaGreatDoor

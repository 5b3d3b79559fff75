/- Chapter 04 (statements), joined: StmPlG, StLwC, StLwD. -/
import Derived.Test.YtaoeaaebafcegaaGreatDoorPkA38
import Derived.BigRegion
import Derived.StillTailTactics
set_option maxRecDepth 100000
namespace Go.Proofs.YtaoeaaebafcegaaGreatDoor
open Go Go.RowKit
set_option linter.unusedVariables false
theorem showS_ln {l:List St} {t:List UInt8} (h:rightS l=true) (hl:Ln l [] t):showS l=t:=by
 unfold showS
 rw [if_pos h,ln_linesF hl _ (Nat.le_refl _)]
theorem show_le {l:List St} (h:rightS l=true):(showS l).length≤200000:=by
 obtain ⟨h1,h2,d,h3,h4⟩:=(rightS_iff l).1 h
 rw [showS_yes h]
 have:=lnS_len h4 h2 [] (by simp only [List.length_nil];omega)
 omega
theorem Nods.one {w:World} {v:Value} {l:List Nod} (h:Nods w v l):v.oneCell' = true:=by
 obtain ⟨A,c,rfl,_⟩:=h.shape
 rfl
theorem Svs.ones {w:World} {v:Value} {pl:List Sv} (h:Svs w v pl):∀ u∈pl.flatMap Sv.cells,u.oneCell' = true :=
 stmt_one pl (fun x hx=>⟨(h.2 x hx).1.one,(h.2 x hx).2.one⟩)
theorem svs_own {w':World} {B:Nat} {V:Value} {n:Nat} {q:List Sv} (hn:n=q.length) (ho:w'.ownsRow B 31 9 V n (q.flatMap Sv.cells)) (hq:∀ x∈q,Nods w' x.ev x.s.e∧Nods w' x.fv x.s.f):Svs w' V q:=by
 subst hn
 exact ⟨sl_of_own ho,hq⟩
end Go.Proofs.YtaoeaaebafcegaaGreatDoor

/- Chapter 04 (statements), joined: StmP. -/
import Derived.Test.YtaoeaaebafcegaaGreatDoorPkA32
set_option maxRecDepth 100000
namespace Go.Proofs.YtaoeaaebafcegaaGreatDoor
open Go Go.RowKit
set_option linter.unusedVariables false
theorem KR.belowB {B g:Nat} {o o':Value} {w0 w w':World} (h:KR g o o' w w') (hb:Below B w0 w) (hg:B≤g) (hB:B≤w.heap.size) (ho:∀ k,o.ownBlock=some k→B≤k):Below B w0 w' :=
 ⟨h.os.trans hb.os,h.tape.trans hb.tape,h.output.trans hb.output,Nat.le_trans hb.size h.size,fun k hk=>(h.block k (by omega) (by omega) (fun e=>by have:=ho k e;omega)).trans (hb.block k hk)⟩
theorem parS_bad {l:List Tok} {n:Nat} {e p:Int} (h:blkR l 13 false n = .inr (e,p)):parS l n=([],0,e,p):=by
 unfold parS;rw [if_neg (by omega),Int.toNat_natCast,h]
theorem parS_big {l:List Tok} {n t:Nat} {x:List St} (h:blkR l 13 false n = .inl (x,t)) (h40:40 < x.length):parS l n=([],0,2,(tk l n).pos):=by
 unfold parS;rw [if_neg (by omega),Int.toNat_natCast,h];simp only;rw [if_pos h40]
theorem parS_ok {l:List Tok} {n t:Nat} {x:List St} (h:blkR l 13 false n = .inl (x,t)) (h40:¬ 40 < x.length):parS l n=(x,(t:Int),0,0):=by
 unfold parS;rw [if_neg (by omega),Int.toNat_natCast,h];simp only;rw [if_neg h40]
theorem blk_far {l:List Tok} {n:Nat} (h:l.length≤n):blkR l 13 false n = .inr (6,placeE l n):=by
 rw [blk_shut (isE_out h [123])]
 unfold badR;rw [if_pos h]
end Go.Proofs.YtaoeaaebafcegaaGreatDoor

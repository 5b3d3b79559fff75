/- Chapter 04 (statements), joined: StrF. -/
import Derived.Test.YtaoeaaebafcegaaGreatDoorPkA25
set_option maxRecDepth 100000
set_option maxHeartbeats 4000000
namespace Go.Proofs.YtaoeaaebafcegaaGreatDoor
open Go Go.RowKit
set_option linter.unusedVariables false
def OddC (l:List Sv) (w:World):Prop:=∀ x∈l,∀ u,Below w.heap.size w u→Calls Tryz.prog 31 #[svV x] u fun e w'=>e = .returned (.bool (!fitsS x.s))∧Below u.heap.size u w'
theorem indexS_c (l:List Sv) (hl:l.length≤100000) (v:Value) (w:World) (hv:Svs w v l) (HC:Hid (OddC l w)) :
 Calls Tryz.prog 54 #[v,.func (.func 31) #[] #[]] w fun e w'=>Below w.heap.size w w'∧∃ z:Int,e = .returned (.int .i64 z)∧(decide (0≤z) = !l.all (fun x=>fitsS x.s)):=by
 obtain ⟨A0,c0,rfl,hc0⟩:=hv.shape
 have HV:=Lib.hid hv
 clear hv
 go_enter Tryz.func54,Tryz.ntmps54
 go_wp2_with fail
 go_loopw [8] (fun k wr=>∃ j:Nat,j≤l.length∧k = .int .i64 j∧Below w.heap.size w wr∧∀ j' (h:j' < l.length),j' < j→fitsS (l[j']).s=true) (fun k _=>l.length - (intOf k).toNat)
 case atStart=>exact ⟨0,Nat.zero_le _,rfl,Below.refl _ _,fun j' _ h=>absurd h (by omega)⟩
 case round =>
  obtain ⟨j,hj,rfl,hb,hno⟩:=hrel
  have HNO:=Lib.hid hno
  have HB:=Lib.hid hb
  clear hno
  by_cases hjl:j < l.length
  ·obtain ⟨b,off,c,hE0,hcc,hbt,hat⟩:=HV.out.at_ (by omega)
   cases hE0
   have x1:=hat j hjl
   obtain ⟨hx0,hx1,hx2,hx3,hx4,hx5,hx6,hx7,hx8⟩:=x1.below hb hbt
   have HNX:=Lib.hid (HV.out.2 _ (List.getElem_mem hjl))
   have HCJ:=Lib.hid (HC.out (l[j]) (List.getElem_mem hjl) wr hb)
   clear hb hat x1
   have hjl2:(j:Int) < (l.length:Int):=by omega
   cases his:fitsS (l[j]).s
   ·have HR:Hid (l.all (fun x=>fitsS x.s)=false):=by
     show _=_
     rw [Bool.eq_false_iff]
     intro h
     rw [List.all_eq_true] at h
     rw [h _ (List.getElem_mem hjl)] at his;cases his
    rw [his] at HCJ
    clear his
    generalize l[j] = x at hx0 hx1 hx2 hx3 hx4 hx5 hx6 hx7 hx8 HCJ HNX
    obtain ⟨xs,xe,xf⟩:=x
    have hnx:=HNX.out
    unfold svV stV at HCJ
    dsimp only at hnx hx0 hx1 hx2 hx3 hx4 hx5 hx6 hx7 hx8 HCJ
    obtain ⟨A5,c5,rfl,_⟩:=Nods.shape hnx.1
    obtain ⟨A6,c6,rfl,_⟩:=Nods.shape hnx.2
    clear hnx HNX
    go_wp2_with (go_at_call 31;refine (HCJ.out).mono ?_;rintro e w2 ⟨rfl,hb2⟩)
    go_ret
    exact ⟨bt HB.out hb2,j,rfl,by rw [HR.out];simp⟩
   ·have HF:Hid (∀ j' (h:j' < l.length),j' < j+1→fitsS (l[j']).s=true):=fun j' h hlt=>by
     by_cases hjj:j' < j
     ·exact HNO.out j' h hjj
     ·obtain rfl:j' = j:=by omega
      exact his
    rw [his] at HCJ
    clear his
    generalize l[j] = x at hx0 hx1 hx2 hx3 hx4 hx5 hx6 hx7 hx8 HCJ HNX
    obtain ⟨xs,xe,xf⟩:=x
    have hnx:=HNX.out
    unfold svV stV at HCJ
    dsimp only at hnx hx0 hx1 hx2 hx3 hx4 hx5 hx6 hx7 hx8 HCJ
    obtain ⟨A5,c5,rfl,_⟩:=Nods.shape hnx.1
    obtain ⟨A6,c6,rfl,_⟩:=Nods.shape hnx.2
    clear hnx HNX
    go_wp2_with (go_at_call 31;refine (HCJ.out).mono ?_;rintro e w2 ⟨rfl,hb2⟩)
    go_roundw
    case rel=>exact ⟨j+1,by omega,by go_num,bt HB.out hb2,HF.out⟩
    case measure=>simp [intOf];omega
  ·have hje:j=l.length:=by omega
   have HY:Hid (l.all (fun x=>fitsS x.s)=true):=by
    show _=_
    rw [List.all_eq_true]
    intro x hx
    obtain ⟨j',hj',rfl⟩:=List.mem_iff_getElem.1 hx
    exact HNO.out j' hj' (by omega)
   go_wp2_with fail
   go_ret
   exact ⟨HB.out,-1,rfl,by rw [HY.out];rfl⟩
theorem containsS_c (l:List Sv) (hl:l.length≤100000) (v:Value) (w:World) (hv:Svs w v l) (HC:Hid (OddC l w)) :
 Calls Tryz.prog 30 #[v,.func (.func 31) #[] #[]] w fun e w'=>e = .returned (.bool (!l.all (fun x=>fitsS x.s)))∧Below w.heap.size w w':=by
 obtain ⟨A0,c0,rfl,hc0⟩:=hv.shape
 have HI:=Lib.hid (indexS_c l hl _ w hv HC)
 clear hv
 go_enter Tryz.func30,Tryz.ntmps30
 go_wp2_with (go_at_call 54;refine (HI.out).mono ?_;rintro e w1 ⟨hb1,z,rfl,hz⟩)
 go_ret
 first | exact ⟨ret_bool hz,hb1⟩ | exact ⟨rfl,hb1⟩
end Go.Proofs.YtaoeaaebafcegaaGreatDoor

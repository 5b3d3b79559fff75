/- Chapter 04 (statements), joined: SamA. -/
import Derived.Test.YtaoeaaebafcegaaGreatDoorPkA19
set_option maxRecDepth 100000
set_option maxHeartbeats 4000000
namespace Go.Proofs.YtaoeaaebafcegaaGreatDoor
open Go Go.RowKit
set_option linter.unusedVariables false
theorem same1_c (x y:Nod) (w:World) :
 Calls Tryz.prog 69 #[nodV x,nodV y] w fun e w'=>e = .returned (.bool (nodS false x y))∧Below w.heap.size w w':=by
 have hnm:(x.name == y.name)=((str x.name).toList == (str y.name).toList):=by rw [str_toList,str_toList]
 have hN:nodS false x y=((x.op == y.op) && (x.n == y.n) && ((str x.name).toList == (str y.name).toList)):=by
  rw [← hnm];unfold nodS bne
  cases (x.op == y.op) <;> cases (x.n == y.n) <;> cases (x.name == y.name) <;> rfl
 unfold nodV
 cases h0:(x.op == y.op)
 ·have HR:Hid (nodS false x y=false):=by show _=_;rw [hN,h0];rfl
  clear hN hnm
  go_enter Tryz.func69,Tryz.ntmps69
  go_wp2_with fail
  go_ret
  exact ⟨ret_bool HR.out.symm,by repeat (first | exact Below.refl _ _ | refine balloc ?_ _)⟩
 ·cases h1:(x.n == y.n)
  ·have HR:Hid (nodS false x y=false):=by show _=_;rw [hN,h0,h1];rfl
   clear hN hnm
   go_enter Tryz.func69,Tryz.ntmps69
   go_wp2_with fail
   go_ret
   exact ⟨ret_bool HR.out.symm,by repeat (first | exact Below.refl _ _ | refine balloc ?_ _)⟩
  ·have HR:Hid (nodS false x y=((str x.name).toList == (str y.name).toList)):=by show _=_;rw [hN,h0,h1];rfl
   cases h2:((str x.name).toList == (str y.name).toList)
   all_goals
    rw [h2] at HR
    clear hN hnm
    go_enter Tryz.func69,Tryz.ntmps69
    go_wp2_with fail
    go_ret
    exact ⟨ret_bool HR.out.symm,by repeat (first | exact Below.refl _ _ | refine balloc ?_ _)⟩
def nd (l:List Nod) (i:Nat):Nod:=l.getD i ⟨0,0,[],0⟩
theorem nd_at {l:List Nod} {i:Nat} (h:i < l.length):nd l i=l[i]:=by
 unfold nd;rw [List.getD_eq_getElem?_getD,List.getElem?_eq_getElem h];rfl
theorem equal_c (a b:List Nod) (ha:a.length≤100000) (hb:b.length≤100000) (va vb:Value) (w:World) (hA:Nods w va a) (hB:Nods w vb b) :
 Calls Tryz.prog 68 #[va,vb,.func (.func 69) #[] #[]] w fun e w'=>e = .returned (.bool (sameE false a b))∧Below w.heap.size w w':=by
 obtain ⟨A1,c1,rfl,hc1⟩:=hA.shape
 obtain ⟨A2,c2,rfl,hc2⟩:=hB.shape
 by_cases hl:a.length=b.length
 ·have hln:((a.length:Int) != (b.length:Int))=false:=by simp [hl]
  have HA:=Lib.hid hA
  have HB:=Lib.hid hB
  have HS:Hid (∀ x y u,Calls Tryz.prog 69 #[nodV x,nodV y] u fun e w'=>e = .returned (.bool (nodS false x y))∧Below u.heap.size u w'):=fun x y u=>same1_c x y u
  have HL:=Lib.hid hl
  clear hA hB hl
  go_enter Tryz.func68,Tryz.ntmps68
  go_wp2_with fail
  go_loopw [17] (fun k wr=>Below w.heap.size w wr∧∃ j:Nat,j≤a.length∧k = .int .i64 j∧∀ j',j' < j→nodS false (nd a j') (nd b j')=true) (fun k _=>a.length - (intOf k).toNat)
  case atStart=>exact ⟨Below.refl _ _,0,Nat.zero_le _,rfl,fun j' h=>absurd h (by omega)⟩
  case round =>
   obtain ⟨hbw,j,hj,rfl,hall⟩:=hrel
   have HBW:=Lib.hid hbw
   have HALL:=Lib.hid hall
   clear hall
   by_cases hjl:j < a.length
   ·obtain ⟨b1,o1,k1,hE1,hk1,hl1,hat1⟩:=Nods.at_ (l:=a) HA.out (by omega)
    obtain ⟨b2,o2,k2,hE2,hk2,hl2,hat2⟩:=Nods.at_ (l:=b) HB.out (by have:=HL.out;omega)
    cases hE1
    cases hE2
    have x1:=hat1 j hjl
    have y1:=hat2 j (by have:=HL.out;omega)
    rw [← nd_at hjl] at x1
    rw [← nd_at (by have:=HL.out;omega)] at y1
    have hx0:=(hbw.cell (p:=⟨_,_,none⟩) hl1).trans x1.op
    have hx1:=(hbw.cell (p:=⟨_,_,none⟩) hl1).trans x1.n
    have hx2:=(hbw.cell (p:=⟨_,_,none⟩) hl1).trans x1.name
    have hx3:=(hbw.cell (p:=⟨_,_,none⟩) hl1).trans x1.pos
    have hy0:=(hbw.cell (p:=⟨_,_,none⟩) hl2).trans y1.op
    have hy1:=(hbw.cell (p:=⟨_,_,none⟩) hl2).trans y1.n
    have hy2:=(hbw.cell (p:=⟨_,_,none⟩) hl2).trans y1.name
    have hy3:=(hbw.cell (p:=⟨_,_,none⟩) hl2).trans y1.pos
    have HF:Hid (nodS false (nd a j) (nd b j)=false→sameE false a b=false):=fun h=>sameE_no HL.out j hjl (by rw [nd_at hjl,nd_at (by have:=HL.out;omega)] at h;exact h)
    have HT:Hid (nodS false (nd a j) (nd b j)=true→∀ j',j' = j→nodS false (nd a j') (nd b j')=true):=fun h j' e=>by subst e;exact h
    have hj0:(0:Int)≤(j:Int):=Int.natCast_nonneg _
    have hj1:(j:Int) < (a.length:Int):=by omega
    have hj2:(j:Int) < (b.length:Int):=by have:=HL.out;omega
    have hb1l:=Nat.lt_of_lt_of_le hl1 hbw.size
    have hb2l:=Nat.lt_of_lt_of_le hl2 hbw.size
    clear hat1 hat2 x1 y1 hbw
    generalize nd a j=x at hx0 hx1 hx2 hx3 HF HT
    generalize nd b j=y at hy0 hy1 hy2 hy3 HF HT
    have HSX:=Lib.hid (HS.out x y)
    unfold nodV at HSX
    cases hs:nodS false x y
    ·rw [hs] at HSX
     have HF2:=Lib.hid (HF.out hs)
     clear hs
     go_wp2_with (go_at_call 69;refine (HSX.out _).mono ?_;rintro e w3 ⟨rfl,hb3⟩)
     go_ret
     exact ⟨ret_bool HF2.out.symm,bt HBW.out (bt (balloc (al _ _) _) hb3)⟩
    ·rw [hs] at HSX
     have HT2:=Lib.hid (HT.out hs)
     clear hs
     go_wp2_with (go_at_call 69;refine (HSX.out _).mono ?_;rintro e w3 ⟨rfl,hb3⟩)
     go_roundw
     case rel =>
      refine ⟨bt HBW.out (bt (balloc (al _ _) _) hb3),j+1,by omega,by go_num,fun j' hlt=>?_⟩
      by_cases hjj:j' < j
      ·exact HALL.out j' hjj
      ·exact HT2.out j' (by omega)
     case measure=>simp [intOf];omega
   ·have HY:=Lib.hid (sameE_yes (pl:=false) HL.out (fun i hi=>by have:=HALL.out i (by omega);rw [nd_at hi,nd_at (by have:=HL.out;omega)] at this;exact this))
    go_wp2_with fail
    go_ret
    exact ⟨ret_bool HY.out.symm,HBW.out⟩
 ·have hln:((a.length:Int) != (b.length:Int))=true:=by rw [bne_iff_ne];omega
  have HN:=Lib.hid (sameE_len (pl:=false) hl)
  go_enter Tryz.func68,Tryz.ntmps68
  go_wp2_with fail
  go_ret
  exact ⟨ret_bool HN.out.symm,Below.refl _ _⟩
theorem Same_c (a b:List Nod) (ha:a.length≤100000) (hb:b.length≤100000) (va vb:Value) (w:World) (hA:Nods w va a) (hB:Nods w vb b) :
 Calls Tryz.prog 41 #[va,vb] w fun e w'=>e = .returned (.bool (sameE false a b))∧Below w.heap.size w w':=by
 have HC:=Lib.hid (equal_c a b ha hb va vb w hA hB)
 obtain ⟨A1,c1,rfl,hc1⟩:=hA.shape
 obtain ⟨A2,c2,rfl,hc2⟩:=hB.shape
 clear hA hB
 go_enter Tryz.func41,Tryz.ntmps41
 go_wp2_with (go_at_call 68;refine (HC.out).mono ?_;rintro e w3 ⟨rfl,hb3⟩)
 go_ret
 exact ⟨rfl,hb3⟩
end Go.Proofs.YtaoeaaebafcegaaGreatDoor

/- Chapter 04 (statements), joined: StrB. -/
import Derived.Test.YtaoeaaebafcegaaGreatDoorPkA24
import Derived.Test.YtaoeaaebafcegaaGreatDoorPkA25
set_option maxRecDepth 100000
set_option maxHeartbeats 4000000
namespace Go.Proofs.YtaoeaaebafcegaaGreatDoor
open Go Go.RowKit
set_option linter.unusedVariables false
theorem sameSt_eq (x y:St):sameSt false x y=((x.kind == y.kind) && ((str x.reg).toList == (str y.reg).toList) && ((str x.name).toList == (str y.name).toList) && (x.n == y.n) && (x.body == y.body) && (x.els == y.els) && sameE false x.e y.e && sameE false x.f y.f):=by
 unfold sameSt
 rw [str_toList,str_toList,str_toList,str_toList]
 simp
theorem sameS1_c (x y:St) (e1 f1 e2 f2:Value) (hxe:x.e.length≤100000) (hxf:x.f.length≤100000) (hye:y.e.length≤100000) (hyf:y.f.length≤100000) (w:World) (he1:Nods w e1 x.e) (hf1:Nods w f1 x.f) (he2:Nods w e2 y.e) (hf2:Nods w f2 y.f) :
 Calls Tryz.prog 40 #[stV x e1 f1,stV y e2 f2] w fun e w'=>e = .returned (.bool (sameSt false x y))∧Below w.heap.size w w':=by
 have hN:=sameSt_eq x y
 have HE:Hid (∀ u,Below w.heap.size w u→Calls Tryz.prog 41 #[e1,e2] u fun e w'=>e = .returned (.bool (sameE false x.e y.e))∧Below u.heap.size u w'):=fun u hu=>Same_c x.e y.e hxe hye e1 e2 u (SlN.below he1 hu) (SlN.below he2 hu)
 have HF:Hid (∀ u,Below w.heap.size w u→Calls Tryz.prog 41 #[f1,f2] u fun e w'=>e = .returned (.bool (sameE false x.f y.f))∧Below u.heap.size u w'):=fun u hu=>Same_c x.f y.f hxf hyf f1 f2 u (SlN.below hf1 hu) (SlN.below hf2 hu)
 obtain ⟨A1,c1,rfl,_⟩:=Nods.shape he1
 obtain ⟨A2,c2,rfl,_⟩:=Nods.shape hf1
 obtain ⟨A3,c3,rfl,_⟩:=Nods.shape he2
 obtain ⟨A4,c4,rfl,_⟩:=Nods.shape hf2
 generalize x.e.length=n1 at HE
 generalize x.f.length=n2 at HF
 generalize y.e.length=n3 at HE
 generalize y.f.length=n4 at HF
 generalize sameE false x.e y.e=bE at hN HE
 generalize sameE false x.f y.f=bF at hN HF
 clear he1 hf1 he2 hf2 hxe hxf hye hyf
 unfold stV
 cases h0:(x.kind == y.kind)
 ·have HR:Hid (sameSt false x y=false):=by show _=_;rw [hN,h0];rfl
  clear hN
  go_enter Tryz.func40,Tryz.ntmps40
  go_wp2_with fail
  go_ret
  exact ⟨ret_bool HR.out.symm,(by repeat (first | exact Below.refl _ _ | refine balloc ?_ _))⟩
 ·skip
  cases h1:((str x.reg).toList == (str y.reg).toList)
  ·have HR:Hid (sameSt false x y=false):=by show _=_;rw [hN,h0,h1];rfl
   clear hN
   go_enter Tryz.func40,Tryz.ntmps40
   go_wp2_with fail
   go_ret
   exact ⟨ret_bool HR.out.symm,(by repeat (first | exact Below.refl _ _ | refine balloc ?_ _))⟩
  ·skip
   cases h2:((str x.name).toList == (str y.name).toList)
   ·have HR:Hid (sameSt false x y=false):=by show _=_;rw [hN,h0,h1,h2];rfl
    clear hN
    go_enter Tryz.func40,Tryz.ntmps40
    go_wp2_with fail
    go_ret
    exact ⟨ret_bool HR.out.symm,(by repeat (first | exact Below.refl _ _ | refine balloc ?_ _))⟩
   ·skip
    cases h3:(x.n == y.n)
    ·have HR:Hid (sameSt false x y=false):=by show _=_;rw [hN,h0,h1,h2,h3];rfl
     clear hN
     go_enter Tryz.func40,Tryz.ntmps40
     go_wp2_with fail
     go_ret
     exact ⟨ret_bool HR.out.symm,(by repeat (first | exact Below.refl _ _ | refine balloc ?_ _))⟩
    ·skip
     cases h4:(x.body == y.body)
     ·have HR:Hid (sameSt false x y=false):=by show _=_;rw [hN,h0,h1,h2,h3,h4];rfl
      clear hN
      go_enter Tryz.func40,Tryz.ntmps40
      go_wp2_with fail
      go_ret
      exact ⟨ret_bool HR.out.symm,(by repeat (first | exact Below.refl _ _ | refine balloc ?_ _))⟩
     ·skip
      cases h5:(x.els == y.els)
      ·have HR:Hid (sameSt false x y=false):=by show _=_;rw [hN,h0,h1,h2,h3,h4,h5];rfl
       clear hN
       go_enter Tryz.func40,Tryz.ntmps40
       go_wp2_with fail
       go_ret
       exact ⟨ret_bool HR.out.symm,(by repeat (first | exact Below.refl _ _ | refine balloc ?_ _))⟩
      ·skip
       cases hb:bE
       ·rw [hb] at HE
        have HR:Hid (sameSt false x y=false):=by show _=_;rw [hN,h0,h1,h2,h3,h4,h5,hb];rfl
        clear hN
        go_enter Tryz.func40,Tryz.ntmps40
        go_wp2_with (go_at_call 41;refine (HE.out _ (by repeat (first | exact Below.refl _ _ | refine balloc ?_ _))).mono ?_;rintro e w3 ⟨rfl,hb3⟩)
        go_ret
        exact ⟨ret_bool HR.out.symm,bt (balloc (al _ _) _) hb3⟩
       ·rw [hb] at HE
        have HFF:=Lib.hid HF
        have HR:Hid (sameSt false x y=bF):=by show _=_;rw [hN,h0,h1,h2,h3,h4,h5,hb];rfl
        clear hN
        go_enter Tryz.func40,Tryz.ntmps40
        go_wp2_with (first | (go_at_call 41;(with_reducible refine (HE.out _ (by repeat (first | exact Below.refl _ _ | refine balloc ?_ _))).mono ?_);rintro e w3 ⟨rfl,hb3⟩;have HB3:=Lib.hid (bt (balloc (al _ _) _) hb3);have hc4:=hb3.cell (p:=⟨w.heap.size,4,none⟩) (by simp only [World.size_alloc];omega);have hd4:=hb3.cell (p:=⟨w.heap.size+1,4,none⟩) (by simp only [World.size_alloc];omega)) | (go_at_call 41;(with_reducible refine (HF.out _ HB3.out).mono ?_);rintro e w4 ⟨rfl,hb4⟩))
        go_ret
        exact ⟨ret_bool HR.out.symm,bt HB3.out hb4⟩
theorem equalS_c (a b:List Sv) (ha:a.length≤100000) (hb:b.length≤100000) (han:∀ x∈a,x.s.e.length≤100000∧x.s.f.length≤100000) (hbn:∀ x∈b,x.s.e.length≤100000∧x.s.f.length≤100000) (va vb:Value) (w:World) (hA:Svs w va a) (hB:Svs w vb b) :
 Calls Tryz.prog 39 #[va,vb,.func (.func 40) #[] #[]] w fun e w'=>e = .returned (.bool (sameS false (a.map (·.s)) (b.map (·.s))))∧Below w.heap.size w w':=by
 obtain ⟨A1,c1,rfl,hc1⟩:=hA.shape
 obtain ⟨A2,c2,rfl,hc2⟩:=hB.shape
 by_cases hl:a.length=b.length
 ·have hln:((a.length:Int) != (b.length:Int))=false:=by simp [hl]
  have HA:=Lib.hid hA
  have HB:=Lib.hid hB
  have HS:Hid (∀ x∈a,∀ y∈b,∀ u,Below w.heap.size w u→Calls Tryz.prog 40 #[stV x.s x.ev x.fv,stV y.s y.ev y.fv] u fun e w'=>e = .returned (.bool (sameSt false x.s y.s))∧Below u.heap.size u w'):=fun x hx y hy u hu=>sameS1_c x.s y.s x.ev x.fv y.ev y.fv (han x hx).1 (han x hx).2 (hbn y hy).1 (hbn y hy).2 u (SlN.below (HA.out.2 x hx).1 hu) (SlN.below (HA.out.2 x hx).2 hu) (SlN.below (HB.out.2 y hy).1 hu) (SlN.below (HB.out.2 y hy).2 hu)
  have HL:=Lib.hid hl
  clear hA hB hl
  go_enter Tryz.func39,Tryz.ntmps39
  go_wp2_with fail
  go_loopw [17] (fun k wr=>Below w.heap.size w wr∧∃ j:Nat,j≤a.length∧k = .int .i64 j∧∀ j',j' < j→sameSt false (sv a j').s (sv b j').s=true) (fun k _=>a.length - (intOf k).toNat)
  case atStart=>exact ⟨Below.refl _ _,0,Nat.zero_le _,rfl,fun j' h=>absurd h (by omega)⟩
  case round =>
   obtain ⟨hbw,j,hj,rfl,hall⟩:=hrel
   have HBW:=Lib.hid hbw
   have HALL:=Lib.hid hall
   clear hall
   by_cases hjl:j < a.length
   ·obtain ⟨b1,o1,k1,hE1,hk1,hl1,hat1⟩:=Svs.at_ (pl:=a) HA.out (by omega)
    obtain ⟨b2,o2,k2,hE2,hk2,hl2,hat2⟩:=Svs.at_ (pl:=b) HB.out (by have:=HL.out;omega)
    cases hE1
    cases hE2
    have x1:=hat1 j hjl
    have y1:=hat2 j (by have:=HL.out;omega)
    rw [← sv_at hjl] at x1
    rw [← sv_at (by have:=HL.out;omega)] at y1
    obtain ⟨hx0,hx1,hx2,hx3,hx4,hx5,hx6,hx7,hx8⟩:=x1.below hbw hl1
    obtain ⟨hy0,hy1,hy2,hy3,hy4,hy5,hy6,hy7,hy8⟩:=y1.below hbw hl2
    have HMX:=Lib.hid (sv_mem hjl)
    have HMY:=Lib.hid (sv_mem (l:=b) (i:=j) (by have:=HL.out;omega))
    have HNX:=Lib.hid (HA.out.2 _ HMX.out)
    have HNY:=Lib.hid (HB.out.2 _ HMY.out)
    have HF:Hid (sameSt false (sv a j).s (sv b j).s=false→sameS false (a.map (·.s)) (b.map (·.s))=false):=fun h=>sameS_no HL.out j hjl h
    have HT:Hid (sameSt false (sv a j).s (sv b j).s=true→∀ j',j' = j→sameSt false (sv a j').s (sv b j').s=true):=fun h j' e=>by subst e;exact h
    have hj0:(0:Int)≤(j:Int):=Int.natCast_nonneg _
    have hj1:(j:Int) < (a.length:Int):=by omega
    have hj2:(j:Int) < (b.length:Int):=by have:=HL.out;omega
    have hb1l:=Nat.lt_of_lt_of_le hl1 hbw.size
    have hb2l:=Nat.lt_of_lt_of_le hl2 hbw.size
    clear hat1 hat2 x1 y1 hbw
    generalize sv a j=x at hx0 hx1 hx2 hx3 hx4 hx5 hx6 hx7 hx8 HF HT HMX HNX
    generalize sv b j=y at hy0 hy1 hy2 hy3 hy4 hy5 hy6 hy7 hy8 HF HT HMY HNY
    have HSX:=Lib.hid (HS.out x HMX.out y HMY.out)
    unfold stV at HSX
    obtain ⟨xs,xe,xf⟩:=x
    obtain ⟨ys,ye,yf⟩:=y
    have hnx:=HNX.out
    have hny:=HNY.out
    dsimp only at hnx hny hx0 hx1 hx2 hx3 hx4 hx5 hx6 hx7 hx8 hy0 hy1 hy2 hy3 hy4 hy5 hy6 hy7 hy8 HF HT HSX
    obtain ⟨A5,c5,rfl,_⟩:=Nods.shape hnx.1
    obtain ⟨A6,c6,rfl,_⟩:=Nods.shape hnx.2
    obtain ⟨A7,c7,rfl,_⟩:=Nods.shape hny.1
    obtain ⟨A8,c8,rfl,_⟩:=Nods.shape hny.2
    clear hnx hny HNX HNY HMX HMY
    cases hs:sameSt false xs ys
    ·simp only [hs] at HSX
     have HF2:=Lib.hid (HF.out hs)
     clear hs
     go_wp2_with (go_at_call 40;refine (HSX.out _ (bt HBW.out (balloc (al _ _) _))).mono ?_;rintro e w3 ⟨rfl,hb3⟩)
     go_ret
     exact ⟨ret_bool HF2.out.symm,bt HBW.out (bt (balloc (al _ _) _) hb3)⟩
    ·simp only [hs] at HSX
     have HT2:=Lib.hid (HT.out hs)
     clear hs
     go_wp2_with (go_at_call 40;refine (HSX.out _ (bt HBW.out (balloc (al _ _) _))).mono ?_;rintro e w3 ⟨rfl,hb3⟩)
     go_roundw
     case rel =>
      refine ⟨bt HBW.out (bt (balloc (al _ _) _) hb3),j+1,by omega,by go_num,fun j' hlt=>?_⟩
      by_cases hjj:j' < j
      ·exact HALL.out j' hjj
      ·exact HT2.out j' (by omega)
     case measure=>simp [intOf];omega
   ·have HY:=Lib.hid (sameS_yes (b:=false) HL.out (fun i hi=>HALL.out i (by omega)))
    go_wp2_with fail
    go_ret
    exact ⟨ret_bool HY.out.symm,HBW.out⟩
 ·have hln:((a.length:Int) != (b.length:Int))=true:=by rw [bne_iff_ne];omega
  have HN:=Lib.hid (sameS_len (b:=false) (show (a.map (·.s)).length≠(b.map (·.s)).length by rw [List.length_map,List.length_map];exact hl))
  go_enter Tryz.func39,Tryz.ntmps39
  go_wp2_with fail
  go_ret
  exact ⟨ret_bool HN.out.symm,Below.refl _ _⟩
theorem SameS_c (a b:List Sv) (ha:a.length≤100000) (hb:b.length≤100000) (han:∀ x∈a,x.s.e.length≤100000∧x.s.f.length≤100000) (hbn:∀ x∈b,x.s.e.length≤100000∧x.s.f.length≤100000) (va vb:Value) (w:World) (hA:Svs w va a) (hB:Svs w vb b) :
 Calls Tryz.prog 24 #[va,vb] w fun e w'=>e = .returned (.bool (sameS false (a.map (·.s)) (b.map (·.s))))∧Below w.heap.size w w':=by
 have HC:=Lib.hid (equalS_c a b ha hb han hbn va vb w hA hB)
 obtain ⟨A1,c1,rfl,hc1⟩:=hA.shape
 obtain ⟨A2,c2,rfl,hc2⟩:=hB.shape
 clear hA hB
 go_enter Tryz.func24,Tryz.ntmps24
 go_wp2_with (go_at_call 39;refine (HC.out).mono ?_;rintro e w3 ⟨rfl,hb3⟩)
 go_ret
 exact ⟨rfl,hb3⟩
end Go.Proofs.YtaoeaaebafcegaaGreatDoor

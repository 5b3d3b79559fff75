/- Chapter 04 (statements), joined: LwA, StrC. -/
import Derived.Test.YtaoeaaebafcegaaGreatDoorPkA25
import Derived.BigRegion
set_option maxRecDepth 100000
set_option maxHeartbeats 16000000
namespace Go.Proofs.YtaoeaaebafcegaaGreatDoor
open Go Go.RowKit
set_option linter.unusedVariables false
end Go.Proofs.YtaoeaaebafcegaaGreatDoor
namespace Go.Proofs.YtaoeaaebafcegaaGreatDoor
open Go Go.RowKit
set_option linter.unusedVariables false
end Go.Proofs.YtaoeaaebafcegaaGreatDoor
namespace Go.Proofs.YtaoeaaebafcegaaGreatDoor
open Go Go.RowKit
set_option linter.unusedVariables false
end Go.Proofs.YtaoeaaebafcegaaGreatDoor
namespace Go.Proofs.YtaoeaaebafcegaaGreatDoor
open Go Go.RowKit
set_option linter.unusedVariables false
theorem rsame_c (a b:List Nod) (ha:a.length≤100000) (hb:b.length≤100000) (va vb:Value) (pl:Bool) (w:World) (hA:Nods w va a) (hB:Nods w vb b) :
 Calls Tryz.prog 28 #[va,vb,.bool pl] w fun e w'=>e = .returned (.bool (sameE pl a b))∧Below w.heap.size w w':=by
 obtain ⟨A1,c1,rfl,hc1⟩:=hA.shape
 obtain ⟨A2,c2,rfl,hc2⟩:=hB.shape
 by_cases hl:a.length=b.length
 ·have hle:((a.length:Int) == (b.length:Int))=true:=by rw [beq_iff_eq];omega
  have hln:((a.length:Int) != (b.length:Int))=false:=by unfold bne;rw [hle];rfl
  have HA:=Lib.hid hA
  have HB:=Lib.hid hB
  clear hA hB
  go_enter Tryz.func28,Tryz.ntmps28
  go_wp2_with fail
  go_loopw [7] (fun k wr=>Below w.heap.size w wr∧∃ j:Nat,j≤a.length∧k = .int .i64 j∧∀ j' (h:j' < a.length),j' < j→nodS pl a[j'] (b[j']'(by omega))=true) (fun k _=>a.length - (intOf k).toNat)
  case atStart=>exact ⟨Below.refl _ _,0,Nat.zero_le _,rfl,fun j' _ h=>absurd h (by omega)⟩
  case round =>
   obtain ⟨hbw,j,hj,rfl,hall⟩:=hrel
   have HBW:=Lib.hid hbw
   have HALL:=Lib.hid hall
   clear hall
   by_cases hjl:j < a.length
   ·obtain ⟨b1,o1,k1,hE1,hk1,hl1,hat1⟩:=HA.out.at_ (by omega)
    obtain ⟨b2,o2,k2,hE2,hk2,hl2,hat2⟩:=HB.out.at_ (by omega)
    cases hE1
    cases hE2
    have x1:=hat1 j hjl
    have y1:=hat2 j (by omega)
    have hx0:=(hbw.cell (p:=⟨_,_,none⟩) hl1).trans x1.op
    have hx1:=(hbw.cell (p:=⟨_,_,none⟩) hl1).trans x1.n
    have hx2:=(hbw.cell (p:=⟨_,_,none⟩) hl1).trans x1.name
    have hx3:=(hbw.cell (p:=⟨_,_,none⟩) hl1).trans x1.pos
    have hy0:=(hbw.cell (p:=⟨_,_,none⟩) hl2).trans y1.op
    have hy1:=(hbw.cell (p:=⟨_,_,none⟩) hl2).trans y1.n
    have hy2:=(hbw.cell (p:=⟨_,_,none⟩) hl2).trans y1.name
    have hy3:=(hbw.cell (p:=⟨_,_,none⟩) hl2).trans y1.pos
    have HF:Hid (nodS pl a[j] (b[j]'(by omega))=false→sameE pl a b=false):=fun h=>sameE_no hl j hjl h
    have HT:Hid (nodS pl a[j] (b[j]'(by omega))=true→∀ j' (h:j' < a.length),j' = j→nodS pl a[j'] (b[j']'(by omega))=true):=fun h j' hj' e=>by subst e;exact h
    have hj0:(0:Int)≤(j:Int):=Int.natCast_nonneg _
    have hj1:(j:Int) < (a.length:Int):=by omega
    have hj2:(j:Int) < (b.length:Int):=by omega
    clear hat1 hat2 x1 y1 hbw
    generalize a[j] = x at hx0 hx1 hx2 hx3 HF HT
    generalize b[j]'(by omega)=y at hy0 hy1 hy2 hy3 HF HT
    cases h0:(x.op == y.op)
    ·have h0':(x.op != y.op)=true:=by unfold bne;rw [h0];rfl
     go_wp2_with fail
     go_quiet (fail)
     go_wp2_with fail
     go_ret
     exact ⟨ret_bool (HF.out (by simp [nodS, *])).symm,bdrN HBW.out _⟩
    ·have h0':(x.op != y.op)=false:=by unfold bne;rw [h0];rfl
     cases h1:(x.n == y.n)
     ·have h1':(x.n != y.n)=true:=by unfold bne;rw [h1];rfl
      go_wp2_with fail
      go_quiet (fail)
      go_wp2_with fail
      go_ret
      exact ⟨ret_bool (HF.out (by simp [nodS, *])).symm,bdrN HBW.out _⟩
     ·have h1':(x.n != y.n)=false:=by unfold bne;rw [h1];rfl
      have hnm:(x.name == y.name)=((str x.name).toList == (str y.name).toList):=by rw [str_toList,str_toList]
      cases h2:((str x.name).toList == (str y.name).toList)
      ·have h2':((str x.name).toList != (str y.name).toList)=true:=by unfold bne;rw [h2];rfl
       have HF2:Hid (sameE pl a b=false):=HF.out (by rw [h2] at hnm;simp only [nodS,bne,hnm];simp)
       clear hnm
       go_wp2_with fail
       go_quiet (fail)
       go_wp2_with fail
       go_ret
       exact ⟨ret_bool HF2.out.symm,bdrN HBW.out _⟩
      ·have h2':((str x.name).toList != (str y.name).toList)=false:=by unfold bne;rw [h2];rfl
       rw [h2] at hnm
       cases pl
       ·have HT2:=Lib.hid (HT.out (by simp only [nodS,bne,hnm,h0,h1];simp))
        clear hnm
        go_wp2_with fail
        go_quiet (fail)
        go_wp2_with fail
        go_roundw
        case rel =>
         refine ⟨bdrN HBW.out _,j+1,by omega,by go_num,fun j' h hlt=>?_⟩
         by_cases hjj:j' < j
         ·exact HALL.out j' h hjj
         ·exact HT2.out j' h (by omega)
        case measure=>simp [intOf];omega
       ·cases h3:(x.pos == y.pos)
        ·have h3':(x.pos != y.pos)=true:=by unfold bne;rw [h3];rfl
         have HF2:Hid (sameE true a b=false):=HF.out (by simp only [nodS,bne,h3];simp)
         clear hnm
         go_wp2_with fail
         go_quiet (fail)
         go_wp2_with fail
         go_ret
         exact ⟨ret_bool HF2.out.symm,bdrN HBW.out _⟩
        ·have h3':(x.pos != y.pos)=false:=by unfold bne;rw [h3];rfl
         have HT2:=Lib.hid (HT.out (by simp only [nodS,bne,hnm,h0,h1,h3];simp))
         clear hnm
         go_wp2_with fail
         go_quiet (fail)
         go_wp2_with fail
         go_roundw
         case rel =>
          refine ⟨bdrN HBW.out _,j+1,by omega,by go_num,fun j' h hlt=>?_⟩
          by_cases hjj:j' < j
          ·exact HALL.out j' h hjj
          ·exact HT2.out j' h (by omega)
         case measure=>simp [intOf];omega
   ·have HY:=Lib.hid (sameE_yes (pl:=pl) hl (fun i hi=>HALL.out i hi (by omega)))
    go_wp2_with fail
    go_ret
    exact ⟨ret_bool HY.out.symm,HBW.out⟩
 ·have hle:((a.length:Int) == (b.length:Int))=false:=by rw [beq_eq_false_iff_ne];omega
  have hln:((a.length:Int) != (b.length:Int))=true:=by unfold bne;rw [hle];rfl
  have HN:=Lib.hid (sameE_len (pl:=pl) hl)
  go_enter Tryz.func28,Tryz.ntmps28
  go_wp2_with fail
  go_ret
  exact ⟨ret_bool HN.out.symm,Below.refl _ _⟩
end Go.Proofs.YtaoeaaebafcegaaGreatDoor
namespace Go.Proofs.YtaoeaaebafcegaaGreatDoor
open Go Go.RowKit
set_option linter.unusedVariables false
end Go.Proofs.YtaoeaaebafcegaaGreatDoor
namespace Go.Proofs.YtaoeaaebafcegaaGreatDoor
open Go Go.RowKit
set_option linter.unusedVariables false
theorem sameStB_eq (b:Bool) (x y:St):sameSt b x y=((x.kind == y.kind) && ((str x.reg).toList == (str y.reg).toList) && ((str x.name).toList == (str y.name).toList) && (x.n == y.n) && (x.body == y.body) && (x.els == y.els) && (!b || (x.pos == y.pos)) && sameE b x.e y.e && sameE b x.f y.f):=by
 unfold sameSt
 rw [str_toList,str_toList,str_toList,str_toList]
theorem rsameS_c (a b:List Sv) (ha:a.length≤100000) (hb:b.length≤100000) (han:∀ x∈a,x.s.e.length≤100000∧x.s.f.length≤100000) (hbn:∀ x∈b,x.s.e.length≤100000∧x.s.f.length≤100000) (va vb:Value) (pl:Bool) (w:World) (hA:Svs w va a) (hB:Svs w vb b) :
 Calls Tryz.prog 13 #[va,vb,.bool pl] w fun e w'=>e = .returned (.bool (sameS pl (a.map (·.s)) (b.map (·.s))))∧Below w.heap.size w w':=by
 obtain ⟨A1,c1,rfl,hc1⟩:=hA.shape
 obtain ⟨A2,c2,rfl,hc2⟩:=hB.shape
 by_cases hl:a.length=b.length
 ·have hle:((a.length:Int) == (b.length:Int))=true:=by rw [beq_iff_eq];omega
  have hln:((a.length:Int) != (b.length:Int))=false:=by unfold bne;rw [hle];rfl
  have HA:=Lib.hid hA
  have HB:=Lib.hid hB
  have HL:=Lib.hid hl
  have HNA:=Lib.hid han
  have HNB:=Lib.hid hbn
  clear hA hB hl han hbn
  go_enter Tryz.func13,Tryz.ntmps13
  go_wp2_with fail
  go_loopw [7] (fun k wr=>Below w.heap.size w wr∧∃ j:Nat,j≤a.length∧k = .int .i64 j∧∀ j',j' < j→sameSt pl (sv a j').s (sv b j').s=true) (fun k _=>a.length - (intOf k).toNat)
  case atStart=>exact ⟨Below.refl _ _,0,Nat.zero_le _,rfl,fun j' h=>absurd h (by omega)⟩
  case round =>
   obtain ⟨hbw,j,hj,rfl,hall⟩:=hrel
   have HBW:=Lib.hid hbw
   have HALL:=Lib.hid hall
   clear hall
   by_cases hjl:j < a.length
   ·obtain ⟨b1,o1,k1,hE1,hk1,hl1,hat1⟩:=Svs.at_ (pl:=a) HA.out (by omega)
    obtain ⟨b2,o2,k2,hE2,hk2,hl2,hat2⟩:=Svs.at_ (pl:=b) HB.out (by have:=HL.out;omega)
    cases hE1
    cases hE2
    have x1:=hat1 j hjl
    have y1:=hat2 j (by have:=HL.out;omega)
    rw [← sv_at hjl] at x1
    rw [← sv_at (by have:=HL.out;omega)] at y1
    obtain ⟨hx0,hx1,hx2,hx3,hx4,hx5,hx6,hx7,hx8⟩:=x1.below hbw hl1
    obtain ⟨hy0,hy1,hy2,hy3,hy4,hy5,hy6,hy7,hy8⟩:=y1.below hbw hl2
    have HMX:=Lib.hid (sv_mem hjl)
    have HMY:=Lib.hid (sv_mem (l:=b) (i:=j) (by have:=HL.out;omega))
    have HNX:=Lib.hid (HA.out.2 _ HMX.out)
    have HNY:=Lib.hid (HB.out.2 _ HMY.out)
    have HF:Hid (sameSt pl (sv a j).s (sv b j).s=false→sameS pl (a.map (·.s)) (b.map (·.s))=false):=fun h=>sameS_no HL.out j hjl h
    have HT:Hid (sameSt pl (sv a j).s (sv b j).s=true→∀ j',j' = j→sameSt pl (sv a j').s (sv b j').s=true):=fun h j' e=>by subst e;exact h
    have hj0:(0:Int)≤(j:Int):=Int.natCast_nonneg _
    have hj1:(j:Int) < (a.length:Int):=by omega
    have hj2:(j:Int) < (b.length:Int):=by have:=HL.out;omega
    have HLX:=Lib.hid (HNA.out _ HMX.out)
    have HLY:=Lib.hid (HNB.out _ HMY.out)
    have hb1l:=Nat.lt_of_lt_of_le hl1 hbw.size
    have hb2l:=Nat.lt_of_lt_of_le hl2 hbw.size
    clear hat1 hat2 x1 y1 hbw hl1 hl2
    generalize sv a j=x at hx0 hx1 hx2 hx3 hx4 hx5 hx6 hx7 hx8 HF HT HMX HNX HLX
    generalize sv b j=y at hy0 hy1 hy2 hy3 hy4 hy5 hy6 hy7 hy8 HF HT HMY HNY HLY
    obtain ⟨xs,xe,xf⟩:=x
    obtain ⟨ys,ye,yf⟩:=y
    have hnx:=HNX.out
    have hny:=HNY.out
    dsimp only at hnx hny hx0 hx1 hx2 hx3 hx4 hx5 hx6 hx7 hx8 hy0 hy1 hy2 hy3 hy4 hy5 hy6 hy7 hy8 HF HT HNX HNY HLX HLY
    obtain ⟨A5,c5,rfl,_⟩:=Nods.shape hnx.1
    obtain ⟨A6,c6,rfl,_⟩:=Nods.shape hnx.2
    obtain ⟨A7,c7,rfl,_⟩:=Nods.shape hny.1
    obtain ⟨A8,c8,rfl,_⟩:=Nods.shape hny.2
    clear hnx hny HMX HMY
    go_upto_region 6 with fail
    go_cut [8,9] (fun s t wx=>∃ p q:Nat,s = .pointer (some ⟨p,0,none⟩)∧t = .pointer (some ⟨q,0,none⟩)∧SB wx p xs (.slice A5 xs.e.length c5) (.slice A6 xs.f.length c6)∧SB wx q ys (.slice A7 ys.e.length c7) (.slice A8 ys.f.length c8)∧Below wr.heap.size wr wx)
    case first =>
     go_region
     ·have HX:Hid (SB (((wr.alloc (.cells #[.int .i64 xs.kind,.string (str xs.reg),.string (str xs.name),(.slice A5 xs.e.length c5),(.slice A6 xs.f.length c6),.int .i64 xs.n,.int .i64 xs.body,.int .i64 xs.els,.int .i64 xs.pos] 31)).alloc (.cells #[.int .i64 ys.kind,.string (str ys.reg),.string (str ys.name),(.slice A7 ys.e.length c7),(.slice A8 ys.f.length c8),.int .i64 ys.n,.int .i64 ys.body,.int .i64 ys.els,.int .i64 ys.pos] 31)).drew) wr.heap.size xs (.slice A5 xs.e.length c5) (.slice A6 xs.f.length c6)):=(((sb_new wr xs (.slice A5 xs.e.length c5) (.slice A6 xs.f.length c6)).keep (g:=wr.heap.size+1) (Keep.of (al _ _)) (by omega))).drewN 1
      have HY:Hid (SB (((wr.alloc (.cells #[.int .i64 xs.kind,.string (str xs.reg),.string (str xs.name),(.slice A5 xs.e.length c5),(.slice A6 xs.f.length c6),.int .i64 xs.n,.int .i64 xs.body,.int .i64 xs.els,.int .i64 xs.pos] 31)).alloc (.cells #[.int .i64 ys.kind,.string (str ys.reg),.string (str ys.name),(.slice A7 ys.e.length c7),(.slice A8 ys.f.length c8),.int .i64 ys.n,.int .i64 ys.body,.int .i64 ys.els,.int .i64 ys.pos] 31)).drew) (wr.heap.size+1) ys (.slice A7 ys.e.length c7) (.slice A8 ys.f.length c8)):=by
       have h:=(sb_new (wr.alloc (.cells #[.int .i64 xs.kind,.string (str xs.reg),.string (str xs.name),(.slice A5 xs.e.length c5),(.slice A6 xs.f.length c6),.int .i64 xs.n,.int .i64 xs.body,.int .i64 xs.els,.int .i64 xs.pos] 31)) ys (.slice A7 ys.e.length c7) (.slice A8 ys.f.length c8)).drewN 1
       rw [World.size_alloc] at h
       exact h
      have HBY:Hid (Below wr.heap.size wr (((wr.alloc (.cells #[.int .i64 xs.kind,.string (str xs.reg),.string (str xs.name),(.slice A5 xs.e.length c5),(.slice A6 xs.f.length c6),.int .i64 xs.n,.int .i64 xs.body,.int .i64 xs.els,.int .i64 xs.pos] 31)).alloc (.cells #[.int .i64 ys.kind,.string (str ys.reg),.string (str ys.name),(.slice A7 ys.e.length c7),(.slice A8 ys.f.length c8),.int .i64 ys.n,.int .i64 ys.body,.int .i64 ys.els,.int .i64 ys.pos] 31)).drew)):=bdr (bt (al _ _) (al _ _))
      (try go_wp2_with fail)
      go_meet
      exact ⟨_,_,rfl,rfl,HX.out,HY.out,HBY.out⟩
     ·have HY:Hid (SB (((wr.alloc (.cells #[.int .i64 ys.kind,.string (str ys.reg),.string (str ys.name),(.slice A7 ys.e.length c7),(.slice A8 ys.f.length c8),.int .i64 ys.n,.int .i64 ys.body,.int .i64 ys.els,.int .i64 ys.pos] 31)).alloc (.cells #[.int .i64 xs.kind,.string (str xs.reg),.string (str xs.name),(.slice A5 xs.e.length c5),(.slice A6 xs.f.length c6),.int .i64 xs.n,.int .i64 xs.body,.int .i64 xs.els,.int .i64 xs.pos] 31)).drew) wr.heap.size ys (.slice A7 ys.e.length c7) (.slice A8 ys.f.length c8)):=(((sb_new wr ys (.slice A7 ys.e.length c7) (.slice A8 ys.f.length c8)).keep (g:=wr.heap.size+1) (Keep.of (al _ _)) (by omega))).drewN 1
      have HX:Hid (SB (((wr.alloc (.cells #[.int .i64 ys.kind,.string (str ys.reg),.string (str ys.name),(.slice A7 ys.e.length c7),(.slice A8 ys.f.length c8),.int .i64 ys.n,.int .i64 ys.body,.int .i64 ys.els,.int .i64 ys.pos] 31)).alloc (.cells #[.int .i64 xs.kind,.string (str xs.reg),.string (str xs.name),(.slice A5 xs.e.length c5),(.slice A6 xs.f.length c6),.int .i64 xs.n,.int .i64 xs.body,.int .i64 xs.els,.int .i64 xs.pos] 31)).drew) (wr.heap.size+1) xs (.slice A5 xs.e.length c5) (.slice A6 xs.f.length c6)):=by
       have h:=(sb_new (wr.alloc (.cells #[.int .i64 ys.kind,.string (str ys.reg),.string (str ys.name),(.slice A7 ys.e.length c7),(.slice A8 ys.f.length c8),.int .i64 ys.n,.int .i64 ys.body,.int .i64 ys.els,.int .i64 ys.pos] 31)) xs (.slice A5 xs.e.length c5) (.slice A6 xs.f.length c6)).drewN 1
       rw [World.size_alloc] at h
       exact h
      have HBY:Hid (Below wr.heap.size wr (((wr.alloc (.cells #[.int .i64 ys.kind,.string (str ys.reg),.string (str ys.name),(.slice A7 ys.e.length c7),(.slice A8 ys.f.length c8),.int .i64 ys.n,.int .i64 ys.body,.int .i64 ys.els,.int .i64 ys.pos] 31)).alloc (.cells #[.int .i64 xs.kind,.string (str xs.reg),.string (str xs.name),(.slice A5 xs.e.length c5),(.slice A6 xs.f.length c6),.int .i64 xs.n,.int .i64 xs.body,.int .i64 xs.els,.int .i64 xs.pos] 31)).drew)):=bdr (bt (al _ _) (al _ _))
      (try go_wp2_with fail)
      go_meet
      exact ⟨_,_,rfl,rfl,HX.out,HY.out,HBY.out⟩
    case rest =>
     obtain ⟨p,q,rfl,rfl,hX,hY,hBY⟩:=hcut
     have HX:=Lib.hid hX
     have HY:=Lib.hid hY
     have HBY:=Lib.hid hBY
     clear hX hY hBY hx0 hx1 hx2 hx3 hx4 hx5 hx6 hx7 hx8 hy0 hy1 hy2 hy3 hy4 hy5 hy6 hy7 hy8 hb1l hb2l
     have HS:Hid (∀ u,Below wc.heap.size wc u→((fun u=>u.cell? ⟨p,0,none⟩=some (.int .i64 xs.kind)∧u.cell? ⟨p,1,none⟩=some (.string (str xs.reg))∧u.cell? ⟨p,2,none⟩=some (.string (str xs.name))∧u.cell? ⟨p,3,none⟩=some (.slice A5 xs.e.length c5)∧u.cell? ⟨p,4,none⟩=some (.slice A6 xs.f.length c6)∧u.cell? ⟨p,5,none⟩=some (.int .i64 xs.n)∧u.cell? ⟨p,6,none⟩=some (.int .i64 xs.body)∧u.cell? ⟨p,7,none⟩=some (.int .i64 xs.els)∧u.cell? ⟨p,8,none⟩=some (.int .i64 xs.pos)∧u.cell? ⟨q,0,none⟩=some (.int .i64 ys.kind)∧u.cell? ⟨q,1,none⟩=some (.string (str ys.reg))∧u.cell? ⟨q,2,none⟩=some (.string (str ys.name))∧u.cell? ⟨q,3,none⟩=some (.slice A7 ys.e.length c7)∧u.cell? ⟨q,4,none⟩=some (.slice A8 ys.f.length c8)∧u.cell? ⟨q,5,none⟩=some (.int .i64 ys.n)∧u.cell? ⟨q,6,none⟩=some (.int .i64 ys.body)∧u.cell? ⟨q,7,none⟩=some (.int .i64 ys.els)∧u.cell? ⟨q,8,none⟩=some (.int .i64 ys.pos)) u)):=fun u hu=>by
      have hX:=HX.out.below hu
      have hY:=HY.out.below hu
      exact ⟨hX.c0,hX.c1,hX.c2,hX.c3,hX.c4,hX.c5,hX.c6,hX.c7,hX.c8,hY.c0,hY.c1,hY.c2,hY.c3,hY.c4,hY.c5,hY.c6,hY.c7,hY.c8⟩
     have hN:=sameStB_eq pl xs ys
     obtain ⟨bE,hbE⟩:∃ bE,sameE pl xs.e ys.e=bE:=⟨_,rfl⟩
     obtain ⟨bF,hbF⟩:∃ bF,sameE pl xs.f ys.f=bF:=⟨_,rfl⟩
     have HSE:Hid (∀ u,Below wc.heap.size wc u→Calls Tryz.prog 28 #[.slice A5 xs.e.length c5,.slice A7 ys.e.length c7,.bool pl] u fun e w'=>e = .returned (.bool bE)∧Below u.heap.size u w'):=fun u hu=>by
      rw [← hbE]
      have hb:=bt HBY.out hu
      exact rsame_c xs.e ys.e HLX.out.1 HLY.out.1 _ _ pl u (SlN.below (SlN.below HNX.out.1 HBW.out) hb) (SlN.below (SlN.below HNY.out.1 HBW.out) hb)
     have HSF:Hid (∀ u,Below wc.heap.size wc u→Calls Tryz.prog 28 #[.slice A6 xs.f.length c6,.slice A8 ys.f.length c8,.bool pl] u fun e w'=>e = .returned (.bool bF)∧Below u.heap.size u w'):=fun u hu=>by
      rw [← hbF]
      have hb:=bt HBY.out hu
      exact rsame_c xs.f ys.f HLX.out.2 HLY.out.2 _ _ pl u (SlN.below (SlN.below HNX.out.2 HBW.out) hb) (SlN.below (SlN.below HNY.out.2 HBW.out) hb)
     rw [hbE,hbF] at hN
     clear hbE hbF
     obtain ⟨ql,q0,q1,q2,q3,q4,q5,q6,q7,q8,qfr⟩:=HX.out
     obtain ⟨rl,r0,r1,r2,r3,r4,r5,r6,r7,r8,rfr⟩:=HY.out
     clear ql qfr rl rfr
     cases e0:(xs.kind == ys.kind)
     ·have e0n:(xs.kind != ys.kind)=true:=by unfold bne;rw [e0];rfl
      have HR:Hid (sameSt pl xs ys=false):=by show _=_;rw [hN,e0];rfl
      clear hN
      go_wp2_with fail
      all_goals
       go_ret
       exact ⟨ret_bool (HF.out HR.out).symm,bt HBW.out HBY.out⟩
     ·have e0n:(xs.kind != ys.kind)=false:=by unfold bne;rw [e0];rfl
      cases e1:((str xs.reg).toList == (str ys.reg).toList)
      ·have e1n:((str xs.reg).toList != (str ys.reg).toList)=true:=by unfold bne;rw [e1];rfl
       have HR:Hid (sameSt pl xs ys=false):=by show _=_;rw [hN,e0,e1];rfl
       clear hN
       go_wp2_with fail
       all_goals
        go_ret
        exact ⟨ret_bool (HF.out HR.out).symm,bt HBW.out HBY.out⟩
      ·have e1n:((str xs.reg).toList != (str ys.reg).toList)=false:=by unfold bne;rw [e1];rfl
       cases e2:((str xs.name).toList == (str ys.name).toList)
       ·have e2n:((str xs.name).toList != (str ys.name).toList)=true:=by unfold bne;rw [e2];rfl
        have HR:Hid (sameSt pl xs ys=false):=by show _=_;rw [hN,e0,e1,e2];rfl
        clear hN
        go_wp2_with fail
        all_goals
         go_ret
         exact ⟨ret_bool (HF.out HR.out).symm,bt HBW.out HBY.out⟩
       ·have e2n:((str xs.name).toList != (str ys.name).toList)=false:=by unfold bne;rw [e2];rfl
        cases e3:(xs.n == ys.n)
        ·have e3n:(xs.n != ys.n)=true:=by unfold bne;rw [e3];rfl
         have HR:Hid (sameSt pl xs ys=false):=by show _=_;rw [hN,e0,e1,e2,e3];rfl
         clear hN
         go_wp2_with fail
         all_goals
          go_ret
          exact ⟨ret_bool (HF.out HR.out).symm,bt HBW.out HBY.out⟩
        ·have e3n:(xs.n != ys.n)=false:=by unfold bne;rw [e3];rfl
         cases e4:(xs.body == ys.body)
         ·have e4n:(xs.body != ys.body)=true:=by unfold bne;rw [e4];rfl
          have HR:Hid (sameSt pl xs ys=false):=by show _=_;rw [hN,e0,e1,e2,e3,e4];rfl
          clear hN
          go_wp2_with fail
          all_goals
           go_ret
           exact ⟨ret_bool (HF.out HR.out).symm,bt HBW.out HBY.out⟩
         ·have e4n:(xs.body != ys.body)=false:=by unfold bne;rw [e4];rfl
          cases e5:(xs.els == ys.els)
          ·have e5n:(xs.els != ys.els)=true:=by unfold bne;rw [e5];rfl
           have HR:Hid (sameSt pl xs ys=false):=by show _=_;rw [hN,e0,e1,e2,e3,e4,e5];rfl
           clear hN
           go_wp2_with fail
           all_goals
            go_ret
            exact ⟨ret_bool (HF.out HR.out).symm,bt HBW.out HBY.out⟩
          ·have e5n:(xs.els != ys.els)=false:=by unfold bne;rw [e5];rfl
           cases pl
           ·cases hbe:bE
            ·have HR:Hid (sameSt false xs ys=false):=by show _=_;rw [hN,e0,e1,e2,e3,e4,e5,hbe];rfl
             rw [hbe] at HSE
             clear hN hbe
             go_wp2_with (first | (go_at_call 28;(with_reducible refine (HSE.out _ (Below.refl _ _)).mono ?_);rintro e w3 ⟨rfl,hb3⟩;have hc4:=hb3.cell (p:=⟨p,4,none⟩) HX.out.lt;have hd4:=hb3.cell (p:=⟨q,4,none⟩) HY.out.lt) | (go_at_call 28;(with_reducible refine (HSF.out _ hb3).mono ?_);rintro e w4 ⟨rfl,hb4⟩))
             go_ret
             exact ⟨ret_bool (HF.out HR.out).symm,bt HBW.out (bt HBY.out hb3)⟩
            ·have HR:Hid (sameSt false xs ys=bF):=by show _=_;rw [hN,e0,e1,e2,e3,e4,e5,hbe];rfl
             rw [hbe] at HSE
             clear hN hbe
             cases hbf:bF
             ·rw [hbf] at HSF HR
              clear hbf
              go_wp2_with (first | (go_at_call 28;(with_reducible refine (HSE.out _ (Below.refl _ _)).mono ?_);rintro e w3 ⟨rfl,hb3⟩;have hc4:=hb3.cell (p:=⟨p,4,none⟩) HX.out.lt;have hd4:=hb3.cell (p:=⟨q,4,none⟩) HY.out.lt) | (go_at_call 28;(with_reducible refine (HSF.out _ hb3).mono ?_);rintro e w4 ⟨rfl,hb4⟩))
              go_ret
              exact ⟨ret_bool (HF.out HR.out).symm,bt HBW.out (bt HBY.out (bt hb3 hb4))⟩
             ·rw [hbf] at HSF HR
              clear hbf
              go_wp2_with (first | (go_at_call 28;(with_reducible refine (HSE.out _ (Below.refl _ _)).mono ?_);rintro e w3 ⟨rfl,hb3⟩;have hc4:=hb3.cell (p:=⟨p,4,none⟩) HX.out.lt;have hd4:=hb3.cell (p:=⟨q,4,none⟩) HY.out.lt) | (go_at_call 28;(with_reducible refine (HSF.out _ hb3).mono ?_);rintro e w4 ⟨rfl,hb4⟩))
              go_roundw
              case rel =>
               refine ⟨bt HBW.out (bt HBY.out (bt hb3 hb4)),j+1,by omega,by go_num,fun j' hlt=>?_⟩
               by_cases hjj:j' < j
               ·exact HALL.out j' hjj
               ·exact HT.out HR.out j' (by omega)
              case measure=>simp [intOf];omega
           ·cases e6:(xs.pos == ys.pos)
            ·have e6n:(xs.pos != ys.pos)=true:=by unfold bne;rw [e6];rfl
             have HR:Hid (sameSt true xs ys=false):=by show _=_;rw [hN,e0,e1,e2,e3,e4,e5,e6];rfl
             clear hN
             go_wp2_with fail
             all_goals
              go_ret
              exact ⟨ret_bool (HF.out HR.out).symm,bt HBW.out HBY.out⟩
            ·have e6n:(xs.pos != ys.pos)=false:=by unfold bne;rw [e6];rfl
             cases hbe:bE
             ·have HR:Hid (sameSt true xs ys=false):=by show _=_;rw [hN,e0,e1,e2,e3,e4,e5,e6,hbe];rfl
              rw [hbe] at HSE
              clear hN hbe
              go_wp2_with (first | (go_at_call 28;(with_reducible refine (HSE.out _ (Below.refl _ _)).mono ?_);rintro e w3 ⟨rfl,hb3⟩;have hc4:=hb3.cell (p:=⟨p,4,none⟩) HX.out.lt;have hd4:=hb3.cell (p:=⟨q,4,none⟩) HY.out.lt) | (go_at_call 28;(with_reducible refine (HSF.out _ hb3).mono ?_);rintro e w4 ⟨rfl,hb4⟩))
              go_ret
              exact ⟨ret_bool (HF.out HR.out).symm,bt HBW.out (bt HBY.out hb3)⟩
             ·have HR:Hid (sameSt true xs ys=bF):=by show _=_;rw [hN,e0,e1,e2,e3,e4,e5,e6,hbe];rfl
              rw [hbe] at HSE
              clear hN hbe
              cases hbf:bF
              ·rw [hbf] at HSF HR
               clear hbf
               go_wp2_with (first | (go_at_call 28;(with_reducible refine (HSE.out _ (Below.refl _ _)).mono ?_);rintro e w3 ⟨rfl,hb3⟩;have hc4:=hb3.cell (p:=⟨p,4,none⟩) HX.out.lt;have hd4:=hb3.cell (p:=⟨q,4,none⟩) HY.out.lt) | (go_at_call 28;(with_reducible refine (HSF.out _ hb3).mono ?_);rintro e w4 ⟨rfl,hb4⟩))
               go_ret
               exact ⟨ret_bool (HF.out HR.out).symm,bt HBW.out (bt HBY.out (bt hb3 hb4))⟩
              ·rw [hbf] at HSF HR
               clear hbf
               go_wp2_with (first | (go_at_call 28;(with_reducible refine (HSE.out _ (Below.refl _ _)).mono ?_);rintro e w3 ⟨rfl,hb3⟩;have hc4:=hb3.cell (p:=⟨p,4,none⟩) HX.out.lt;have hd4:=hb3.cell (p:=⟨q,4,none⟩) HY.out.lt) | (go_at_call 28;(with_reducible refine (HSF.out _ hb3).mono ?_);rintro e w4 ⟨rfl,hb4⟩))
               go_roundw
               case rel =>
                refine ⟨bt HBW.out (bt HBY.out (bt hb3 hb4)),j+1,by omega,by go_num,fun j' hlt=>?_⟩
                by_cases hjj:j' < j
                ·exact HALL.out j' hjj
                ·exact HT.out HR.out j' (by omega)
               case measure=>simp [intOf];omega
   ·have HY:=Lib.hid (sameS_yes (b:=pl) HL.out (fun i hi=>HALL.out i (by omega)))
    go_wp2_with fail
    go_ret
    exact ⟨ret_bool HY.out.symm,HBW.out⟩
 ·have hle:((a.length:Int) == (b.length:Int))=false:=by rw [beq_eq_false_iff_ne];omega
  have hln:((a.length:Int) != (b.length:Int))=true:=by rw [bne_iff_ne];omega
  have HN:=Lib.hid (sameS_len (b:=pl) (show (a.map (·.s)).length≠(b.map (·.s)).length by rw [List.length_map,List.length_map];exact hl))
  go_enter Tryz.func13,Tryz.ntmps13
  go_wp2_with fail
  go_ret
  exact ⟨ret_bool HN.out.symm,Below.refl _ _⟩
end Go.Proofs.YtaoeaaebafcegaaGreatDoor

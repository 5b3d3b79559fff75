/- Chapter 04 (statements), joined: StrM. -/
import Derived.Test.YtaoeaaebafcegaaGreatDoorPkA28
import Derived.Test.YtaoeaaebafcegaaGreatDoorPkA29
import Derived.Test.YtaoeaaebafcegaaGreatDoorPkA34
import Derived.Test.YtaoeaaebafcegaaGreatDoorPkA35
set_option maxRecDepth 100000
set_option maxHeartbeats 4000000
namespace Go.Proofs.YtaoeaaebafcegaaGreatDoor
open Go Go.RowKit
set_option linter.unusedVariables false
structure SvB (x:St):Prop where
 r:x.reg.length≤1000000
 nm:x.name.length≤1000000
 e:x.e.length≤100000
 f:x.f.length≤100000
 en:∀ y∈x.e,y.name.length≤1000000
 fn:∀ y∈x.f,y.name.length≤1000000
theorem rfits_c (x:St) (hx:SvB x) (ev fv:Value) (w:World) (he:Nods w ev x.e) (hf:Nods w fv x.f) :
 Calls Tryz.prog 33 #[stV x ev fv] w fun e w'=>e = .returned (.bool (fitsS x))∧Below w.heap.size w w':=by
 by_cases h:x.kind < 1∨14 < x.kind∨x.pos < 0∨4000 < x.pos
 ·exact fits_out x ev fv w he hf h
 ·exact fits_in x ev fv w hx.r hx.nm hx.e hx.f hx.en hx.fn he hf (by omega) (by omega) (by omega) (by omega)
theorem oddC_of (l:List Sv) (hl:∀ x∈l,SvB x.s) (w:World) (hn:∀ x∈l,Nods w x.ev x.s.e∧Nods w x.fv x.s.f) (hE:Env w):OddC l w:=fun x hx u hu =>
 oddS_c x.s x.ev x.fv u (hl x hx).r (hl x hx).nm (hl x hx).e (hl x hx).f (hl x hx).en (hl x hx).fn (SlN.below (hn x hx).1 hu) (SlN.below (hn x hx).2 hu) (hE.below hu)
theorem rightS_dp (l:List St):rightS l=(decide (l.length≤40) && l.all fitsS && decide (0≤dpS false l) && decide (dpS false l≤12)):=rfl
theorem all_map (pl:List Sv):(pl.map (·.s)).all fitsS=pl.all (fun x=>fitsS x.s):=by rw [List.all_map];rfl
theorem RightS_c (pl:List Sv) (hl:pl.length≤100000) (hB:∀ x∈pl,SvB x.s) (v:Value) (w:World) (hv:Svs w v pl) (hE:Env w) :
 Calls Tryz.prog 16 #[v] w fun e w'=>e = .returned (.bool (rightS (pl.map (·.s))))∧Below w.heap.size w w':=by
 have hR:=rightS_dp (pl.map (·.s))
 rw [all_map,List.length_map] at hR
 obtain ⟨A0,c0,rfl,hc0⟩:=hv.shape
 by_cases h40:40 < pl.length
 ·have HR:Hid (rightS (pl.map (·.s))=false):=by show _=_;rw [hR,decide_eq_false (by omega)];rfl
  have h40':decide ((40:Int) < (pl.length:Int))=true:=by simp;omega
  clear hE hv hB hR
  go_enter Tryz.func16,Tryz.ntmps16
  go_wp2_with fail
  go_ret
  exact ⟨ret_bool HR.out.symm,Below.refl _ _⟩
 ·have h40':decide ((40:Int) < (pl.length:Int))=false:=by simp;omega
  have HC:=Lib.hid (containsS_c pl hl _ w hv (oddC_of pl hB w hv.2 hE))
  have hd:=pdeepS_c pl (by omega) (.slice A0 pl.length c0)
  rw [decide_eq_true (by omega:pl.length≤40)] at hR
  have hge:=dpS_ge false (pl.map (·.s))
  have HD:Hid (∀ u,Below w.heap.size w u→Calls Tryz.prog 32 #[.slice A0 pl.length c0,.int .i64 0] u fun e w'=>e = .returned (.int .i64 (dpS false (pl.map (·.s))))∧Below u.heap.size u w'):=fun u hu=>hd u (hv.below hu)
  clear hE hv hB hd
  generalize dpS false (pl.map (·.s))=d at hR HD hge
  cases ha:pl.all (fun x=>fitsS x.s)
  ·rw [ha] at HC hR
   have HR:Hid (rightS (pl.map (·.s))=false):=hR
   clear hR ha HD
   go_enter Tryz.func16,Tryz.ntmps16
   go_wp2_with (go_at_call 30;(with_reducible refine (HC.out).mono ?_);rintro e w1 ⟨rfl,hb1⟩)
   go_ret
   exact ⟨ret_bool HR.out.symm,hb1⟩
  ·rw [ha] at HC hR
   by_cases hd1:d = -1
   ·subst hd1
    have HR:Hid (rightS (pl.map (·.s))=false):=hR
    clear hR ha hge
    go_enter Tryz.func16,Tryz.ntmps16
    go_wp2_with (first | (go_at_call 30;(with_reducible refine (HC.out).mono ?_);rintro e w1 ⟨rfl,hb1⟩) | (go_at_call 32;(with_reducible refine (HD.out _ hb1).mono ?_);rintro e w2 ⟨rfl,hb2⟩))
    go_ret
    exact ⟨ret_bool HR.out.symm,bt hb1 hb2⟩
   ·have hne:(d != -1)=true:=by simpa using hd1
    rw [decide_eq_true (by omega:0≤d)] at hR
    have HR:Hid (rightS (pl.map (·.s))=decide (d≤12)):=by show _=_;rw [hR];rfl
    clear hR ha hge
    go_enter Tryz.func16,Tryz.ntmps16
    go_wp2_with (first | (go_at_call 30;(with_reducible refine (HC.out).mono ?_);rintro e w1 ⟨rfl,hb1⟩) | (go_at_call 32;(with_reducible refine (HD.out _ hb1).mono ?_);rintro e w2 ⟨rfl,hb2⟩))
    go_ret
    exact ⟨ret_bool HR.out.symm,bt hb1 hb2⟩
theorem depthS_dp (l:List St):depthS l=if rightS l=true then dpS false l else -1:=rfl
theorem DepthS_c (pl:List Sv) (hl:pl.length≤100000) (hB:∀ x∈pl,SvB x.s) (v:Value) (w:World) (hv:Svs w v pl) (hE:Env w) :
 Calls Tryz.prog 20 #[v] w fun e w'=>e = .returned (.int .i64 (depthS (pl.map (·.s))))∧Below w.heap.size w w':=by
 have HC:=Lib.hid (RightS_c pl hl hB v w hv hE)
 have hdp:=depthS_dp (pl.map (·.s))
 obtain ⟨A0,c0,rfl,hc0⟩:=hv.shape
 cases hr:rightS (pl.map (·.s))
 ·rw [hr] at HC
  rw [hr,if_neg (by decide)] at hdp
  have HR:=Lib.hid hdp
  clear hE hv hB hdp hr
  go_enter Tryz.func20,Tryz.ntmps20
  go_wp2_with (go_at_call 16;(with_reducible refine (HC.out).mono ?_);rintro e w1 ⟨rfl,hb1⟩)
  go_ret
  exact ⟨ret_int HR.out.symm,hb1⟩
 ·have h40:pl.length≤40:=by have:=((rightS_iff _).1 hr).1;simpa using this
  have hd:=pdeepS_c pl h40 (.slice A0 pl.length c0)
  have HD:Hid (∀ u,Below w.heap.size w u→Calls Tryz.prog 32 #[.slice A0 pl.length c0,.int .i64 0] u fun e w'=>e = .returned (.int .i64 (dpS false (pl.map (·.s))))∧Below u.heap.size u w'):=fun u hu=>hd u (hv.below hu)
  rw [hr] at HC
  rw [hr,if_pos rfl] at hdp
  have HR:=Lib.hid hdp
  clear hE hv hB hdp hr hd
  go_enter Tryz.func20,Tryz.ntmps20
  go_wp2_with (first | (go_at_call 16;(with_reducible refine (HC.out).mono ?_);rintro e w1 ⟨rfl,hb1⟩) | (go_at_call 32;(with_reducible refine (HD.out _ hb1).mono ?_);rintro e w2 ⟨rfl,hb2⟩))
  go_ret
  exact ⟨ret_int HR.out.symm,bt hb1 hb2⟩
theorem rRightS_c (pl:List Sv) (hl:pl.length≤100000) (hB:∀ x∈pl,SvB x.s) (v:Value) (w:World) (hv:Svs w v pl) :
 Calls Tryz.prog 17 #[v] w fun e w'=>e = .returned (.bool (rightS (pl.map (·.s))))∧Below w.heap.size w w':=by
 have hR:=rightS_dp (pl.map (·.s))
 rw [all_map,List.length_map] at hR
 obtain ⟨A0,c0,rfl,hc0⟩:=hv.shape
 by_cases h40:40 < pl.length
 ·have HR:Hid (rightS (pl.map (·.s))=false):=by show _=_;rw [hR,decide_eq_false (by omega)];rfl
  have h40':decide ((40:Int) < (pl.length:Int))=true:=by simp;omega
  clear hv hB hR
  go_enter Tryz.func17,Tryz.ntmps17
  go_wp2_with fail
  go_ret
  exact ⟨ret_bool HR.out.symm,Below.refl _ _⟩
 ·have h40':decide ((40:Int) < (pl.length:Int))=false:=by simp;omega
  have hd:=rdeepS_c pl (by omega) (.slice A0 pl.length c0)
  rw [decide_eq_true (by omega:pl.length≤40)] at hR
  have hge:=dpS_ge false (pl.map (·.s))
  have HD:Hid (∀ u,Below w.heap.size w u→Calls Tryz.prog 34 #[.slice A0 pl.length c0,.int .i64 0] u fun e w'=>e = .returned (.int .i64 (dpS false (pl.map (·.s))))∧Below u.heap.size u w'):=fun u hu=>hd u (hv.below hu)
  have HF:Hid (∀ x∈pl,∀ u,Below w.heap.size w u→Calls Tryz.prog 33 #[stV x.s x.ev x.fv] u fun e w'=>e = .returned (.bool (fitsS x.s))∧Below u.heap.size u w'):=fun x hx u hu=>rfits_c x.s (hB x hx) x.ev x.fv u (SlN.below (hv.2 x hx).1 hu) (SlN.below (hv.2 x hx).2 hu)
  have HV:=Lib.hid hv
  have HRR:=Lib.hid hR
  have HGE:=Lib.hid hge
  clear hv hB hd hR hge
  generalize dpS false (pl.map (·.s))=d at HRR HD HGE
  generalize rightS (pl.map (·.s))=R at HRR
  go_enter Tryz.func17,Tryz.ntmps17
  go_wp2_with fail
  go_loopw [3] (fun k wr=>∃ j:Nat,j≤pl.length∧k = .int .i64 j∧Below w.heap.size w wr∧Hid (∀ j' (h:j' < pl.length),j' < j→fitsS (pl[j']).s=true)) (fun k _=>pl.length - (intOf k).toNat)
  case atStart=>exact ⟨0,Nat.zero_le _,rfl,Below.refl _ _,fun j' _ h=>absurd h (by omega)⟩
  case round =>
   obtain ⟨j,hj,rfl,hb,HNO⟩:=hrel
   have HB:=Lib.hid hb
   by_cases hjl:j < pl.length
   ·obtain ⟨b,off,c,hE0,hcc,hbt,hat⟩:=HV.out.at_ (by omega)
    cases hE0
    have x1:=hat j hjl
    obtain ⟨hx0,hx1,hx2,hx3,hx4,hx5,hx6,hx7,hx8⟩:=x1.below hb hbt
    have HNX:=Lib.hid (HV.out.2 _ (List.getElem_mem hjl))
    have HCJ:=Lib.hid (HF.out (pl[j]) (List.getElem_mem hjl) wr hb)
    clear hb hat x1
    have hjl2:(j:Int) < (pl.length:Int):=by omega
    cases his:fitsS (pl[j]).s
    ·have HR:Hid (R=false):=by
      show _=_
      have:pl.all (fun x=>fitsS x.s)=false:=by
       rw [Bool.eq_false_iff]
       intro h
       rw [List.all_eq_true] at h
       rw [h _ (List.getElem_mem hjl)] at his;cases his
      rw [HRR.out,this];rfl
     rw [his] at HCJ
     clear his
     generalize pl[j] = x at hx0 hx1 hx2 hx3 hx4 hx5 hx6 hx7 hx8 HCJ HNX
     obtain ⟨xs,xe,xf⟩:=x
     have hnx:=HNX.out
     unfold stV at HCJ
     dsimp only at hnx hx0 hx1 hx2 hx3 hx4 hx5 hx6 hx7 hx8 HCJ
     obtain ⟨A5,c5,rfl,_⟩:=Nods.shape hnx.1
     obtain ⟨A6,c6,rfl,_⟩:=Nods.shape hnx.2
     clear hnx HNX
     go_wp2_with (go_at_call 33;(with_reducible refine (HCJ.out).mono ?_);rintro e w2 ⟨rfl,hb2⟩)
     go_ret
     exact ⟨ret_bool HR.out.symm,bt HB.out hb2⟩
    ·have HF2:Hid (∀ j' (h:j' < pl.length),j' < j+1→fitsS (pl[j']).s=true):=fun j' h hlt=>by
      by_cases hjj:j' < j
      ·exact HNO.out j' h hjj
      ·obtain rfl:j' = j:=by omega
       exact his
     rw [his] at HCJ
     clear his
     generalize pl[j] = x at hx0 hx1 hx2 hx3 hx4 hx5 hx6 hx7 hx8 HCJ HNX
     obtain ⟨xs,xe,xf⟩:=x
     have hnx:=HNX.out
     unfold stV at HCJ
     dsimp only at hnx hx0 hx1 hx2 hx3 hx4 hx5 hx6 hx7 hx8 HCJ
     obtain ⟨A5,c5,rfl,_⟩:=Nods.shape hnx.1
     obtain ⟨A6,c6,rfl,_⟩:=Nods.shape hnx.2
     clear hnx HNX
     go_wp2_with (go_at_call 33;(with_reducible refine (HCJ.out).mono ?_);rintro e w2 ⟨rfl,hb2⟩)
     go_roundw
     case rel=>exact ⟨j+1,by omega,by go_num,bt HB.out hb2,HF2⟩
     case measure=>simp [intOf];omega
   ·have HA:Hid (R=(decide (0≤d) && decide (d≤12))):=by
     show _=_
     have:pl.all (fun x=>fitsS x.s)=true:=by
      rw [List.all_eq_true]
      intro x hx
      obtain ⟨j',hj',rfl⟩:=List.mem_iff_getElem.1 hx
      exact HNO.out j' hj' (by omega)
     rw [HRR.out,this];rfl
    clear HRR
    cases hd0:decide (0≤d)
    ·go_wp2_with (go_at_call 34;(with_reducible refine (HD.out _ HB.out).mono ?_);rintro e w2 ⟨rfl,hb2⟩)
     go_ret
     exact ⟨ret_bool (by rw [HA.out,hd0];rfl),bt HB.out hb2⟩
    ·go_wp2_with (go_at_call 34;(with_reducible refine (HD.out _ HB.out).mono ?_);rintro e w2 ⟨rfl,hb2⟩)
     go_ret
     exact ⟨ret_bool (by rw [HA.out,hd0];rfl),bt HB.out hb2⟩
end Go.Proofs.YtaoeaaebafcegaaGreatDoor

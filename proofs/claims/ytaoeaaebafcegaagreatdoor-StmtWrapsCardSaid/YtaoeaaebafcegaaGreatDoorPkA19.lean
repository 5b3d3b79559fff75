/- Chapter 04 (statements), joined: RgA, ShwA. -/
import Derived.Test.YtaoeaaebafcegaaGreatDoorPkA09
import Derived.Test.YtaoeaaebafcegaaGreatDoorPkA15
import Derived.Lib.AtoiErrMem
set_option maxRecDepth 100000
set_option maxHeartbeats 16000000
namespace Go.Proofs.YtaoeaaebafcegaaGreatDoor
open Go Go.RowKit
set_option linter.unusedVariables false
def nodV (x:Nod):Value:=.agg #[.int .i64 x.op,.int .i64 x.n,.string (str x.name),.int .i64 x.pos]
theorem may_c (x:Nod) (hx:x.name.length≤1000000) (w:World) (hE:Env w) :
 Calls Tryz.prog 85 #[nodV x] w fun e w'=>e = .returned (.bool (mayE x))∧Below w.heap.size w w':=by
 have hnm:(x.name == [])=((str x.name).toList == []):=by rw [str_toList]
 have HN:Hid (∀ u,Below w.heap.size w u→Calls Tryz.prog 58 #[.string (str x.name)] u (NamePost x.name u)):=fun u hu=>name_c x.name hx u (hE.below hu)
 unfold NamePost at HN
 clear hE
 by_cases h1:x.pos < 0
 ·have hR:mayE x=false:=by unfold mayE;rw [if_pos (by simp [h1])]
  have HR:=Lib.hid hR
  have hd:decide (x.pos < 0)=true:=by simp [h1]
  clear hR hnm
  unfold nodV
  go_enter Tryz.func85,Tryz.ntmps85
  go_wp2_with fail
  go_ret
  exact ⟨ret_bool HR.out.symm,al _ _⟩
 ·have hd:decide (x.pos < 0)=false:=by simp [h1]
  by_cases h2:4000 < x.pos
  ·have hd2:decide ((4000:Int) < x.pos)=true:=by simp [h2]
   have hR:mayE x=false:=by unfold mayE;rw [if_pos (by simp [h2])]
   have HR:=Lib.hid (show mayE x=false from hR)
   clear hR hnm
   unfold nodV
   go_enter Tryz.func85,Tryz.ntmps85
   go_wp2_with fail
   go_ret
   exact ⟨ret_bool HR.out.symm,al _ _⟩
  ·have hd2:decide ((4000:Int) < x.pos)=false:=by simp [h2]
   by_cases o1:x.op=1
   ·have ho1:(x.op == 1)=true:=by simp [o1]
    have hM:mayE x=(decide (0≤x.n) && decide (x.n≤4294967296) && (x.name == [])):=by unfold mayE;rw [if_neg (by simp [h1,h2]),if_pos o1]
    rw [hnm] at hM
    cases n1:decide (0≤x.n)
    ·have hR:mayE x=false:=by rw [hM,n1];rfl
     have HR:=Lib.hid (show mayE x=false from hR)
     clear hR hnm hM
     unfold nodV
     go_enter Tryz.func85,Tryz.ntmps85
     go_wp2_with fail
     go_ret
     exact ⟨ret_bool HR.out.symm,al _ _⟩
    ·cases n2:decide (x.n≤4294967296)
     ·have hR:mayE x=false:=by rw [hM,n1,n2];rfl
      have HR:=Lib.hid (show mayE x=false from hR)
      clear hR hnm hM
      unfold nodV
      go_enter Tryz.func85,Tryz.ntmps85
      go_wp2_with fail
      go_ret
      exact ⟨ret_bool HR.out.symm,al _ _⟩
     ·have hR:mayE x=((str x.name).toList == []):=by rw [hM,n1,n2];rfl
      cases n3:((str x.name).toList == [])
      all_goals
       have hR2:=hR
       rw [n3] at hR2
       have HR:=Lib.hid hR2
       clear hR hR2 hnm hM
       unfold nodV
       go_enter Tryz.func85,Tryz.ntmps85
       go_wp2_with fail
       go_ret
       exact ⟨ret_bool HR.out.symm,al _ _⟩
   ·have ho1:(x.op == 1)=false:=by simp [o1]
    by_cases o2:x.op=2
    ·have ho2:(x.op == 2)=true:=by simp [o2]
     have hM:mayE x=((x.n == 0) && nameE x.name):=by unfold mayE;rw [if_neg (by simp [h1,h2]),if_neg o1,if_pos o2]
     cases n1:(x.n == 0)
     ·have hR:mayE x=false:=by rw [hM,n1];rfl
      have HR:=Lib.hid (show mayE x=false from hR)
      clear hR hnm hM
      unfold nodV
      go_enter Tryz.func85,Tryz.ntmps85
      go_wp2_with fail
      go_ret
      exact ⟨ret_bool HR.out.symm,al _ _⟩
     ·have hR:mayE x=nameE x.name:=by rw [hM,n1];rfl
      have HR:=Lib.hid (show mayE x=nameE x.name from hR)
      clear hR hnm hM
      unfold nodV
      go_enter Tryz.func85,Tryz.ntmps85
      go_wp2_with (go_at_call 58;refine (HN.out _ (al _ _)).mono ?_;rintro e w1 ⟨rfl,hb1⟩)
      go_ret
      exact ⟨ret_bool HR.out.symm,bt (al _ _) hb1⟩
    ·have ho2:(x.op == 2)=false:=by simp [o2]
     have hM:mayE x=((x.n == 0) && (x.name == [])):=by unfold mayE;rw [if_neg (by simp [h1,h2]),if_neg o1,if_neg o2]
     rw [hnm] at hM
     cases n1:(x.n == 0)
     ·have hR:mayE x=false:=by rw [hM,n1];rfl
      have HR:=Lib.hid (show mayE x=false from hR)
      clear hR hnm hM
      unfold nodV
      go_enter Tryz.func85,Tryz.ntmps85
      go_wp2_with fail
      go_ret
      exact ⟨ret_bool HR.out.symm,al _ _⟩
     ·have hR:mayE x=((str x.name).toList == []):=by rw [hM,n1];rfl
      cases n3:((str x.name).toList == [])
      all_goals
       have hR2:=hR
       rw [n3] at hR2
       have HR:=Lib.hid hR2
       clear hR hR2 hnm hM
       unfold nodV
       go_enter Tryz.func85,Tryz.ntmps85
       go_wp2_with fail
       go_ret
       exact ⟨ret_bool HR.out.symm,al _ _⟩
end Go.Proofs.YtaoeaaebafcegaaGreatDoor
namespace Go.Proofs.YtaoeaaebafcegaaGreatDoor
open Go Go.RowKit
set_option linter.unusedVariables false
theorem odd_c (x:Nod) (hx:x.name.length≤1000000) (w:World) (hE:Env w) :
 Calls Tryz.prog 84 #[nodV x] w fun e w'=>e = .returned (.bool (!mayE x))∧Below w.heap.size w w':=by
 have HM:Hid (∀ u,Below w.heap.size w u→Calls Tryz.prog 85 #[nodV x] u fun e w'=>e = .returned (.bool (mayE x))∧Below u.heap.size u w'):=fun u hu=>may_c x hx u (hE.below hu)
 generalize mayE x=m at HM
 clear hE
 unfold nodV at HM ⊢
 go_enter Tryz.func84,Tryz.ntmps84
 go_wp2_with (go_at_call 85;refine (HM.out _ (al _ _)).mono ?_;rintro e w1 ⟨rfl,hb1⟩)
 go_ret
 exact ⟨rfl,bt (al _ _) hb1⟩
theorem indexN_c (l:List Nod) (hl:l.length≤100000) (hn:∀ x∈l,x.name.length≤1000000) (v:Value) (w:World) (hv:Nods w v l) (hE:Env w) :
 Calls Tryz.prog 107 #[v,.func (.func 84) #[] #[]] w fun e w'=>Below w.heap.size w w'∧∃ z:Int,e = .returned (.int .i64 z)∧(decide (0≤z) = !l.all mayE):=by
 obtain ⟨A0,c0,rfl,hc0⟩:=hv.shape
 have HC:Hid (∀ x∈l,∀ u,Below w.heap.size w u→Calls Tryz.prog 84 #[nodV x] u fun e w'=>e = .returned (.bool (!mayE x))∧Below u.heap.size u w'):=fun x hx u hb=>odd_c x (hn x hx) u (hE.below hb)
 have HV:=Lib.hid hv
 clear hE hv hn
 go_enter Tryz.func107,Tryz.ntmps107
 go_wp2_with fail
 go_loopw [8] (fun k wr=>∃ j:Nat,j≤l.length∧k = .int .i64 j∧Below w.heap.size w wr∧∀ j' (h:j' < l.length),j' < j→mayE (l[j'])=true) (fun k _=>l.length - (intOf k).toNat)
 case atStart=>exact ⟨0,Nat.zero_le _,rfl,Below.refl _ _,fun j' _ h=>absurd h (by omega)⟩
 case round =>
  obtain ⟨j,hj,rfl,hb,hno⟩:=hrel
  have HNO:=Lib.hid hno
  have HB:=Lib.hid hb
  clear hno
  by_cases hjl:j < l.length
  ·obtain ⟨b,off,c,hE0,hcc,hbt,hat⟩:=HV.out.at_ (by omega)
   cases hE0
   have x1:=hat j hjl
   have hx0:=(hb.cell (p:=⟨_,_,none⟩) hbt).trans x1.op
   have hx1:=(hb.cell (p:=⟨_,_,none⟩) hbt).trans x1.n
   have hx2:=(hb.cell (p:=⟨_,_,none⟩) hbt).trans x1.name
   have hx3:=(hb.cell (p:=⟨_,_,none⟩) hbt).trans x1.pos
   have HCJ:=Lib.hid (HC.out (l[j]) (List.getElem_mem hjl) wr hb)
   clear hb hat x1
   have hjl2:(j:Int) < (l.length:Int):=by omega
   cases his:mayE (l[j])
   ·have HR:Hid (l.all mayE=false):=by
     show _=_
     rw [Bool.eq_false_iff]
     intro h
     rw [List.all_eq_true] at h
     rw [h _ (List.getElem_mem hjl)] at his;cases his
    rw [his] at HCJ
    clear his
    generalize l[j] = x at hx0 hx1 hx2 hx3 HCJ
    unfold nodV at HCJ
    go_wp2_with (go_at_call 84;refine (HCJ.out).mono ?_;rintro e w2 ⟨rfl,hb2⟩)
    go_ret
    exact ⟨bt HB.out hb2,j,rfl,by rw [HR.out];simp⟩
   ·have HF:Hid (∀ j' (h:j' < l.length),j' < j+1→mayE (l[j'])=true):=fun j' h hlt=>by
     by_cases hjj:j' < j
     ·exact HNO.out j' h hjj
     ·obtain rfl:j' = j:=by omega
      exact his
    rw [his] at HCJ
    clear his
    generalize l[j] = x at hx0 hx1 hx2 hx3 HCJ
    unfold nodV at HCJ
    go_wp2_with (go_at_call 84;refine (HCJ.out).mono ?_;rintro e w2 ⟨rfl,hb2⟩)
    go_roundw
    case rel=>exact ⟨j+1,by omega,by go_num,bt HB.out hb2,HF.out⟩
    case measure=>simp [intOf];omega
  ·have hje:j=l.length:=by omega
   have HY:Hid (l.all mayE=true):=by
    show _=_
    rw [List.all_eq_true]
    intro x hx
    obtain ⟨j',hj',rfl⟩:=List.mem_iff_getElem.1 hx
    exact HNO.out j' hj' (by omega)
   go_wp2_with fail
   go_ret
   exact ⟨HB.out,-1,rfl,by rw [HY.out];rfl⟩
theorem containsN_c (l:List Nod) (hl:l.length≤100000) (hn:∀ x∈l,x.name.length≤1000000) (v:Value) (w:World) (hv:Nods w v l) (hE:Env w) :
 Calls Tryz.prog 86 #[v,.func (.func 84) #[] #[]] w fun e w'=>e = .returned (.bool (!l.all mayE))∧Below w.heap.size w w':=by
 obtain ⟨A0,c0,rfl,hc0⟩:=hv.shape
 have HC:=Lib.hid (indexN_c l hl hn _ w hv hE)
 clear hE hv hn
 go_enter Tryz.func86,Tryz.ntmps86
 go_wp2_with (go_at_call 107;refine (HC.out).mono ?_;rintro e w1 ⟨hb1,z,rfl,hz⟩)
 go_ret
 first | exact ⟨ret_bool hz,hb1⟩ | exact ⟨rfl,hb1⟩
theorem Right_c (l : List Nod) (hl : l.length ≤ 100000) (hn : ∀ x ∈ l, x.name.length ≤ 1000000) (v : Value) (w : World) (hv : Nods w v l) (hE : Env w) :
    Calls Tryz.prog 60 #[v] w fun e w' => e = .returned (.bool (rightE l)) ∧ Below w.heap.size w w' := by
  obtain ⟨A0, c0, rfl, hc0⟩ := hv.shape
  by_cases h0 : l.length = 0
  · have HR : Hid (rightE l = false) := rightE_end (by rw [endE_out (.inr (by omega))]; omega)
    have hz : ((l.length : Int) == 0) = true := by simp [h0]
    clear hE hv hn
    go_enter Tryz.func60, Tryz.ntmps60
    go_wp2_with fail
    go_ret
    exact ⟨ret_bool HR.out.symm, Below.refl _ _⟩
  · have hz : ((l.length : Int) == 0) = false := by rw [beq_eq_false_iff_ne]; omega
    by_cases h40 : 40 < l.length
    · have HR : Hid (rightE l = false) := rightE_big h40
      have h40' : decide ((40 : Int) < (l.length : Int)) = true := by simp; omega
      clear hE hv hn
      go_enter Tryz.func60, Tryz.ntmps60
      go_wp2_with fail
      go_ret
      exact ⟨ret_bool HR.out.symm, Below.refl _ _⟩
    · have h40' : decide ((40 : Int) < (l.length : Int)) = false := by simp; omega
      have HC := Lib.hid (containsN_c l hl hn _ w hv hE)
      have HEnd : Hid (∀ u, Below w.heap.size w u → Calls Tryz.prog 87 #[.slice A0 l.length c0, .int .i64 0] u fun e w' => e = .returned (.int .i64 (endE l 0)) ∧ u = w') := fun u hu => end_c l _ u (hv.below hu) hl 0
      have HDep : Hid (∀ e : Ex, e.ok → l = e.flat → ∀ u, Below w.heap.size w u → Calls Tryz.prog 88 #[.slice A0 l.length c0, .int .i64 0] u fun r w' => r = .returned (.int .i64 e.deep) ∧ Below u.heap.size u w') := fun e he hle u hu => by
        subst hle
        exact depth_c e he _ u (hv.below hu) hl
      have hne0 := h0
      clear hE hv hn h0
      cases hm : l.all mayE
      · have HR := Lib.hid (rightE_may hm)
        rw [hm] at HC
        clear hm
        go_enter Tryz.func60, Tryz.ntmps60
        go_wp2_with (go_at_call 86; refine (HC.out).mono ?_; rintro e w1 ⟨rfl, hb1⟩)
        go_ret
        exact ⟨ret_bool HR.out.symm, hb1⟩
      · by_cases he : endE l 0 = (l.length : Int)
        · obtain ⟨t, ht, hlt, htr⟩ := treeE_of_end he
          have HR : Hid (rightE l = decide (t.deep ≤ 12)) := by
            show _ = _
            unfold rightE; rw [htr]; simp only; rw [hm, decide_eq_true (show l.length ≤ 40 by omega)]; rfl
          have HD := Lib.hid (HDep.out t ht hlt)
          rw [hm] at HC
          rw [he] at HEnd
          have hbe : ((l.length : Int) != (l.length : Int)) = false := by simp
          have hdc : decide ((t.deep : Int) ≤ 12) = decide (t.deep ≤ 12) := by rw [decide_eq_decide]; omega
          clear hm he hlt htr ht HDep
          generalize t.deep = d at HR HD hdc
          go_enter Tryz.func60, Tryz.ntmps60
          go_wp2_with (first
            | (go_at_call 86; refine (HC.out).mono ?_; rintro e w1 ⟨rfl, hb1⟩)
            | (go_at_call 87; refine (HEnd.out _ hb1).mono ?_; rintro e w2 ⟨rfl, rfl⟩)
            | (go_at_call 88; refine (HD.out _ hb1).mono ?_; rintro e w2 ⟨rfl, hb2⟩))
          go_ret
          first | exact ⟨ret_bool (hdc.trans HR.out.symm), bt hb1 hb2⟩ | exact ⟨ret_bool HR.out.symm, bt hb1 hb2⟩
        · have HR := Lib.hid (rightE_end he)
          have hbe : (endE l 0 != (l.length : Int)) = true := by rw [bne_iff_ne]; exact he
          rw [hm] at HC
          clear hm he HDep
          generalize endE l 0 = z at HEnd hbe
          go_enter Tryz.func60, Tryz.ntmps60
          go_wp2_with (first
            | (go_at_call 86; refine (HC.out).mono ?_; rintro e w1 ⟨rfl, hb1⟩)
            | (go_at_call 87; refine (HEnd.out _ hb1).mono ?_; rintro e w2 ⟨rfl, rfl⟩))
          go_ret
          exact ⟨ret_bool HR.out.symm, hb1⟩
end Go.Proofs.YtaoeaaebafcegaaGreatDoor
namespace Go.Proofs.YtaoeaaebafcegaaGreatDoor
open Go Go.RowKit
set_option linter.unusedVariables false
theorem mayE_eq (x:Nod):mayE x = !(decide (x.pos < 0) || decide (4000 < x.pos) || (!(x.op == 1) && !(x.n == 0)) || (!(x.op == 2) && !((str x.name).toList == [])) || decide (x.n < 0) || decide (4294967296 < x.n) || ((x.op == 2) && !nameE x.name)):=by
 rw [str_toList]
 unfold mayE
 by_cases h:(decide (x.pos < 0) || decide (4000 < x.pos))=true
 ·rw [if_pos h,h];rfl
 ·rw [if_neg h,Bool.eq_false_iff.2 h]
  by_cases h1:x.op=1
  ·rw [if_pos h1,h1]
   by_cases h2:x.name = []
   ·rw [h2,Bool.eq_iff_iff];simp
   ·rw [Bool.eq_iff_iff];simp [h2]
  ·have g1:(x.op == 1)=false:=by rw [beq_eq_false_iff_ne];exact h1
   rw [if_neg h1,g1]
   by_cases h2:x.op=2
   ·rw [if_pos h2,h2]
    by_cases h3:x.n=0
    ·rw [h3];simp
    ·have g3:(x.n == 0)=false:=by rw [beq_eq_false_iff_ne];exact h3
     rw [g3];simp
   ·have g2:(x.op == 2)=false:=by rw [beq_eq_false_iff_ne];exact h2
    rw [if_neg h2,g2]
    by_cases h3:x.n=0
    ·rw [h3];simp
    ·have g3:(x.n == 0)=false:=by rw [beq_eq_false_iff_ne];exact h3
     rw [g3];simp
theorem rRight_c (l:List Nod) (hl:l.length≤100000) (hn:∀ x∈l,x.name.length≤1000000) (v:Value) (w:World) (hv:Nods w v l) :
 Calls Tryz.prog 64 #[v] w fun e w'=>e = .returned (.bool (rightE l))∧Below w.heap.size w w':=by
 obtain ⟨A0,c0,rfl,hc0⟩:=hv.shape
 by_cases h40:40 < l.length
 ·have HR:Hid (rightE l=false):=rightE_big h40
  have h40':decide ((40:Int) < (l.length:Int))=true:=by simp;omega
  clear hv hn
  go_enter Tryz.func64,Tryz.ntmps64
  go_wp2_with fail
  go_ret
  exact ⟨ret_bool HR.out.symm,Below.refl _ _⟩
 ·have h40':decide ((40:Int) < (l.length:Int))=false:=by simp;omega
  have HEnd:Hid (∀ u,Below w.heap.size w u→Calls Tryz.prog 90 #[.slice A0 l.length c0,.int .i64 0] u fun e w'=>e = .returned (.int .i64 (endE l 0))∧u=w'):=fun u hu=>rend_c l _ u (hv.below hu) hl 0
  have HDep:Hid (∀ e:Ex,e.ok→l=e.flat→∀ u,Below w.heap.size w u→Calls Tryz.prog 91 #[.slice A0 l.length c0,.int .i64 0] u fun r w'=>r = .returned (.int .i64 e.deep)∧u=w'):=fun e he hle u hu=>by
   subst hle
   exact rdeep_c e he _ u (hv.below hu) hl
  by_cases he:endE l 0=(l.length:Int)
  ·obtain ⟨t,ht,hlt,htr⟩:=treeE_of_end he
   have HRR:Hid (l.all mayE=true→rightE l=decide (t.deep≤12)):=by
    show _→_
    intro hm
    unfold rightE;rw [htr];simp only;rw [hm,decide_eq_true (show l.length≤40 by omega)];rfl
   have HD:=Lib.hid (HDep.out t ht hlt)
   rw [he] at HEnd
   have hbe:((l.length:Int) != (l.length:Int))=false:=by simp
   have hdc:decide ((t.deep:Int)≤12)=decide (t.deep≤12):=by rw [decide_eq_decide];omega
   have HV:=Lib.hid hv
   have HN:=Lib.hid hn
   clear he hlt htr ht HDep hv hn
   generalize t.deep=d at HRR HD hdc
   go_enter Tryz.func64,Tryz.ntmps64
   go_wp2_with (go_at_call 90;refine (HEnd.out _ (Below.refl _ _)).mono ?_;rintro e w2 ⟨rfl,rfl⟩)
   go_loopw [3] (fun k wr=>∃ j:Nat,j≤l.length∧k = .int .i64 j∧Below w.heap.size w wr∧∀ j' (h:j' < l.length),j' < j→mayE (l[j'])=true) (fun k _=>l.length - (intOf k).toNat)
   case atStart=>exact ⟨0,Nat.zero_le _,rfl,Below.refl _ _,fun j' _ h=>absurd h (by omega)⟩
   case round =>
    obtain ⟨j,hj,rfl,hb,hno⟩:=hrel
    have HNO:=Lib.hid hno
    have HB:=Lib.hid hb
    clear hno
    by_cases hjl:j < l.length
    ·obtain ⟨b,off,c,hE0,hcc,hbt,hat⟩:=HV.out.at_ (by omega)
     cases hE0
     have x1:=hat j hjl
     have hx0:=(hb.cell (p:=⟨_,_,none⟩) hbt).trans x1.op
     have hx1:=(hb.cell (p:=⟨_,_,none⟩) hbt).trans x1.n
     have hx2:=(hb.cell (p:=⟨_,_,none⟩) hbt).trans x1.name
     have hx3:=(hb.cell (p:=⟨_,_,none⟩) hbt).trans x1.pos
     have HNM:Hid (∀ u,Calls Tryz.prog 63 #[.string (str (l[j]).name)] u (NamePost (l[j]).name u)):=fun u=>rname_c _ (HN.out _ (List.getElem_mem hjl)) u
     unfold NamePost at HNM
     have hjl2:(j:Int) < (l.length:Int):=by omega
     have HBAD:Hid (mayE (l[j])=false→rightE l=false):=fun h=>rightE_may (by
      rw [Bool.eq_false_iff]
      intro g
      rw [List.all_eq_true] at g
      rw [g _ (List.getElem_mem hjl)] at h;cases h)
     have HF:Hid (mayE (l[j])=true→∀ j' (h:j' < l.length),j' < j+1→mayE (l[j'])=true):=fun his j' h hlt=>by
      by_cases hjj:j' < j
      ·exact HNO.out j' h hjj
      ·obtain rfl:j' = j:=by omega
       exact his
     clear hb hat x1
     generalize l[j] = x at hx0 hx1 hx2 hx3 HNM HBAD HF
     have HE:=Lib.hid (mayE_eq x)
     cases p1:(decide (x.pos < 0))
     ·skip
      cases p2:(decide (4000 < x.pos))
      ·skip
       cases o1:(x.op == 1)
       ·skip
        have o12:(x.op != 1)=true:=by unfold bne;rw [o1];rfl
        cases z1:(x.n == 0)
        ·skip
         have z12:(x.n != 0)=true:=by unfold bne;rw [z1];rfl
         have HM:Hid (rightE l=false):=HBAD.out (by rw [HE.out];simp [*])
         go_wp2_with fail
         go_ret
         exact ⟨ret_bool HM.out.symm,bt HB.out (al _ _)⟩
        ·skip
         have z12:(x.n != 0)=false:=by unfold bne;rw [z1];rfl
         cases o2:(x.op == 2)
         ·skip
          have o22:(x.op != 2)=true:=by unfold bne;rw [o2];rfl
          have hz:x.n=0:=by simpa using z1
          have n1:decide (x.n < 0)=false:=by simp [hz]
          have n2:decide (4294967296 < x.n)=false:=by simp [hz]
          clear hz
          cases e1:((str x.name).toList == [])
          ·skip
           have e12:((str x.name).toList != [])=true:=by unfold bne;rw [e1];rfl
           have HM:Hid (rightE l=false):=HBAD.out (by rw [HE.out];simp [*])
           go_wp2_with fail
           go_ret
           exact ⟨ret_bool HM.out.symm,bt HB.out (al _ _)⟩
          ·skip
           have e12:((str x.name).toList != [])=false:=by unfold bne;rw [e1];rfl
           have HM:=Lib.hid (HF.out (by rw [HE.out];simp [*]))
           go_wp2_with fail
           go_roundw
           case rel=>exact ⟨j+1,by omega,by go_num,bt HB.out (al _ _),HM.out⟩
           case measure=>simp [intOf];omega
         ·skip
          have o22:(x.op != 2)=false:=by unfold bne;rw [o2];rfl
          have hz:x.n=0:=by simpa using z1
          have n1:decide (x.n < 0)=false:=by simp [hz]
          have n2:decide (4294967296 < x.n)=false:=by simp [hz]
          clear hz
          cases nm:(nameE x.name)
          ·skip
           rw [nm] at HNM
           have HM:Hid (rightE l=false):=HBAD.out (by rw [HE.out];simp [*])
           go_wp2_with (go_at_call 63;refine (HNM.out _).mono ?_;rintro e w1 ⟨rfl,hb1⟩)
           go_ret
           exact ⟨ret_bool HM.out.symm,bt (bt HB.out (al _ _)) hb1⟩
          ·skip
           rw [nm] at HNM
           have HM:=Lib.hid (HF.out (by rw [HE.out];simp [*]))
           go_wp2_with (go_at_call 63;refine (HNM.out _).mono ?_;rintro e w1 ⟨rfl,hb1⟩)
           go_roundw
           case rel=>exact ⟨j+1,by omega,by go_num,bt (bt HB.out (al _ _)) hb1,HM.out⟩
           case measure=>simp [intOf];omega
       ·skip
        have o12:(x.op != 1)=false:=by unfold bne;rw [o1];rfl
        have ho:x.op=1:=by simpa using o1
        have o2:(x.op == 2)=false:=by rw [ho];rfl
        have o22:(x.op != 2)=true:=by rw [ho];rfl
        clear ho
        cases e1:((str x.name).toList == [])
        ·skip
         have e12:((str x.name).toList != [])=true:=by unfold bne;rw [e1];rfl
         have HM:Hid (rightE l=false):=HBAD.out (by rw [HE.out];simp [*])
         go_wp2_with fail
         go_ret
         exact ⟨ret_bool HM.out.symm,bt HB.out (al _ _)⟩
        ·skip
         have e12:((str x.name).toList != [])=false:=by unfold bne;rw [e1];rfl
         cases n1:(decide (x.n < 0))
         ·skip
          cases n2:(decide (4294967296 < x.n))
          ·skip
           have HM:=Lib.hid (HF.out (by rw [HE.out];simp [*]))
           go_wp2_with fail
           go_roundw
           case rel=>exact ⟨j+1,by omega,by go_num,bt HB.out (al _ _),HM.out⟩
           case measure=>simp [intOf];omega
          ·skip
           have HM:Hid (rightE l=false):=HBAD.out (by rw [HE.out];simp [*])
           go_wp2_with fail
           go_ret
           exact ⟨ret_bool HM.out.symm,bt HB.out (al _ _)⟩
         ·skip
          have HM:Hid (rightE l=false):=HBAD.out (by rw [HE.out];simp [*])
          go_wp2_with fail
          go_ret
          exact ⟨ret_bool HM.out.symm,bt HB.out (al _ _)⟩
      ·skip
       have HM:Hid (rightE l=false):=HBAD.out (by rw [HE.out];simp [*])
       go_wp2_with fail
       go_ret
       exact ⟨ret_bool HM.out.symm,bt HB.out (al _ _)⟩
     ·skip
      have HM:Hid (rightE l=false):=HBAD.out (by rw [HE.out];simp [*])
      go_wp2_with fail
      go_ret
      exact ⟨ret_bool HM.out.symm,bt HB.out (al _ _)⟩
    ·have hje:j=l.length:=by omega
     have HY:Hid (l.all mayE=true):=by
      show _=_
      rw [List.all_eq_true]
      intro x hx
      obtain ⟨j',hj',rfl⟩:=List.mem_iff_getElem.1 hx
      exact HNO.out j' hj' (by omega)
     have HR:=Lib.hid (HRR.out HY.out)
     go_wp2_with (go_at_call 91;refine (HD.out _ HB.out).mono ?_;rintro e w2 ⟨rfl,rfl⟩)
     go_ret
     first | exact ⟨ret_bool (hdc.trans HR.out.symm),HB.out⟩ | exact ⟨ret_bool HR.out.symm,HB.out⟩
  ·have HR:=Lib.hid (rightE_end he)
   have hbe:(endE l 0 != (l.length:Int))=true:=by rw [bne_iff_ne];exact he
   clear he HDep hv hn
   generalize endE l 0=z at HEnd hbe
   go_enter Tryz.func64,Tryz.ntmps64
   go_wp2_with (go_at_call 90;refine (HEnd.out _ (Below.refl _ _)).mono ?_;rintro e w2 ⟨rfl,rfl⟩)
   go_ret
   exact ⟨ret_bool HR.out.symm,Below.refl _ _⟩
end Go.Proofs.YtaoeaaebafcegaaGreatDoor
namespace Go.Proofs.YtaoeaaebafcegaaGreatDoor
open Go Go.RowKit
set_option linter.unusedVariables false
theorem belowGrow (w:World) (k:Nat) (os:Array Obj):Below w.heap.size w (Sort.grow (w.drewN k) os):=by
 refine ⟨rfl,rfl,rfl,?_,fun i hi=>?_⟩
 ·simp [Sort.grow,World.drewN]
 ·simp only [Sort.grow,World.drewN]
  exact Array.getElem?_append_left hi
theorem str_app (a b:List UInt8):str (a++b)=str a++str b:=(ByteArray.mk_append_mk a b).symm
theorem text_c (n:Int) (h0:0≤n) (h1:n≤4294967296) (w:World) (hE:Env w) :
 Calls Tryz.prog 94 #[.int .i64 n] w fun e w'=>e = .returned (.string (str (Lib.itoa n)))∧Below w.heap.size w w':=by
 have HE:=Lib.hid hE
 have HN:Hid (-9223372036854775808≤n∧n≤9223372036854775807):=by show _∧_;omega
 clear hE h0 h1
 go_enter Tryz.func94,Tryz.ntmps94
 go_wp2_with (go_at_call 113;refine (Tryz.strconv_Itoa n HN.out.1 HN.out.2 w HE.out.tab).mono ?_;rintro e w' ⟨rfl,k,os,rfl⟩)
 go_ret
 exact ⟨rfl,belowGrow _ _ _⟩
theorem rtext_small (n:Int) (h0:0≤n) (h1:n < 10) (w:World) :
 Calls Tryz.prog 97 #[.int .i64 n] w fun e w'=>e = .returned (.string (str (Lib.itoa n)))∧Below w.heap.size w w':=by
 have hd:decide (0≤n)=true:=by simpa using h0
 have hd1:decide (n < 10)=true:=by simpa using h1
 have hcv:∀ u:World,(convert 63 9 (.slice (some ⟨w.heap.size,0,none⟩) 1 1)).run Tryz.prog (w.alloc (.cells #[.int .u8 (48+n)] 5)) = .ok (.string (str (Lib.itoa n))) (w.alloc (.cells #[.int .u8 (48+n)] 5)):=by
  intro u
  have h:=run_convert_bytes_back (P:=Tryz.prog) (w.alloc (.cells #[.int .u8 (48+n)] 5)) 63 9 5 ⟨w.heap.size,0,none⟩ 1 (Lib.itoa n) Tryz.underlying63 Tryz.underlying5 Tryz.underlying9
  have hl:Lib.itoa n = [UInt8.ofNat (48+n.toNat)]:=by
   rw [Lib.itoa,if_neg (by omega),Lib.decDigits,dif_pos (by omega)]
  rw [hl] at h ⊢
  refine h ?_
  intro j hj
  obtain rfl:j=0:=by simpa using hj
  have:(48+n.toNat) % 256=48+n.toNat:=Nat.mod_eq_of_lt (by omega)
  simp [go_sem,this]
  omega
 have hcv:=hcv w
 go_enter Tryz.func97,Tryz.ntmps97
 go_wp2_with fail
 go_ret
 exact ⟨rfl,(Below.refl _ _).alloc (Nat.le_refl _) _⟩
theorem itoa_step (n:Int) (h:10≤n):Lib.itoa n=Lib.itoa (n / 10)++Lib.itoa (n % 10):=by
 unfold Lib.itoa
 rw [if_neg (by omega),if_neg (by omega),if_neg (by omega),Lib.decDigits,dif_neg (by omega),Lib.decDigits.eq_def ((n % 10).toNat),dif_pos (by omega)]
 congr 2
 ·congr 1;omega
 ·congr 2;omega
theorem str_itoa_le (n:Int) (h0:0≤n) (h1:n≤4294967296):(str (Lib.itoa n)).size≤20:=by
 rw [str_size]
 obtain ⟨c,r,hc,hd,hl⟩:=num_head h0 h1
 omega
theorem rtext_k (k:Nat):∀ (n:Int) (w:World),n.natAbs≤k→0≤n→n≤4294967296 →
 Calls Tryz.prog 97 #[.int .i64 n] w fun e w'=>e = .returned (.string (str (Lib.itoa n)))∧Below w.heap.size w w':=by
 induction k with
 | zero=>intro n w hk h0 hn;exact rtext_small n (by omega) (by omega) w
 | succ k ih =>
   intro n w hk h0 hn
   by_cases h1:n < 10
   ·exact rtext_small n h0 h1 w
   ·have hd:decide (0≤n)=true:=by simpa using h0
    have hd1:decide (n < 10)=false:=by simpa using h1
    have hit:=Lib.hid (itoa_step n (by omega))
    have z1:=str_itoa_le (n / 10) (by omega) (by omega)
    have z2:=str_itoa_le (n % 10) (by omega) (by omega)
    have ih1:=Lib.hid (ih (n / 10) w (by omega) (by omega) (by omega))
    have ih2:=Lib.hid (fun w'=>ih (n % 10) w' (by omega) (by omega) (by omega))
    clear ih
    go_enter Tryz.func97,Tryz.ntmps97
    go_wp2_with fail
    refine ih1.out.mono ?_
    rintro e w1 ⟨rfl,hb1⟩
    go_wp2_with fail
    refine (ih2.out _).mono ?_
    rintro e w2 ⟨rfl,hb2⟩
    go_wp2_with fail
    go_ret
    exact ⟨ret_str (by rw [hit.out,str_app]),hb1.trans (hb2.mono hb1.size)⟩
theorem rtext_c (n:Int) (h0:0≤n) (hn:n≤4294967296) (w:World) :
 Calls Tryz.prog 97 #[.int .i64 n] w fun e w'=>e = .returned (.string (str (Lib.itoa n)))∧Below w.heap.size w w' :=
 rtext_k n.natAbs n w (Nat.le_refl _) h0 hn
def Ex.sh (e:Ex) (inn:Bool):List UInt8:=if inn=true then e.brk e.show else e.show
theorem Ex.sh_leaf (x:Nod) (b:Bool):(Ex.leaf x).sh b=if x.op=1 then Lib.itoa x.n else x.name:=by cases b <;> rfl
theorem Ex.sh_one (x:Nod) (a:Ex) (b:Bool):(Ex.one x a).sh b=sg x.op.toNat++a.sh true:=by cases b <;> rfl
theorem Ex.sh_two (x:Nod) (a b:Ex):(Ex.two x a b).sh false=a.sh true++[32]++sg x.op.toNat++[32]++b.sh true:=rfl
theorem Ex.sh_two_in (x:Nod) (a b:Ex):(Ex.two x a b).sh true = [40]++(Ex.two x a b).sh false++[41]:=by simp [Ex.sh,Ex.brk]
theorem Ex.sh_len (e:Ex) (b:Bool) (ho:e.ok) (hm:e.may):(e.sh b).length≤20*e.flat.length:=by
 have h1:=show_len e ho hm
 have h2:=brk_len e e.show
 cases b
 ·show e.show.length≤_;omega
 ·show (e.brk e.show).length≤_;omega
theorem AtE.may {l:List Nod} {i:Nat} {e:Ex} (h:AtE l i e) (hl:∀ x∈l,mayE x=true):e.may:=by
 obtain ⟨pre,post,rfl,rfl⟩:=h
 exact fun x hx=>hl x (by simp [hx])
theorem rshow_leaf (b off n c i:Nat) (inn:Bool) (x:Nod) (hx:mayE x=true) (ho:x.op=1∨x.op=2) (w:World) (hi:i < n) (hc:n≤c) (hb:b < w.heap.size) (ha:NodAt w b (off+i*4) x) :
 Calls Tryz.prog 114 #[.slice (some ⟨b,off,none⟩) n c,.int .i64 i,.bool inn] w fun r w'=>r = .returned (.string (str (if x.op=1 then Lib.itoa x.n else x.name)))∧Below w.heap.size w w':=by
 obtain ⟨hx0,hx1,hx2,hx3⟩:=ha
 have hil2:(i:Int) < (n:Int):=by omega
 rcases ho with h1 | h1
 ·obtain ⟨_,g1,g2⟩:=mayE_leaf1 hx h1
  rw [if_pos h1]
  rw [h1] at hx0
  have HT:Hid (∀ u,Calls Tryz.prog 97 #[.int .i64 x.n] u fun e w'=>e = .returned (.string (str (Lib.itoa x.n)))∧Below u.heap.size u w'):=fun u=>rtext_c x.n g1 g2 u
  clear hx h1 g1 g2
  generalize x.n=xn at hx1 HT
  generalize x.name=nm at hx2
  generalize x.pos=ps at hx3
  go_enter Tryz.func114,Tryz.ntmps114
  go_wp2_with (go_at_call 97;refine (HT.out _).mono ?_;rintro e w1 ⟨rfl,hb1⟩)
  go_ret
  exact ⟨rfl,bt (al _ _) hb1⟩
 ·rw [if_neg (by omega)]
  rw [h1] at hx0
  clear hx h1
  generalize x.n=xn at hx1
  generalize x.name=nm at hx2
  generalize x.pos=ps at hx3
  go_enter Tryz.func114,Tryz.ntmps114
  go_wp2_with fail
  go_ret
  exact ⟨rfl,al _ _⟩
theorem rshow_one (b off n c i : Nat) (inn : Bool) (x : Nod) (hop : x.op = 3 ∨ x.op = 4) (w : World) (hn : n ≤ 1000) (hi : i < n) (hc : n ≤ c) (hb : b < w.heap.size) (ha : NodAt w b (off + i * 4) x) (sa : List UInt8) (hsa : sa.length ≤ 20000)
    (IH : Hid (∀ u, Below w.heap.size w u → Calls Tryz.prog 114 #[.slice (some ⟨b, off, none⟩) n c, .int .i64 ((i : Int) + 1), .bool true] u fun r w' => r = .returned (.string (str sa)) ∧ Below u.heap.size u w')) :
    Calls Tryz.prog 114 #[.slice (some ⟨b, off, none⟩) n c, .int .i64 i, .bool inn] w fun r w' => r = .returned (.string (str (sg x.op.toNat ++ sa))) ∧ Below w.heap.size w w' := by
  obtain ⟨hx0, hx1, hx2, hx3⟩ := ha
  have hil2 : (i : Int) < (n : Int) := by omega
  have hk1 : kidsE x.op = 1 := by rcases hop with h | h <;> rw [h] <;> rfl
  have HK : Hid (∀ u, Calls Tryz.prog 110 #[.int .i64 x.op] u fun e w' => e = .returned (.int .i64 1) ∧ u = w') := fun u => by rw [← hk1]; exact kids_c _ u
  have hon : ((x.op.toNat : Nat) : Int) = x.op := by omega
  have HS : Hid (∀ u, Calls Tryz.prog 126 #[.int .i64 x.op] u fun e w' => e = .returned (.string (str (sg x.op.toNat))) ∧ Below u.heap.size u w') := fun u => by
    have := rsign_c x.op.toNat (by omega) u
    rw [hon] at this; exact this
  have o1 : (x.op == 1) = false := by rw [beq_eq_false_iff_ne]; omega
  have o2 : (x.op == 2) = false := by rw [beq_eq_false_iff_ne]; omega
  have z1 : (str (sg x.op.toNat)).size ≤ 2 := by rw [str_size]; rcases hop with h | h <;> rw [h] <;> decide
  have z2 : (str sa).size ≤ 20000 := by rw [str_size]; exact hsa
  have HA := Lib.hid (str_app (sg x.op.toNat) sa)
  clear hop hk1 hon hsa
  generalize sg x.op.toNat = so at HS z1 HA
  generalize x.op = op at hx0 HK HS o1 o2
  generalize x.n = xn at hx1
  generalize x.name = nm at hx2
  generalize x.pos = ps at hx3
  go_enter Tryz.func114, Tryz.ntmps114
  go_wp2_with (first
    | (go_at_call 110; refine (HK.out _).mono ?_; rintro e w1 ⟨rfl, rfl⟩)
    | (go_at_call 126; refine (HS.out _).mono ?_; rintro e w2 ⟨rfl, hb2⟩; have hB2 := bt (al _ _) hb2)
    | (go_at_call 114; refine (IH.out _ hB2).mono ?_; rintro e w3 ⟨rfl, hb3⟩))
  go_ret
  exact ⟨ret_str HA.out.symm, bt hB2 hb3⟩
theorem wrap_one (i:Nat) (h:i < 4611686018427387904):IntKind.i64.wrap ((i:Int)+1)=(i:Int)+1:=by
 have e:((i:Int)+1) % 2 ^ 64=(i:Int)+1:=Int.emod_eq_of_lt (by omega) (by omega)
 simp only [IntKind.wrap,IntKind.bits,IntKind.signed,e]
 rw [if_neg]
 simp
 omega
def twoS (inn:Bool) (so sa sb:List UInt8):ByteArray:=str (if inn=true then [40]++(sa++[32]++so++[32]++sb)++[41] else sa++[32]++so++[32]++sb)
theorem rshow_two (b off n c i:Nat) (inn:Bool) (x:Nod) (hop:5≤x.op∧x.op≤15) (w:World) (hn:n≤1000) (hi:i < n) (hc:n≤c) (hb:b < w.heap.size) (ha:NodAt w b (off+i*4) x) (sa sb:List UInt8) (hsa:sa.length≤20000) (hsb:sb.length≤20000) (k:Int)
 (HE:Hid (∀ u,Below w.heap.size w u→Calls Tryz.prog 90 #[.slice (some ⟨b,off,none⟩) n c,.int .i64 ((i:Int)+1)] u fun r w'=>r = .returned (.int .i64 k)∧u=w'))
 (IH:Hid (∀ u,Below w.heap.size w u→Calls Tryz.prog 114 #[.slice (some ⟨b,off,none⟩) n c,.int .i64 ((i:Int)+1),.bool true] u fun r w'=>r = .returned (.string (str sa))∧Below u.heap.size u w'))
 (IH2:Hid (∀ u,Below w.heap.size w u→Calls Tryz.prog 114 #[.slice (some ⟨b,off,none⟩) n c,.int .i64 k,.bool true] u fun r w'=>r = .returned (.string (str sb))∧Below u.heap.size u w')) :
 Calls Tryz.prog 114 #[.slice (some ⟨b,off,none⟩) n c,.int .i64 i,.bool inn] w fun r w'=>r = .returned (.string (twoS inn (sg x.op.toNat) sa sb))∧Below w.heap.size w w':=by
 obtain ⟨hx0,hx1,hx2,hx3⟩:=ha
 have hil2:(i:Int) < (n:Int):=by omega
 have hk1:kidsE x.op=2:=kidsE_two hop.1 hop.2
 have HK:Hid (∀ u,Calls Tryz.prog 110 #[.int .i64 x.op] u fun e w'=>e = .returned (.int .i64 2)∧u=w'):=fun u=>by rw [← hk1];exact kids_c _ u
 have hon:((x.op.toNat:Nat):Int)=x.op:=by omega
 have HS:Hid (∀ u,Calls Tryz.prog 126 #[.int .i64 x.op] u fun e w'=>e = .returned (.string (str (sg x.op.toNat)))∧Below u.heap.size u w'):=fun u=>by
  have:=rsign_c x.op.toNat (by omega) u
  rw [hon] at this;exact this
 have o1:(x.op == 1)=false:=by rw [beq_eq_false_iff_ne];omega
 have o2:(x.op == 2)=false:=by rw [beq_eq_false_iff_ne];omega
 have z1:(str (sg x.op.toNat)).size≤2:=by rw [str_size];exact (pc_sign [] 0 x.op.toNat (by omega) (by omega)).2.2.2
 have z2:(str sa).size≤20000:=by rw [str_size];exact hsa
 have z3:(str sb).size≤20000:=by rw [str_size];exact hsb
 have HA:Hid (∀ so,twoS false so sa sb=str sa++⟨#[32]⟩++str so++⟨#[32]⟩++str sb):=by
  show ∀ _,_
  intro so
  show str (sa++[32]++so++[32]++sb)=_
  rw [str_app,str_app,str_app,str_app];rfl
 have HA2:Hid (∀ so,twoS true so sa sb=⟨#[40]⟩++(str sa++⟨#[32]⟩++str so++⟨#[32]⟩++str sb)++⟨#[41]⟩):=by
  show ∀ _,_
  intro so
  have:=HA.out so
  show str ([40]++(sa++[32]++so++[32]++sb)++[41])=_
  rw [str_app,str_app,← this];rfl
 clear hop hk1 hon hsa hsb
 generalize sg x.op.toNat=so at HS z1
 generalize x.op=op at hx0 HK HS o1 o2
 generalize x.n=xn at hx1
 generalize x.name=nm at hx2
 generalize x.pos=ps at hx3
 go_enter Tryz.func114,Tryz.ntmps114
 go_upto_region 8 with (go_at_call 110;refine (HK.out _).mono ?_;rintro e w1 ⟨rfl,rfl⟩)
 generalize hW:World.alloc w _=wd
 have hwd:Below w.heap.size w wd:=by subst hW;exact al _ _
 have hlt:w.heap.size < wd.heap.size:=by subst hW;rw [World.size_alloc];omega
 have hcl:wd.cell? ⟨w.heap.size,0,none⟩=some (.int .i64 op):=by subst hW;exact cells_new _ _ _ _ _ rfl
 have HCL:=Lib.hid hcl
 have HWD:=Lib.hid hwd
 clear hW hx0 hx1 hx2 hx3 o1 o2 hwd
 have hwr:IntKind.i64.wrap ((i:Int)+1)=(i:Int)+1:=wrap_one i (by omega)
 have f1:¬ (9223372036854775807 < (str sa).size+1):=by omega
 have f1':¬ (9223372036854775806 < (str sa).size):=by omega
 have f2:¬ (9223372036854775807 < (str sa).size+1+(str so).size):=by omega
 have f3:¬ (9223372036854775807 < (str sa).size+1+(str so).size+1):=by omega
 have f3':¬ (9223372036854775806 < (str sa).size+1+(str so).size):=by omega
 have f4:¬ (9223372036854775807 < (str sa).size+1+(str so).size+1+(str sb).size):=by omega
 go_cut [8] (fun s wx=>s = .string (str sa++⟨#[32]⟩++str so++⟨#[32]⟩++str sb)∧Below w.heap.size w wx)
 case first =>
  go_region_held3 (fun w'=>w'.cell? ⟨w.heap.size,0,none⟩=some (.int .i64 op)) (first | assumption | go_keep)
   (first
   | (go_at_call_of 114 (Value.int .i64 k);refine (IH2.out _ ?_).mono ?_;(repeat (first | exact hC4 | refine bdrN ?_ _ | refine bdr ?_));rintro e w6 ⟨rfl,hb6⟩;have hB6:Below wd.heap.size wd w6:=bt (by repeat (first | exact hB4 | refine bdrN ?_ _ | refine bdr ?_)) hb6;have hc6:=(hB6.cell (p:=⟨w.heap.size,0,none⟩) hlt).trans HCL.out;have hC6:=bt HWD.out hB6)
   | (go_at_call 114;refine (IH.out _ ?_).mono ?_;(repeat (first | exact HWD.out | refine bdrN ?_ _ | refine bdr ?_));rintro e w3 ⟨rfl,hb3⟩;have hB3:Below wd.heap.size wd w3:=bt (by repeat (first | exact Below.refl _ _ | refine bdrN ?_ _ | refine bdr ?_)) hb3;have hc3:=(hB3.cell (p:=⟨w.heap.size,0,none⟩) hlt).trans HCL.out;have hl3:=Nat.lt_of_lt_of_le hlt hB3.size)
   | (go_at_call 126;refine (HS.out _).mono ?_;rintro e w4 ⟨rfl,hb4⟩;have hB4:Below wd.heap.size wd w4:=bt (by repeat (first | exact hB3 | refine bdrN ?_ _ | refine bdr ?_)) hb4;have hc4:=(hB4.cell (p:=⟨w.heap.size,0,none⟩) hlt).trans HCL.out;have hC4:=bt HWD.out hB4)
   | (go_at_call 90;refine (HE.out _ ?_).mono ?_;(repeat (first | exact hC4 | refine bdrN ?_ _ | refine bdr ?_));rintro e w5 ⟨rfl,rfl⟩))
  all_goals
   go_wp2_with fail
   go_meet
   exact ⟨rfl,(by repeat (first | exact hC6 | refine bdrN ?_ _ | refine bdr ?_))⟩
 case rest =>
  obtain ⟨rfl,hq⟩:=hcut
  cases inn
  ·go_wp2_with fail
   go_ret
   exact ⟨ret_str (HA.out _).symm,hq⟩
  ·have z4:(str sa++⟨#[32]⟩++str so++⟨#[32]⟩++str sb).size≤50000:=by simp only [ByteArray.size_append];show _+1+_+1+_≤_;omega
   go_wp2_with fail
   go_ret
   exact ⟨ret_str (HA2.out _).symm,hq⟩
end Go.Proofs.YtaoeaaebafcegaaGreatDoor
namespace Go.Proofs.YtaoeaaebafcegaaGreatDoor
open Go Go.RowKit
set_option linter.unusedVariables false
theorem twoS_in (so sa sb:List UInt8) (inn:Bool) (x:Nod) (a b:Ex) (h1:so=sg x.op.toNat) (h2:sa=a.sh true) (h3:sb=b.sh true):twoS inn so sa sb=str ((Ex.two x a b).sh inn):=by
 subst h1 h2 h3
 cases inn
 ·rfl
 ·rw [Ex.sh_two_in,Ex.sh_two];rfl
theorem rshow_n (l : List Nod) (v : Value) (hl : l.length ≤ 1000) (hm : ∀ x ∈ l, mayE x = true) : ∀ (N : Nat) (e : Ex) (i : Nat) (inn : Bool) (w : World), Nods w v l → e.flat.length ≤ N → e.ok → AtE l i e →
    Calls Tryz.prog 114 #[v, .int .i64 i, .bool inn] w fun r w' => r = .returned (.string (str (e.sh inn))) ∧ Below w.heap.size w w'
  | 0, e, i, inn, w, h, hN, ho, ha => by have := e.flat_pos; omega
  | N + 1, e, i, inn, w, h, hN, ho, ha => by
    have hil := ha.lt
    have hle := ha.le
    have hem := ha.may hm
    obtain ⟨b, off, c, rfl, hcc, hbt, hat⟩ := h.at_ (by omega)
    have x1 := hat i hil
    rw [ha.top] at x1
    have e1 : ((i + 1 : Nat) : Int) = (i : Int) + 1 := by omega
    match e, hN, ho, ha, hem, x1, hle with
    | .leaf x, hN, ho, ha, hem, x1, hle =>
      rw [Ex.sh_leaf]
      exact rshow_leaf b off l.length c i inn x (hem x (by simp [Ex.flat])) (kids_op.1 ho) w hil hcc hbt x1
    | .one x a, hN, ho, ha, hem, x1, hle =>
      have hka := ha.kid 0 (by simp [Ex.ks])
      rw [posK_zero] at hka
      have hal : a.flat.length ≤ N := by simp only [Ex.flat, List.length_cons] at hN; omega
      have hsl := a.sh_len true ho.2 (Ex.may_one hem).2
      have hal2 := hka.le
      simp only [Ex.ks, List.getElem_cons_zero] at hka hal2
      rw [Ex.sh_one]
      refine rshow_one b off l.length c i inn x (kids_op.2.1 ho.1) w hl hil hcc hbt x1 (a.sh true) (by omega) (Lib.hid fun u hu => ?_)
      have := rshow_n l _ hl hm N a (i + 1) true u (h.below hu) hal ho.2 hka
      rw [e1] at this
      exact this
    | .two x ea eb, hN, ho, ha, hem, x1, hle =>
      have hka := ha.kid 0 (by simp [Ex.ks])
      have hkb := ha.kid 1 (by simp [Ex.ks])
      rw [posK_succ i _ 0 (by simp [Ex.ks])] at hkb
      rw [posK_zero] at hka hkb
      have hal : ea.flat.length ≤ N ∧ eb.flat.length ≤ N := by simp only [Ex.flat, List.length_cons, List.length_append] at hN; omega
      obtain ⟨hmx, hma, hmb⟩ := Ex.may_two hem
      have hsa := ea.sh_len true ho.2.1 hma
      have hsb := eb.sh_len true ho.2.2 hmb
      have hal2 := hka.le
      have hbl2 := hkb.le
      simp only [Ex.ks, List.getElem_cons_zero, List.getElem_cons_succ] at hka hkb hal2 hbl2
      have hend := hka.fin ho.2.1
      refine (rshow_two b off l.length c i inn x (kids_op.2.2 ho.1) w hl hil hcc hbt x1 (ea.sh true) (eb.sh true) (by omega) (by omega) ((i + 1 + ea.flat.length : Nat) : Int) (Lib.hid fun u hu => ?_) (Lib.hid fun u hu => ?_) (Lib.hid fun u hu => ?_)).mono ?_
      · have := rend_c l _ u (h.below hu) (by omega) ((i + 1 : Nat) : Int)
        rw [hend, e1] at this
        exact this
      · have := rshow_n l _ hl hm N ea (i + 1) true u (h.below hu) hal.1 ho.2.1 hka
        rw [e1] at this
        exact this
      · exact rshow_n l _ hl hm N eb _ true u (h.below hu) hal.2 ho.2.2 hkb
      · rintro r w' ⟨rfl, hb⟩
        exact ⟨ret_str (twoS_in _ _ _ inn x ea eb rfl rfl rfl), hb⟩
theorem showE_tree {l:List Nod} (h:rightE l=true):∃ e:Ex,e.ok∧e.may∧l=e.flat∧l.length≤40∧e.deep≤12∧showE l=e.show∧depthE l=e.deep:=by
 obtain ⟨e,h1,h2,h3,h4,h5,h6⟩:=rightE_some h
 subst h2
 exact ⟨e,h1,h5,rfl,h4,h6,by unfold showE;rw [if_pos h,h3],by unfold depthE;rw [if_pos h,h3]⟩
theorem showE_not {l:List Nod} (h:rightE l=false):showE l = []∧depthE l=0∧namesE l = []:=by
 refine ⟨?_,?_,?_⟩
 ·unfold showE;rw [h];rfl
 ·unfold depthE;rw [h];rfl
 ·unfold namesE;rw [h];rfl
theorem rShow_c (l : List Nod) (hl : l.length ≤ 100000) (hn : ∀ x ∈ l, x.name.length ≤ 1000000) (v : Value) (w : World) (hv : Nods w v l) :
    Calls Tryz.prog 96 #[v] w fun e w' => e = .returned (.string (str (showE l))) ∧ Below w.heap.size w w' := by
  obtain ⟨A0, c0, rfl, hc0⟩ := hv.shape
  have HR := Lib.hid (rRight_c l hl hn _ w hv)
  cases hr : rightE l
  · have HS := Lib.hid (showE_not hr).1
    rw [hr] at HR
    clear hv hn hr
    go_enter Tryz.func96, Tryz.ntmps96
    go_wp2_with (go_at_call 64; refine (HR.out).mono ?_; rintro e w1 ⟨rfl, hb1⟩)
    go_ret
    exact ⟨ret_str (by rw [HS.out]; rfl), hb1⟩
  · obtain ⟨e, h1, h2, h3, h4, h5, h6, h7⟩ := showE_tree hr
    have HS := Lib.hid h6
    have HC : Hid (∀ u, Below w.heap.size w u → Calls Tryz.prog 114 #[.slice A0 l.length c0, .int .i64 0, .bool false] u fun r w' => r = .returned (.string (str e.show)) ∧ Below u.heap.size u w') := fun u hu => by
      subst h3
      exact rshow_n e.flat _ (by omega) (fun x hx => h2 x hx) _ e 0 false u (hv.below hu) (Nat.le_refl _) h1 (AtE.whole e)
    rw [hr] at HR
    clear hv hn hr h1 h2 h3 h5 h6 h7
    generalize e.show = s at HC HS
    go_enter Tryz.func96, Tryz.ntmps96
    go_wp2_with (first
      | (go_at_call 64; refine (HR.out).mono ?_; rintro e w1 ⟨rfl, hb1⟩)
      | (go_at_call 114; refine (HC.out _ hb1).mono ?_; rintro e w2 ⟨rfl, hb2⟩))
    go_ret
    exact ⟨ret_str (by rw [HS.out]), bt hb1 hb2⟩
end Go.Proofs.YtaoeaaebafcegaaGreatDoor
namespace Go.Proofs.YtaoeaaebafcegaaGreatDoor
open Go Go.RowKit
set_option linter.unusedVariables false
def prS (op:Int) (s:List UInt8):List UInt8:=if kidsE op=2 then [40]++s++[41] else s
theorem prS_sh (e:Ex) (ho:e.ok):prS e.top.op e.show=e.sh true:=by
 unfold prS
 cases e with
 | leaf x=>have h:kidsE x.op=0:=ho;rw [if_neg (by show ¬ kidsE x.op=2;omega)];rfl
 | one x a=>have h:=ho.1;rw [if_neg (by show ¬ kidsE x.op=2;omega)];rfl
 | two x a b=>have h:=ho.1;rw [if_pos (show kidsE (Ex.two x a b).top.op=2 from h)];simp [Ex.sh,Ex.brk]
theorem partE_c (b off n c k bb : Nat) (x : Nod) (w : World) (hk : k < n) (hc : n ≤ c) (hb : b < w.heap.size) (hbb : bb < w.heap.size) (ha : NodAt w b (off + k * 4) x) (hbx : w.cell? ⟨bb, 0, none⟩ = some (.slice (some ⟨b, off, none⟩) n c)) (s : List UInt8) (hs : s.length ≤ 20000)
    (IH : Hid (∀ u, Below w.heap.size w u → Calls Tryz.prog 112 #[.slice (some ⟨b, off, none⟩) n c, .int .i64 k] u fun r w' => r = .returned (.string (str s)) ∧ Below u.heap.size u w')) :
    Calls Tryz.prog 124 #[.int .i64 k, .pointer (some ⟨bb, 0, none⟩)] w fun r w' => r = .returned (.string (str (prS x.op s))) ∧ Below w.heap.size w w' := by
  obtain ⟨hx0, hx1, hx2, hx3⟩ := ha
  have hil2 : (k : Int) < (n : Int) := by omega
  have z2 : (str s).size ≤ 20000 := by rw [str_size]; exact hs
  have HM : Hid (∀ u, Calls Tryz.prog 108 #[.int .i64 x.op] u fun r w' => r = .returned (.int .i64 (kidsE x.op)) ∧ u = w') := fun u => many_c _ u
  by_cases hk2 : kidsE x.op = 2
  · have HA : Hid (str (prS x.op s) = ⟨#[40]⟩ ++ str s ++ ⟨#[41]⟩) := by
      show _ = _
      unfold prS
      rw [if_pos hk2, str_app, str_app]; rfl
    rw [hk2] at HM
    clear hk2 hs
    rw [HA.out]
    go_enter Tryz.func124, Tryz.ntmps124
    go_wp2_with (first
      | (go_at_call 108; refine (HM.out _).mono ?_; rintro e w1 ⟨rfl, rfl⟩)
      | (go_at_call 112; refine (IH.out _ (Below.refl _ _)).mono ?_; rintro e w3 ⟨rfl, hb3⟩))
    go_ret
    exact ⟨rfl, hb3⟩
  · have HA : Hid (str (prS x.op s) = str s) := by
      show _ = _
      unfold prS
      rw [if_neg hk2]
    have hk3 := kidsE_le x.op
    generalize kidsE x.op = kk at HM hk2 hk3
    have hkd : decide (1 < kk) = false := by simp; omega
    clear hk2 hs hk3
    rw [HA.out]
    go_enter Tryz.func124, Tryz.ntmps124
    go_wp2_with (first
      | (go_at_call 108; refine (HM.out _).mono ?_; rintro e w1 ⟨rfl, rfl⟩)
      | (go_at_call 112; refine (IH.out _ (Below.refl _ _)).mono ?_; rintro e w3 ⟨rfl, hb3⟩))
    go_ret
    exact ⟨rfl, hb3⟩
structure Laid (w wx:World) (h5 h6:Nat) (V:Value) (x:Nod):Prop where
 below:Below w.heap.size w wx
 box:wx.cell? ⟨w.heap.size,0,none⟩=some V
 lt0:w.heap.size < wx.heap.size
 lt5:h5 < wx.heap.size
 lt6:h6 < wx.heap.size
 node:NodAt wx h5 0 x
 sgn:∀ j,j < 16→wx.cell? ⟨h6,j,none⟩=some (.string (str (sg j)))
theorem there_below {U w':World} {b o n:Nat} (hb:Below U.heap.size U w') (h:U.there b o n):w'.there b o n:=fun j hj=>by
 obtain ⟨h1,h2⟩:=h j hj
 obtain ⟨u,hu⟩:=Option.isSome_iff_exists.1 h1
 have hlt:=World.block_lt_of_cell? U _ hu
 refine ⟨?_,?_⟩
 ·rw [hb.cell (p:=⟨b,o+j,none⟩) hlt];exact h1
 ·rw [← h2];exact hb.frozen (p:=⟨b,o+j,none⟩) hlt
theorem there_new (u:World):(u.alloc (.cells #[.string ⟨#[]⟩,.string ⟨#[]⟩,.string ⟨#[]⟩,.string ⟨#[]⟩,.string ⟨#[]⟩,.string ⟨#[]⟩,.string ⟨#[]⟩,.string ⟨#[]⟩,.string ⟨#[]⟩,.string ⟨#[]⟩,.string ⟨#[]⟩,.string ⟨#[]⟩,.string ⟨#[]⟩,.string ⟨#[]⟩,.string ⟨#[]⟩,.string ⟨#[]⟩] 125)).there u.heap.size 0 16:=by
 have h:∀ j,j < 16→((#[.string ⟨#[]⟩,.string ⟨#[]⟩,.string ⟨#[]⟩,.string ⟨#[]⟩,.string ⟨#[]⟩,.string ⟨#[]⟩,.string ⟨#[]⟩,.string ⟨#[]⟩,.string ⟨#[]⟩,.string ⟨#[]⟩,.string ⟨#[]⟩,.string ⟨#[]⟩,.string ⟨#[]⟩,.string ⟨#[]⟩,.string ⟨#[]⟩,.string ⟨#[]⟩]:Array Value)[j]?).isSome=true:=by decide
 intro j hj
 obtain ⟨v,hv⟩:=Option.isSome_iff_exists.1 (h j hj)
 refine ⟨?_,?_⟩
 ·rw [Nat.zero_add,cells_new u _ _ j v hv];rfl
 ·simp
theorem there_newN (u:World):(u.alloc (.cells #[.int .i64 0,.int .i64 0,.string ⟨#[]⟩,.int .i64 0] 33)).there u.heap.size 0 4:=by
 have h:∀ j,j < 4→((#[.int .i64 0,.int .i64 0,.string ⟨#[]⟩,.int .i64 0]:Array Value)[j]?).isSome=true:=by decide
 intro j hj
 obtain ⟨v,hv⟩:=Option.isSome_iff_exists.1 (h j hj)
 refine ⟨?_,?_⟩
 ·rw [Nat.zero_add,cells_new u _ _ j v hv];rfl
 ·simp
theorem below_setCells {B : Nat} {a : World} : ∀ (vs : List Value) (w : World) (b o : Nat), Below B a w → B ≤ b → Below B a (w.setCells b o vs)
  | [], w, b, o, h, hb => h
  | v :: vs, w, b, o, h, hb => below_setCells vs _ b (o + 1) (below_set h hb v) hb
theorem setCells_size : ∀ (vs : List Value) (w : World) (b o : Nat), (w.setCells b o vs).heap.size = w.heap.size
  | [], w, b, o => rfl
  | v :: vs, w, b, o => by rw [World.setCells, setCells_size vs]; simp
def sgW:List Value:=[.string ⟨#[]⟩,.string ⟨#[]⟩,.string ⟨#[]⟩,.string ⟨#[45]⟩,.string ⟨#[33]⟩,.string ⟨#[43]⟩,.string ⟨#[45]⟩,.string ⟨#[42]⟩,.string ⟨#[47]⟩,.string ⟨#[37]⟩,.string ⟨#[61,61]⟩,.string ⟨#[33,61]⟩,.string ⟨#[60]⟩,.string ⟨#[60,61]⟩,.string ⟨#[38,38]⟩,.string ⟨#[124,124]⟩]
theorem sgW_at : ∀ j, j < 16 → sgW[j]? = some (.string (str (sg j)))
  | 0, _ => by kernel_rfl
  | 1, _ => by kernel_rfl
  | 2, _ => by kernel_rfl
  | 3, _ => by kernel_rfl
  | 4, _ => by kernel_rfl
  | 5, _ => by kernel_rfl
  | 6, _ => by kernel_rfl
  | 7, _ => by kernel_rfl
  | 8, _ => by kernel_rfl
  | 9, _ => by kernel_rfl
  | 10, _ => by kernel_rfl
  | 11, _ => by kernel_rfl
  | 12, _ => by kernel_rfl
  | 13, _ => by kernel_rfl
  | 14, _ => by kernel_rfl
  | 15, _ => by kernel_rfl
  | n + 16, h => by omega
theorem laid_of {w W:World} {h5 h6:Nat} {V:Value} {x:Nod} (hB:Below w.heap.size w W) (hbox:W.cell? ⟨w.heap.size,0,none⟩=some V) (h0:w.heap.size < h6) (h56:h5≠h6) (hl5:h5 < W.heap.size) (hth:W.there h6 0 16)
 (hn0:W.cell? ⟨h5,0,none⟩=some (.int .i64 x.op)) (hn1:W.cell? ⟨h5,1,none⟩=some (.int .i64 x.n)) (hn2:W.cell? ⟨h5,2,none⟩=some (.string (str x.name))) (hn3:W.cell? ⟨h5,3,none⟩=some (.int .i64 x.pos)) :
 Laid w (W.setCells h6 0 sgW) h5 h6 V x:=by
 have hl6:h6 < W.heap.size:=by
  obtain ⟨h1,h2⟩:=hth 0 (by omega)
  obtain ⟨u,hu⟩:=Option.isSome_iff_exists.1 h1
  exact World.block_lt_of_cell? W _ hu
 have hout:∀ (b o:Nat),b≠h6→(W.setCells h6 0 sgW).cell? ⟨b,o,none⟩=W.cell? ⟨b,o,none⟩:=fun b o hne=>World.cell?_setCells_out h6 sgW 0 W ⟨b,o,none⟩ (fun hb _=>absurd hb hne)
 refine ⟨below_setCells _ _ _ _ hB (by omega),(hout _ _ (by omega)).trans hbox,?_,?_,?_,⟨(hout _ _ h56).trans hn0,(hout _ _ h56).trans hn1,(hout _ _ h56).trans hn2,(hout _ _ h56).trans hn3⟩,fun j hj=>?_⟩
 ·rw [setCells_size];omega
 ·rw [setCells_size];exact hl5
 ·rw [setCells_size];exact hl6
 ·have:=World.rangeAt_setCells_same W h6 0 sgW hth j _ (sgW_at j hj)
  rw [Nat.zero_add] at this
  exact this
theorem laid_fin {w wd X:World} {h5 h6:Nat} {V:Value} {x:Nod} (hwd:Below w.heap.size w wd) (hlt:w.heap.size < wd.heap.size) (hbx:wd.cell? ⟨w.heap.size,0,none⟩=some V) (hB:Below wd.heap.size wd X) (T5:X.there h5 0 4) (T6:X.there h6 0 16) (h56:h5≠h6) (hg5:wd.heap.size≤h5) (hg6:wd.heap.size≤h6) :
 Laid w ((X.setCells h5 0 [.int .i64 x.op,.int .i64 x.n,.string (str x.name),.int .i64 x.pos]).setCells h6 0 sgW) h5 h6 V x:=by
 have hB2:=below_setCells [.int .i64 x.op,.int .i64 x.n,.string (str x.name),.int .i64 x.pos] _ h5 0 (hwd.trans (hB.mono hwd.size)) (by omega)
 have hB3:=below_setCells [.int .i64 x.op,.int .i64 x.n,.string (str x.name),.int .i64 x.pos] _ h5 0 hB hg5
 have hr:=World.rangeAt_setCells_same X h5 0 [.int .i64 x.op,.int .i64 x.n,.string (str x.name),.int .i64 x.pos] T5
 have hl5:h5 < X.heap.size:=by
  obtain ⟨h1,h2⟩:=T5 0 (by omega)
  obtain ⟨u,hu⟩:=Option.isSome_iff_exists.1 h1
  exact World.block_lt_of_cell? X _ hu
 refine laid_of hB2 ((hB3.cell (p:=⟨w.heap.size,0,none⟩) hlt).trans hbx) (by omega) h56 (by rw [setCells_size];exact hl5) (World.there_setCells T6 _ _ _) ?_ ?_ ?_ ?_
 ·have:=hr 0 _ rfl;exact this
 ·have:=hr 1 _ rfl;exact this
 ·have:=hr 2 _ rfl;exact this
 ·have:=hr 3 _ rfl;exact this
theorem one_nv (x:Nod):((List.toArray [.int .i64 x.op,.int .i64 x.n,.string (str x.name),.int .i64 x.pos]:Array Value).all fun v=>v.oneCell')=true:=all_oneCell_toArray (by intro v hv;simp only [List.mem_cons,List.not_mem_nil,or_false] at hv;rcases hv with rfl | rfl | rfl | rfl <;> rfl)
theorem one_sg:((List.toArray sgW).all fun v=>v.oneCell')=true:=all_oneCell_toArray (by intro v hv;simp only [sgW,List.mem_cons,List.not_mem_nil,or_false] at hv;rcases hv with rfl | rfl | rfl | rfl | rfl | rfl | rfl | rfl | rfl | rfl | rfl | rfl | rfl | rfl | rfl | rfl <;> rfl)
def Made (b off n c i:Nat) (x:Nod) (w:World) (R:List UInt8):Prop :=
 (x.op=1∧mayE x=true∧Env w∧R=Lib.itoa x.n)∨(x.op=2∧R=x.name) ∨
 ((x.op=3∨x.op=4)∧∃ (k:Nat) (s:List UInt8),s.length≤20000∧R=sg x.op.toNat++s ∧
   (∀ u,Below w.heap.size w u→Calls Tryz.prog 109 #[.slice (some ⟨b,off,none⟩) n c,.int .i64 i] u fun r w'=>∃ A c1,r = .returned (.slice A 1 c1)∧Ints w' (.slice A 1 c1) [k]∧Below u.heap.size u w') ∧
   (∀ u,Below w.heap.size w u→u.cell? ⟨w.heap.size,0,none⟩=some (.slice (some ⟨b,off,none⟩) n c)→w.heap.size < u.heap.size→Calls Tryz.prog 124 #[.int .i64 k,.pointer (some ⟨w.heap.size,0,none⟩)] u fun r w'=>r = .returned (.string (str s))∧Below u.heap.size u w')) ∨
 ((5≤x.op∧x.op≤15)∧∃ (k k2:Nat) (s s2:List UInt8),s.length≤20000∧s2.length≤20000∧k≠k2∧R=s++[32]++sg x.op.toNat++[32]++s2 ∧
   (∀ u,Below w.heap.size w u→Calls Tryz.prog 109 #[.slice (some ⟨b,off,none⟩) n c,.int .i64 i] u fun r w'=>∃ A c1,r = .returned (.slice A 2 c1)∧Ints w' (.slice A 2 c1) [k,k2]∧Below u.heap.size u w') ∧
   (∀ u,Below w.heap.size w u→u.cell? ⟨w.heap.size,0,none⟩=some (.slice (some ⟨b,off,none⟩) n c)→w.heap.size < u.heap.size→Calls Tryz.prog 124 #[.int .i64 k,.pointer (some ⟨w.heap.size,0,none⟩)] u fun r w'=>r = .returned (.string (str s))∧Below u.heap.size u w') ∧
   (∀ u,Below w.heap.size w u→u.cell? ⟨w.heap.size,0,none⟩=some (.slice (some ⟨b,off,none⟩) n c)→w.heap.size < u.heap.size→Calls Tryz.prog 124 #[.int .i64 k2,.pointer (some ⟨w.heap.size,0,none⟩)] u fun r w'=>r = .returned (.string (str s2))∧Below u.heap.size u w'))
theorem show_walk (b off n c i : Nat) (x : Nod) (w : World) (hi : i < n) (hc : n ≤ c) (hb : b < w.heap.size) (ha : NodAt w b (off + i * 4) x) (R : List UInt8) (hmade : Made b off n c i x w R) :
    Calls Tryz.prog 112 #[.slice (some ⟨b, off, none⟩) n c, .int .i64 i] w fun r w' => r = .returned (.string (str R)) ∧ Below w.heap.size w w' := by
  have HMADE := Lib.hid hmade
  clear hmade
  obtain ⟨hx0, hx1, hx2, hx3⟩ := ha
  have hil2 : (i : Int) < (n : Int) := by omega
  have hi0 : (0 : Int) ≤ (i : Int) := Int.natCast_nonneg _
  have HSG : Hid (∀ u : World, Calls Tryz.prog 123 #[] u fun e w' => e = .returned (.agg sgW.toArray) ∧ Below u.heap.size u w') := fun u => signs_c u
  go_enter Tryz.func112, Tryz.ntmps112
  go_upto_region 1 with fail
  generalize hW : World.alloc w _ = wd
  have hwd : Below w.heap.size w wd := by subst hW; exact al _ _
  have hlt : w.heap.size < wd.heap.size := by subst hW; rw [World.size_alloc]; omega
  have hbx : wd.cell? ⟨w.heap.size, 0, none⟩ = some (.slice (some ⟨b, off, none⟩) n c) := by subst hW; exact cells_new _ _ _ _ _ rfl
  have hbd : b < wd.heap.size := by omega
  have HWD := Lib.hid hwd
  obtain ⟨SS, hSS⟩ : ∃ SS : World → Prop, SS = fun w' => w'.cell? ⟨w.heap.size, 0, none⟩ = some (.slice (some ⟨b, off, none⟩) n c) ∧ w'.cell? ⟨b, off + i * 4, none⟩ = some (.int .i64 x.op) ∧ w'.cell? ⟨b, off + i * 4 + 1, none⟩ = some (.int .i64 x.n) ∧ w'.cell? ⟨b, off + i * 4 + 2, none⟩ = some (.string (str x.name)) ∧ w'.cell? ⟨b, off + i * 4 + 3, none⟩ = some (.int .i64 x.pos) := ⟨_, rfl⟩
  have HS : Hid (∀ w', Below wd.heap.size wd w' → SS w') := fun w' hB => by
    rw [hSS]
    exact ⟨(hB.cell (p := ⟨w.heap.size, 0, none⟩) hlt).trans hbx, (hB.cell (p := ⟨b, off + i * 4, none⟩) hbd).trans ((hwd.cell (p := ⟨b, off + i * 4, none⟩) hb).trans hx0), (hB.cell (p := ⟨b, off + i * 4 + 1, none⟩) hbd).trans ((hwd.cell (p := ⟨b, off + i * 4 + 1, none⟩) hb).trans hx1), (hB.cell (p := ⟨b, off + i * 4 + 2, none⟩) hbd).trans ((hwd.cell (p := ⟨b, off + i * 4 + 2, none⟩) hb).trans hx2), (hB.cell (p := ⟨b, off + i * 4 + 3, none⟩) hbd).trans ((hwd.cell (p := ⟨b, off + i * 4 + 3, none⟩) hb).trans hx3)⟩
  clear hW hx0 hx1 hx2 hx3 hwd
  go_cut [5, 6] (fun s t wx => ∃ h5 h6 : Nat, s = .pointer (some ⟨h5, 0, none⟩) ∧ t = .pointer (some ⟨h6, 0, none⟩) ∧ Laid w wx h5 h6 (.slice (some ⟨b, off, none⟩) n c) x)
  case first =>
    refine wp_region_held_drew (S := SS) (by kernel_rfl) (HS.out _ (bdr (Below.refl _ _))) (fun hHeld => ?_)
    refine wpAnyH_take (i := 0) (v := ?_) rfl (by kernel_rfl) (by kernel_rfl) (by kernel_rfl) (fun _ _ _ h => h) (Or.inl ⟨by rfl, ?_⟩) (by assumption) ?_
    rotate_left
    · intro w0 hSw
      rw [hSS] at hSw
      (try dsimp only at hSw)
      go_simp
      (try with_reducible rfl)
    (try simp only [Act.put, List.setIfInBounds_toArray])
    refine wpAnyH_take (i := 1) (v := ?_) rfl (by kernel_rfl) (by kernel_rfl) (by kernel_rfl) (fun _ _ _ h => h) (Or.inl ⟨by rfl, ?_⟩) (by assumption) ?_
    rotate_left
    · intro w0 hSw
      rw [hSS] at hSw
      (try dsimp only at hSw)
      go_simp
      (try with_reducible rfl)
    (try simp only [Act.put])
    refine wpAnyH_take (i := 2) (v := ?_) rfl (by kernel_rfl) (by kernel_rfl) (by kernel_rfl) (fun _ _ _ h => h) (Or.inl ⟨by rfl, ?_⟩) (by assumption) ?_
    rotate_left
    · intro w0 hSw
      rw [hSS] at hSw
      (try dsimp only at hSw)
      go_simp
      (try with_reducible rfl)
    (try simp only [Act.put])
    refine wpAnyH_take (i := 3) (v := ?_) rfl (by kernel_rfl) (by kernel_rfl) (by kernel_rfl) (fun _ _ _ h => h) (Or.inl ⟨by rfl, ?_⟩) (by assumption) ?_
    rotate_left
    · intro w0 hSw
      rw [hSS] at hSw
      (try dsimp only at hSw)
      go_simp
      (try with_reducible rfl)
    (try simp only [Act.put])
    clear hHeld
    have hB : Below wd.heap.size wd wd.drew := bdr (Below.refl _ _)
    generalize wd.drew = X0 at hB ⊢
    refine wpAnyH_ready (rs := [4, 5, 6]) (by kernel_rfl) (by simp) ?_
    refine AllReadyH.cons rfl (fun K hK => ?_) ?_
    · skip
      go_simp
      refine (HSG.out _).mono ?_
      rintro e X1 ⟨rfl, hb1⟩
      dsimp only
      have hBn := hB.trans (hb1.mono hB.size)
      have hszn := hb1.size
      refine hK.out _ _ (HS.out _ hBn) (fun _ => ?_)
      clear hK K
      (try simp only [Act.put, List.setIfInBounds_toArray, List.set_cons_zero, List.set_cons_succ])
      clear hszn hb1 hB
      have hB := hBn
      clear hBn
      refine wpAnyH_ready (rs := [5, 6]) (by kernel_rfl) (by simp) ?_
      refine AllReadyH.cons rfl (fun K hK => ?_) ?_
      · skip
        go_simp
        have hBn := hB.alloc hB.size (.cells #[.int .i64 0, .int .i64 0, .string ⟨#[]⟩, .int .i64 0] 33)
        have hln : X1.heap.size < (World.alloc X1 (.cells #[.int .i64 0, .int .i64 0, .string ⟨#[]⟩, .int .i64 0] 33)).heap.size := by rw [World.size_alloc]; omega
        have Tn := there_newN X1
        refine hK.out _ _ (HS.out _ hBn) (fun _ => ?_)
        clear hK K
        (try simp only [Act.put, List.setIfInBounds_toArray, List.set_cons_zero, List.set_cons_succ])
        generalize World.alloc X1 (.cells #[.int .i64 0, .int .i64 0, .string ⟨#[]⟩, .int .i64 0] 33) = X2 at hBn hln Tn ⊢
        have hg5 := hB.size
        have T5 := Tn
        have hl5 := hln
        clear Tn hln
        generalize X1.heap.size = h5 at hg5 T5 hl5 ⊢
        clear hB
        have hB := hBn
        clear hBn
        refine wpAnyH_ready (rs := [6]) (by kernel_rfl) (by simp) ?_
        refine AllReadyH.cons rfl (fun K hK => ?_) AllReadyH.nil
        go_simp
        have hBn := hB.alloc hB.size (.cells #[.string ⟨#[]⟩, .string ⟨#[]⟩, .string ⟨#[]⟩, .string ⟨#[]⟩, .string ⟨#[]⟩, .string ⟨#[]⟩, .string ⟨#[]⟩, .string ⟨#[]⟩, .string ⟨#[]⟩, .string ⟨#[]⟩, .string ⟨#[]⟩, .string ⟨#[]⟩, .string ⟨#[]⟩, .string ⟨#[]⟩, .string ⟨#[]⟩, .string ⟨#[]⟩] 125)
        have hln : X2.heap.size < (World.alloc X2 (.cells #[.string ⟨#[]⟩, .string ⟨#[]⟩, .string ⟨#[]⟩, .string ⟨#[]⟩, .string ⟨#[]⟩, .string ⟨#[]⟩, .string ⟨#[]⟩, .string ⟨#[]⟩, .string ⟨#[]⟩, .string ⟨#[]⟩, .string ⟨#[]⟩, .string ⟨#[]⟩, .string ⟨#[]⟩, .string ⟨#[]⟩, .string ⟨#[]⟩, .string ⟨#[]⟩] 125)).heap.size := by rw [World.size_alloc]; omega
        have Tn := there_new X2
        have T5n := World.there_alloc T5 (.cells #[.string ⟨#[]⟩, .string ⟨#[]⟩, .string ⟨#[]⟩, .string ⟨#[]⟩, .string ⟨#[]⟩, .string ⟨#[]⟩, .string ⟨#[]⟩, .string ⟨#[]⟩, .string ⟨#[]⟩, .string ⟨#[]⟩, .string ⟨#[]⟩, .string ⟨#[]⟩, .string ⟨#[]⟩, .string ⟨#[]⟩, .string ⟨#[]⟩, .string ⟨#[]⟩] 125)
        refine hK.out _ _ (HS.out _ hBn) (fun _ => ?_)
        clear hK K
        (try simp only [Act.put, List.setIfInBounds_toArray, List.set_cons_zero, List.set_cons_succ])
        generalize World.alloc X2 (.cells #[.string ⟨#[]⟩, .string ⟨#[]⟩, .string ⟨#[]⟩, .string ⟨#[]⟩, .string ⟨#[]⟩, .string ⟨#[]⟩, .string ⟨#[]⟩, .string ⟨#[]⟩, .string ⟨#[]⟩, .string ⟨#[]⟩, .string ⟨#[]⟩, .string ⟨#[]⟩, .string ⟨#[]⟩, .string ⟨#[]⟩, .string ⟨#[]⟩, .string ⟨#[]⟩] 125) = X3 at hBn hln Tn T5n ⊢
        have h56 : h5 ≠ X2.heap.size := by omega
        have hl5n : h5 < X3.heap.size := by omega
        clear T5 hl5
        have T5 := T5n
        have hl5 := hl5n
        clear T5n hl5n
        have hg6 := hB.size
        have T6 := Tn
        have hl6 := hln
        clear Tn hln
        generalize X2.heap.size = h6 at hg6 T6 hl6 h56 ⊢
        clear hB
        have hB := hBn
        clear hBn
        refine wpAnyH_ready (rs := [7]) (by kernel_rfl) (by simp) ?_
        refine AllReadyH.cons rfl (fun K hK => ?_) AllReadyH.nil
        rw [if_pos (by rfl)]
        refine wp_store_mid _ _ _ rfl h5 0 (List.toArray [.int .i64 x.op, .int .i64 x.n, .string (str x.name), .int .i64 x.pos]) rfl rfl T5 (by kernel_rfl) (one_nv x) ?_
        have hB7 := below_setCells [.int .i64 x.op, .int .i64 x.n, .string (str x.name), .int .i64 x.pos] _ h5 0 hB hg5
        refine hK.out _ _ (HS.out _ hB7) (fun _ => ?_)
        clear hK K
        (try simp only [Act.put, List.setIfInBounds_toArray])
        refine wpAnyH_ready (rs := [8]) (by kernel_rfl) (by simp) ?_
        refine AllReadyH.cons rfl (fun K hK => ?_) AllReadyH.nil
        rw [if_pos (by rfl)]
        refine wp_store_mid _ _ _ rfl h6 0 (List.toArray sgW) rfl rfl (World.there_setCells T6 _ _ _) (by kernel_rfl) one_sg ?_
        have hB8 := below_setCells sgW _ h6 0 hB7 hg6
        refine hK.out _ _ (HS.out _ hB8) (fun _ => ?_)
        clear hK K
        (try simp only [Act.put])
        refine wpAnyH_done (by kernel_rfl) ?_ _
        go_wp2_with fail
        go_meet
        exact ⟨h5, h6, rfl, rfl, laid_fin HWD.out hlt hbx hB T5 T6 h56 hg5 hg6⟩
      · skip
        refine AllReadyH.cons rfl (fun K hK => ?_) AllReadyH.nil
        go_simp
        have hBn := hB.alloc hB.size (.cells #[.string ⟨#[]⟩, .string ⟨#[]⟩, .string ⟨#[]⟩, .string ⟨#[]⟩, .string ⟨#[]⟩, .string ⟨#[]⟩, .string ⟨#[]⟩, .string ⟨#[]⟩, .string ⟨#[]⟩, .string ⟨#[]⟩, .string ⟨#[]⟩, .string ⟨#[]⟩, .string ⟨#[]⟩, .string ⟨#[]⟩, .string ⟨#[]⟩, .string ⟨#[]⟩] 125)
        have hln : X1.heap.size < (World.alloc X1 (.cells #[.string ⟨#[]⟩, .string ⟨#[]⟩, .string ⟨#[]⟩, .string ⟨#[]⟩, .string ⟨#[]⟩, .string ⟨#[]⟩, .string ⟨#[]⟩, .string ⟨#[]⟩, .string ⟨#[]⟩, .string ⟨#[]⟩, .string ⟨#[]⟩, .string ⟨#[]⟩, .string ⟨#[]⟩, .string ⟨#[]⟩, .string ⟨#[]⟩, .string ⟨#[]⟩] 125)).heap.size := by rw [World.size_alloc]; omega
        have Tn := there_new X1
        refine hK.out _ _ (HS.out _ hBn) (fun _ => ?_)
        clear hK K
        (try simp only [Act.put, List.setIfInBounds_toArray, List.set_cons_zero, List.set_cons_succ])
        generalize World.alloc X1 (.cells #[.string ⟨#[]⟩, .string ⟨#[]⟩, .string ⟨#[]⟩, .string ⟨#[]⟩, .string ⟨#[]⟩, .string ⟨#[]⟩, .string ⟨#[]⟩, .string ⟨#[]⟩, .string ⟨#[]⟩, .string ⟨#[]⟩, .string ⟨#[]⟩, .string ⟨#[]⟩, .string ⟨#[]⟩, .string ⟨#[]⟩, .string ⟨#[]⟩, .string ⟨#[]⟩] 125) = X4 at hBn hln Tn ⊢
        have hg6 := hB.size
        have T6 := Tn
        have hl6 := hln
        clear Tn hln
        generalize X1.heap.size = h6 at hg6 T6 hl6 ⊢
        clear hB
        have hB := hBn
        clear hBn
        refine wpAnyH_ready (rs := [5]) (by kernel_rfl) (by simp) ?_
        refine AllReadyH.cons rfl (fun K hK => ?_) AllReadyH.nil
        go_simp
        have hBn := hB.alloc hB.size (.cells #[.int .i64 0, .int .i64 0, .string ⟨#[]⟩, .int .i64 0] 33)
        have hln : X4.heap.size < (World.alloc X4 (.cells #[.int .i64 0, .int .i64 0, .string ⟨#[]⟩, .int .i64 0] 33)).heap.size := by rw [World.size_alloc]; omega
        have Tn := there_newN X4
        have T6n := World.there_alloc T6 (.cells #[.int .i64 0, .int .i64 0, .string ⟨#[]⟩, .int .i64 0] 33)
        refine hK.out _ _ (HS.out _ hBn) (fun _ => ?_)
        clear hK K
        (try simp only [Act.put, List.setIfInBounds_toArray, List.set_cons_zero, List.set_cons_succ])
        generalize World.alloc X4 (.cells #[.int .i64 0, .int .i64 0, .string ⟨#[]⟩, .int .i64 0] 33) = X5 at hBn hln Tn T6n ⊢
        have h56 : X4.heap.size ≠ h6 := by omega
        have hl6n : h6 < X5.heap.size := by omega
        clear T6 hl6
        have T6 := T6n
        have hl6 := hl6n
        clear T6n hl6n
        have hg5 := hB.size
        have T5 := Tn
        have hl5 := hln
        clear Tn hln
        generalize X4.heap.size = h5 at hg5 T5 hl5 h56 ⊢
        clear hB
        have hB := hBn
        clear hBn
        refine wpAnyH_ready (rs := [7]) (by kernel_rfl) (by simp) ?_
        refine AllReadyH.cons rfl (fun K hK => ?_) AllReadyH.nil
        rw [if_pos (by rfl)]
        refine wp_store_mid _ _ _ rfl h5 0 (List.toArray [.int .i64 x.op, .int .i64 x.n, .string (str x.name), .int .i64 x.pos]) rfl rfl T5 (by kernel_rfl) (one_nv x) ?_
        have hB7 := below_setCells [.int .i64 x.op, .int .i64 x.n, .string (str x.name), .int .i64 x.pos] _ h5 0 hB hg5
        refine hK.out _ _ (HS.out _ hB7) (fun _ => ?_)
        clear hK K
        (try simp only [Act.put, List.setIfInBounds_toArray])
        refine wpAnyH_ready (rs := [8]) (by kernel_rfl) (by simp) ?_
        refine AllReadyH.cons rfl (fun K hK => ?_) AllReadyH.nil
        rw [if_pos (by rfl)]
        refine wp_store_mid _ _ _ rfl h6 0 (List.toArray sgW) rfl rfl (World.there_setCells T6 _ _ _) (by kernel_rfl) one_sg ?_
        have hB8 := below_setCells sgW _ h6 0 hB7 hg6
        refine hK.out _ _ (HS.out _ hB8) (fun _ => ?_)
        clear hK K
        (try simp only [Act.put])
        refine wpAnyH_done (by kernel_rfl) ?_ _
        go_wp2_with fail
        go_meet
        exact ⟨h5, h6, rfl, rfl, laid_fin HWD.out hlt hbx hB T5 T6 h56 hg5 hg6⟩
    · skip
      refine AllReadyH.cons rfl (fun K hK => ?_) ?_
      · skip
        go_simp
        have hBn := hB.alloc hB.size (.cells #[.int .i64 0, .int .i64 0, .string ⟨#[]⟩, .int .i64 0] 33)
        have hln : X0.heap.size < (World.alloc X0 (.cells #[.int .i64 0, .int .i64 0, .string ⟨#[]⟩, .int .i64 0] 33)).heap.size := by rw [World.size_alloc]; omega
        have Tn := there_newN X0
        refine hK.out _ _ (HS.out _ hBn) (fun _ => ?_)
        clear hK K
        (try simp only [Act.put, List.setIfInBounds_toArray, List.set_cons_zero, List.set_cons_succ])
        generalize World.alloc X0 (.cells #[.int .i64 0, .int .i64 0, .string ⟨#[]⟩, .int .i64 0] 33) = X6 at hBn hln Tn ⊢
        have hg5 := hB.size
        have T5 := Tn
        have hl5 := hln
        clear Tn hln
        generalize X0.heap.size = h5 at hg5 T5 hl5 ⊢
        clear hB
        have hB := hBn
        clear hBn
        refine wpAnyH_ready (rs := [4, 6]) (by kernel_rfl) (by simp) ?_
        refine AllReadyH.cons rfl (fun K hK => ?_) ?_
        · skip
          go_simp
          refine (HSG.out _).mono ?_
          rintro e X7 ⟨rfl, hb7⟩
          dsimp only
          have hBn := hB.trans (hb7.mono hB.size)
          have hszn := hb7.size
          have T5n := there_below hb7 T5
          refine hK.out _ _ (HS.out _ hBn) (fun _ => ?_)
          clear hK K
          (try simp only [Act.put, List.setIfInBounds_toArray, List.set_cons_zero, List.set_cons_succ])
          have hl5n : h5 < X7.heap.size := Nat.lt_of_lt_of_le hl5 hszn
          clear T5 hl5
          have T5 := T5n
          have hl5 := hl5n
          clear T5n hl5n
          clear hszn hb7 hB
          have hB := hBn
          clear hBn
          refine wpAnyH_ready (rs := [6]) (by kernel_rfl) (by simp) ?_
          refine AllReadyH.cons rfl (fun K hK => ?_) AllReadyH.nil
          go_simp
          have hBn := hB.alloc hB.size (.cells #[.string ⟨#[]⟩, .string ⟨#[]⟩, .string ⟨#[]⟩, .string ⟨#[]⟩, .string ⟨#[]⟩, .string ⟨#[]⟩, .string ⟨#[]⟩, .string ⟨#[]⟩, .string ⟨#[]⟩, .string ⟨#[]⟩, .string ⟨#[]⟩, .string ⟨#[]⟩, .string ⟨#[]⟩, .string ⟨#[]⟩, .string ⟨#[]⟩, .string ⟨#[]⟩] 125)
          have hln : X7.heap.size < (World.alloc X7 (.cells #[.string ⟨#[]⟩, .string ⟨#[]⟩, .string ⟨#[]⟩, .string ⟨#[]⟩, .string ⟨#[]⟩, .string ⟨#[]⟩, .string ⟨#[]⟩, .string ⟨#[]⟩, .string ⟨#[]⟩, .string ⟨#[]⟩, .string ⟨#[]⟩, .string ⟨#[]⟩, .string ⟨#[]⟩, .string ⟨#[]⟩, .string ⟨#[]⟩, .string ⟨#[]⟩] 125)).heap.size := by rw [World.size_alloc]; omega
          have Tn := there_new X7
          have T5n := World.there_alloc T5 (.cells #[.string ⟨#[]⟩, .string ⟨#[]⟩, .string ⟨#[]⟩, .string ⟨#[]⟩, .string ⟨#[]⟩, .string ⟨#[]⟩, .string ⟨#[]⟩, .string ⟨#[]⟩, .string ⟨#[]⟩, .string ⟨#[]⟩, .string ⟨#[]⟩, .string ⟨#[]⟩, .string ⟨#[]⟩, .string ⟨#[]⟩, .string ⟨#[]⟩, .string ⟨#[]⟩] 125)
          refine hK.out _ _ (HS.out _ hBn) (fun _ => ?_)
          clear hK K
          (try simp only [Act.put, List.setIfInBounds_toArray, List.set_cons_zero, List.set_cons_succ])
          generalize World.alloc X7 (.cells #[.string ⟨#[]⟩, .string ⟨#[]⟩, .string ⟨#[]⟩, .string ⟨#[]⟩, .string ⟨#[]⟩, .string ⟨#[]⟩, .string ⟨#[]⟩, .string ⟨#[]⟩, .string ⟨#[]⟩, .string ⟨#[]⟩, .string ⟨#[]⟩, .string ⟨#[]⟩, .string ⟨#[]⟩, .string ⟨#[]⟩, .string ⟨#[]⟩, .string ⟨#[]⟩] 125) = X8 at hBn hln Tn T5n ⊢
          have h56 : h5 ≠ X7.heap.size := by omega
          have hl5n : h5 < X8.heap.size := by omega
          clear T5 hl5
          have T5 := T5n
          have hl5 := hl5n
          clear T5n hl5n
          have hg6 := hB.size
          have T6 := Tn
          have hl6 := hln
          clear Tn hln
          generalize X7.heap.size = h6 at hg6 T6 hl6 h56 ⊢
          clear hB
          have hB := hBn
          clear hBn
          refine wpAnyH_ready (rs := [7]) (by kernel_rfl) (by simp) ?_
          refine AllReadyH.cons rfl (fun K hK => ?_) AllReadyH.nil
          rw [if_pos (by rfl)]
          refine wp_store_mid _ _ _ rfl h5 0 (List.toArray [.int .i64 x.op, .int .i64 x.n, .string (str x.name), .int .i64 x.pos]) rfl rfl T5 (by kernel_rfl) (one_nv x) ?_
          have hB7 := below_setCells [.int .i64 x.op, .int .i64 x.n, .string (str x.name), .int .i64 x.pos] _ h5 0 hB hg5
          refine hK.out _ _ (HS.out _ hB7) (fun _ => ?_)
          clear hK K
          (try simp only [Act.put, List.setIfInBounds_toArray])
          refine wpAnyH_ready (rs := [8]) (by kernel_rfl) (by simp) ?_
          refine AllReadyH.cons rfl (fun K hK => ?_) AllReadyH.nil
          rw [if_pos (by rfl)]
          refine wp_store_mid _ _ _ rfl h6 0 (List.toArray sgW) rfl rfl (World.there_setCells T6 _ _ _) (by kernel_rfl) one_sg ?_
          have hB8 := below_setCells sgW _ h6 0 hB7 hg6
          refine hK.out _ _ (HS.out _ hB8) (fun _ => ?_)
          clear hK K
          (try simp only [Act.put])
          refine wpAnyH_done (by kernel_rfl) ?_ _
          go_wp2_with fail
          go_meet
          exact ⟨h5, h6, rfl, rfl, laid_fin HWD.out hlt hbx hB T5 T6 h56 hg5 hg6⟩
        · skip
          refine AllReadyH.cons rfl (fun K hK => ?_) AllReadyH.nil
          go_simp
          have hBn := hB.alloc hB.size (.cells #[.string ⟨#[]⟩, .string ⟨#[]⟩, .string ⟨#[]⟩, .string ⟨#[]⟩, .string ⟨#[]⟩, .string ⟨#[]⟩, .string ⟨#[]⟩, .string ⟨#[]⟩, .string ⟨#[]⟩, .string ⟨#[]⟩, .string ⟨#[]⟩, .string ⟨#[]⟩, .string ⟨#[]⟩, .string ⟨#[]⟩, .string ⟨#[]⟩, .string ⟨#[]⟩] 125)
          have hln : X6.heap.size < (World.alloc X6 (.cells #[.string ⟨#[]⟩, .string ⟨#[]⟩, .string ⟨#[]⟩, .string ⟨#[]⟩, .string ⟨#[]⟩, .string ⟨#[]⟩, .string ⟨#[]⟩, .string ⟨#[]⟩, .string ⟨#[]⟩, .string ⟨#[]⟩, .string ⟨#[]⟩, .string ⟨#[]⟩, .string ⟨#[]⟩, .string ⟨#[]⟩, .string ⟨#[]⟩, .string ⟨#[]⟩] 125)).heap.size := by rw [World.size_alloc]; omega
          have Tn := there_new X6
          have T5n := World.there_alloc T5 (.cells #[.string ⟨#[]⟩, .string ⟨#[]⟩, .string ⟨#[]⟩, .string ⟨#[]⟩, .string ⟨#[]⟩, .string ⟨#[]⟩, .string ⟨#[]⟩, .string ⟨#[]⟩, .string ⟨#[]⟩, .string ⟨#[]⟩, .string ⟨#[]⟩, .string ⟨#[]⟩, .string ⟨#[]⟩, .string ⟨#[]⟩, .string ⟨#[]⟩, .string ⟨#[]⟩] 125)
          refine hK.out _ _ (HS.out _ hBn) (fun _ => ?_)
          clear hK K
          (try simp only [Act.put, List.setIfInBounds_toArray, List.set_cons_zero, List.set_cons_succ])
          generalize World.alloc X6 (.cells #[.string ⟨#[]⟩, .string ⟨#[]⟩, .string ⟨#[]⟩, .string ⟨#[]⟩, .string ⟨#[]⟩, .string ⟨#[]⟩, .string ⟨#[]⟩, .string ⟨#[]⟩, .string ⟨#[]⟩, .string ⟨#[]⟩, .string ⟨#[]⟩, .string ⟨#[]⟩, .string ⟨#[]⟩, .string ⟨#[]⟩, .string ⟨#[]⟩, .string ⟨#[]⟩] 125) = X9 at hBn hln Tn T5n ⊢
          have h56 : h5 ≠ X6.heap.size := by omega
          have hl5n : h5 < X9.heap.size := by omega
          clear T5 hl5
          have T5 := T5n
          have hl5 := hl5n
          clear T5n hl5n
          have hg6 := hB.size
          have T6 := Tn
          have hl6 := hln
          clear Tn hln
          generalize X6.heap.size = h6 at hg6 T6 hl6 h56 ⊢
          clear hB
          have hB := hBn
          clear hBn
          refine wpAnyH_ready (rs := [4]) (by kernel_rfl) (by simp) ?_
          refine AllReadyH.cons rfl (fun K hK => ?_) AllReadyH.nil
          go_simp
          refine (HSG.out _).mono ?_
          rintro e X10 ⟨rfl, hb10⟩
          dsimp only
          have hBn := hB.trans (hb10.mono hB.size)
          have hszn := hb10.size
          have T5n := there_below hb10 T5
          have T6n := there_below hb10 T6
          refine hK.out _ _ (HS.out _ hBn) (fun _ => ?_)
          clear hK K
          (try simp only [Act.put, List.setIfInBounds_toArray, List.set_cons_zero, List.set_cons_succ])
          have hl5n : h5 < X10.heap.size := Nat.lt_of_lt_of_le hl5 hszn
          clear T5 hl5
          have T5 := T5n
          have hl5 := hl5n
          clear T5n hl5n
          have hl6n : h6 < X10.heap.size := Nat.lt_of_lt_of_le hl6 hszn
          clear T6 hl6
          have T6 := T6n
          have hl6 := hl6n
          clear T6n hl6n
          clear hszn hb10 hB
          have hB := hBn
          clear hBn
          refine wpAnyH_ready (rs := [7]) (by kernel_rfl) (by simp) ?_
          refine AllReadyH.cons rfl (fun K hK => ?_) AllReadyH.nil
          rw [if_pos (by rfl)]
          refine wp_store_mid _ _ _ rfl h5 0 (List.toArray [.int .i64 x.op, .int .i64 x.n, .string (str x.name), .int .i64 x.pos]) rfl rfl T5 (by kernel_rfl) (one_nv x) ?_
          have hB7 := below_setCells [.int .i64 x.op, .int .i64 x.n, .string (str x.name), .int .i64 x.pos] _ h5 0 hB hg5
          refine hK.out _ _ (HS.out _ hB7) (fun _ => ?_)
          clear hK K
          (try simp only [Act.put, List.setIfInBounds_toArray])
          refine wpAnyH_ready (rs := [8]) (by kernel_rfl) (by simp) ?_
          refine AllReadyH.cons rfl (fun K hK => ?_) AllReadyH.nil
          rw [if_pos (by rfl)]
          refine wp_store_mid _ _ _ rfl h6 0 (List.toArray sgW) rfl rfl (World.there_setCells T6 _ _ _) (by kernel_rfl) one_sg ?_
          have hB8 := below_setCells sgW _ h6 0 hB7 hg6
          refine hK.out _ _ (HS.out _ hB8) (fun _ => ?_)
          clear hK K
          (try simp only [Act.put])
          refine wpAnyH_done (by kernel_rfl) ?_ _
          go_wp2_with fail
          go_meet
          exact ⟨h5, h6, rfl, rfl, laid_fin HWD.out hlt hbx hB T5 T6 h56 hg5 hg6⟩
      · skip
        refine AllReadyH.cons rfl (fun K hK => ?_) AllReadyH.nil
        go_simp
        have hBn := hB.alloc hB.size (.cells #[.string ⟨#[]⟩, .string ⟨#[]⟩, .string ⟨#[]⟩, .string ⟨#[]⟩, .string ⟨#[]⟩, .string ⟨#[]⟩, .string ⟨#[]⟩, .string ⟨#[]⟩, .string ⟨#[]⟩, .string ⟨#[]⟩, .string ⟨#[]⟩, .string ⟨#[]⟩, .string ⟨#[]⟩, .string ⟨#[]⟩, .string ⟨#[]⟩, .string ⟨#[]⟩] 125)
        have hln : X0.heap.size < (World.alloc X0 (.cells #[.string ⟨#[]⟩, .string ⟨#[]⟩, .string ⟨#[]⟩, .string ⟨#[]⟩, .string ⟨#[]⟩, .string ⟨#[]⟩, .string ⟨#[]⟩, .string ⟨#[]⟩, .string ⟨#[]⟩, .string ⟨#[]⟩, .string ⟨#[]⟩, .string ⟨#[]⟩, .string ⟨#[]⟩, .string ⟨#[]⟩, .string ⟨#[]⟩, .string ⟨#[]⟩] 125)).heap.size := by rw [World.size_alloc]; omega
        have Tn := there_new X0
        refine hK.out _ _ (HS.out _ hBn) (fun _ => ?_)
        clear hK K
        (try simp only [Act.put, List.setIfInBounds_toArray, List.set_cons_zero, List.set_cons_succ])
        generalize World.alloc X0 (.cells #[.string ⟨#[]⟩, .string ⟨#[]⟩, .string ⟨#[]⟩, .string ⟨#[]⟩, .string ⟨#[]⟩, .string ⟨#[]⟩, .string ⟨#[]⟩, .string ⟨#[]⟩, .string ⟨#[]⟩, .string ⟨#[]⟩, .string ⟨#[]⟩, .string ⟨#[]⟩, .string ⟨#[]⟩, .string ⟨#[]⟩, .string ⟨#[]⟩, .string ⟨#[]⟩] 125) = X11 at hBn hln Tn ⊢
        have hg6 := hB.size
        have T6 := Tn
        have hl6 := hln
        clear Tn hln
        generalize X0.heap.size = h6 at hg6 T6 hl6 ⊢
        clear hB
        have hB := hBn
        clear hBn
        refine wpAnyH_ready (rs := [4, 5]) (by kernel_rfl) (by simp) ?_
        refine AllReadyH.cons rfl (fun K hK => ?_) ?_
        · skip
          go_simp
          refine (HSG.out _).mono ?_
          rintro e X12 ⟨rfl, hb12⟩
          dsimp only
          have hBn := hB.trans (hb12.mono hB.size)
          have hszn := hb12.size
          have T6n := there_below hb12 T6
          refine hK.out _ _ (HS.out _ hBn) (fun _ => ?_)
          clear hK K
          (try simp only [Act.put, List.setIfInBounds_toArray, List.set_cons_zero, List.set_cons_succ])
          have hl6n : h6 < X12.heap.size := Nat.lt_of_lt_of_le hl6 hszn
          clear T6 hl6
          have T6 := T6n
          have hl6 := hl6n
          clear T6n hl6n
          clear hszn hb12 hB
          have hB := hBn
          clear hBn
          refine wpAnyH_ready (rs := [5]) (by kernel_rfl) (by simp) ?_
          refine AllReadyH.cons rfl (fun K hK => ?_) AllReadyH.nil
          go_simp
          have hBn := hB.alloc hB.size (.cells #[.int .i64 0, .int .i64 0, .string ⟨#[]⟩, .int .i64 0] 33)
          have hln : X12.heap.size < (World.alloc X12 (.cells #[.int .i64 0, .int .i64 0, .string ⟨#[]⟩, .int .i64 0] 33)).heap.size := by rw [World.size_alloc]; omega
          have Tn := there_newN X12
          have T6n := World.there_alloc T6 (.cells #[.int .i64 0, .int .i64 0, .string ⟨#[]⟩, .int .i64 0] 33)
          refine hK.out _ _ (HS.out _ hBn) (fun _ => ?_)
          clear hK K
          (try simp only [Act.put, List.setIfInBounds_toArray, List.set_cons_zero, List.set_cons_succ])
          generalize World.alloc X12 (.cells #[.int .i64 0, .int .i64 0, .string ⟨#[]⟩, .int .i64 0] 33) = X13 at hBn hln Tn T6n ⊢
          have h56 : X12.heap.size ≠ h6 := by omega
          have hl6n : h6 < X13.heap.size := by omega
          clear T6 hl6
          have T6 := T6n
          have hl6 := hl6n
          clear T6n hl6n
          have hg5 := hB.size
          have T5 := Tn
          have hl5 := hln
          clear Tn hln
          generalize X12.heap.size = h5 at hg5 T5 hl5 h56 ⊢
          clear hB
          have hB := hBn
          clear hBn
          refine wpAnyH_ready (rs := [7]) (by kernel_rfl) (by simp) ?_
          refine AllReadyH.cons rfl (fun K hK => ?_) AllReadyH.nil
          rw [if_pos (by rfl)]
          refine wp_store_mid _ _ _ rfl h5 0 (List.toArray [.int .i64 x.op, .int .i64 x.n, .string (str x.name), .int .i64 x.pos]) rfl rfl T5 (by kernel_rfl) (one_nv x) ?_
          have hB7 := below_setCells [.int .i64 x.op, .int .i64 x.n, .string (str x.name), .int .i64 x.pos] _ h5 0 hB hg5
          refine hK.out _ _ (HS.out _ hB7) (fun _ => ?_)
          clear hK K
          (try simp only [Act.put, List.setIfInBounds_toArray])
          refine wpAnyH_ready (rs := [8]) (by kernel_rfl) (by simp) ?_
          refine AllReadyH.cons rfl (fun K hK => ?_) AllReadyH.nil
          rw [if_pos (by rfl)]
          refine wp_store_mid _ _ _ rfl h6 0 (List.toArray sgW) rfl rfl (World.there_setCells T6 _ _ _) (by kernel_rfl) one_sg ?_
          have hB8 := below_setCells sgW _ h6 0 hB7 hg6
          refine hK.out _ _ (HS.out _ hB8) (fun _ => ?_)
          clear hK K
          (try simp only [Act.put])
          refine wpAnyH_done (by kernel_rfl) ?_ _
          go_wp2_with fail
          go_meet
          exact ⟨h5, h6, rfl, rfl, laid_fin HWD.out hlt hbx hB T5 T6 h56 hg5 hg6⟩
        · skip
          refine AllReadyH.cons rfl (fun K hK => ?_) AllReadyH.nil
          go_simp
          have hBn := hB.alloc hB.size (.cells #[.int .i64 0, .int .i64 0, .string ⟨#[]⟩, .int .i64 0] 33)
          have hln : X11.heap.size < (World.alloc X11 (.cells #[.int .i64 0, .int .i64 0, .string ⟨#[]⟩, .int .i64 0] 33)).heap.size := by rw [World.size_alloc]; omega
          have Tn := there_newN X11
          have T6n := World.there_alloc T6 (.cells #[.int .i64 0, .int .i64 0, .string ⟨#[]⟩, .int .i64 0] 33)
          refine hK.out _ _ (HS.out _ hBn) (fun _ => ?_)
          clear hK K
          (try simp only [Act.put, List.setIfInBounds_toArray, List.set_cons_zero, List.set_cons_succ])
          generalize World.alloc X11 (.cells #[.int .i64 0, .int .i64 0, .string ⟨#[]⟩, .int .i64 0] 33) = X14 at hBn hln Tn T6n ⊢
          have h56 : X11.heap.size ≠ h6 := by omega
          have hl6n : h6 < X14.heap.size := by omega
          clear T6 hl6
          have T6 := T6n
          have hl6 := hl6n
          clear T6n hl6n
          have hg5 := hB.size
          have T5 := Tn
          have hl5 := hln
          clear Tn hln
          generalize X11.heap.size = h5 at hg5 T5 hl5 h56 ⊢
          clear hB
          have hB := hBn
          clear hBn
          refine wpAnyH_ready (rs := [4]) (by kernel_rfl) (by simp) ?_
          refine AllReadyH.cons rfl (fun K hK => ?_) AllReadyH.nil
          go_simp
          refine (HSG.out _).mono ?_
          rintro e X15 ⟨rfl, hb15⟩
          dsimp only
          have hBn := hB.trans (hb15.mono hB.size)
          have hszn := hb15.size
          have T5n := there_below hb15 T5
          have T6n := there_below hb15 T6
          refine hK.out _ _ (HS.out _ hBn) (fun _ => ?_)
          clear hK K
          (try simp only [Act.put, List.setIfInBounds_toArray, List.set_cons_zero, List.set_cons_succ])
          have hl5n : h5 < X15.heap.size := Nat.lt_of_lt_of_le hl5 hszn
          clear T5 hl5
          have T5 := T5n
          have hl5 := hl5n
          clear T5n hl5n
          have hl6n : h6 < X15.heap.size := Nat.lt_of_lt_of_le hl6 hszn
          clear T6 hl6
          have T6 := T6n
          have hl6 := hl6n
          clear T6n hl6n
          clear hszn hb15 hB
          have hB := hBn
          clear hBn
          refine wpAnyH_ready (rs := [7]) (by kernel_rfl) (by simp) ?_
          refine AllReadyH.cons rfl (fun K hK => ?_) AllReadyH.nil
          rw [if_pos (by rfl)]
          refine wp_store_mid _ _ _ rfl h5 0 (List.toArray [.int .i64 x.op, .int .i64 x.n, .string (str x.name), .int .i64 x.pos]) rfl rfl T5 (by kernel_rfl) (one_nv x) ?_
          have hB7 := below_setCells [.int .i64 x.op, .int .i64 x.n, .string (str x.name), .int .i64 x.pos] _ h5 0 hB hg5
          refine hK.out _ _ (HS.out _ hB7) (fun _ => ?_)
          clear hK K
          (try simp only [Act.put, List.setIfInBounds_toArray])
          refine wpAnyH_ready (rs := [8]) (by kernel_rfl) (by simp) ?_
          refine AllReadyH.cons rfl (fun K hK => ?_) AllReadyH.nil
          rw [if_pos (by rfl)]
          refine wp_store_mid _ _ _ rfl h6 0 (List.toArray sgW) rfl rfl (World.there_setCells T6 _ _ _) (by kernel_rfl) one_sg ?_
          have hB8 := below_setCells sgW _ h6 0 hB7 hg6
          refine hK.out _ _ (HS.out _ hB8) (fun _ => ?_)
          clear hK K
          (try simp only [Act.put])
          refine wpAnyH_done (by kernel_rfl) ?_ _
          go_wp2_with fail
          go_meet
          exact ⟨h5, h6, rfl, rfl, laid_fin HWD.out hlt hbx hB T5 T6 h56 hg5 hg6⟩
  case rest =>
    obtain ⟨h5, h6, rfl, rfl, ⟨lb, lbx, l0, l5, l6, ⟨y0, y1, y2, y3⟩, hsg⟩⟩ := hcut
    have HLB := Lib.hid lb
    have HSGN := Lib.hid hsg
    clear lb hsg HS hSS SS HWD hlt hbx hbd HSG
    have hmade := HMADE.out
    clear HMADE
    rcases hmade with ⟨o1, hmx, hE, rfl⟩ | ⟨o2, rfl⟩ | ⟨hop, k, s, hsl, hR, hO, hP⟩ | ⟨hop, k, k2, s, s2, hsl, hsl2, hkk, hR, hO, hP, hP2⟩
    · obtain ⟨_, g1, g2⟩ := mayE_leaf1 hmx o1
      have HT : Hid (∀ u, Below w.heap.size w u → Calls Tryz.prog 94 #[.int .i64 x.n] u fun e w' => e = .returned (.string (str (Lib.itoa x.n))) ∧ Below u.heap.size u w') := fun u hu => text_c x.n g1 g2 u (hE.below hu)
      rw [o1] at y0
      clear hmx o1 g1 g2 hE
      go_wp2_with (go_at_call 94; refine (HT.out _ HLB.out).mono ?_; rintro e w1 ⟨rfl, hb1⟩)
      go_ret
      exact ⟨rfl, bt HLB.out hb1⟩
    · rw [o2] at y0
      clear o2
      go_wp2_with fail
      go_ret
      exact ⟨rfl, HLB.out⟩
    · obtain ⟨o, ho⟩ := Int.eq_ofNat_of_zero_le (show 0 ≤ x.op by omega)
      have hso := HSGN.out o (by omega)
      rw [ho] at y0 hop
      rw [ho, Int.toNat_natCast] at hR
      have o1 : ((o : Int) == 1) = false := by rw [beq_eq_false_iff_ne]; omega
      have o2 : ((o : Int) == 2) = false := by rw [beq_eq_false_iff_ne]; omega
      have b0 : (0 : Int) ≤ (o : Int) := Int.natCast_nonneg _
      have b1 : (o : Int) < 16 := by omega
      have z1 : (str (sg o)).size ≤ 2 := by rw [str_size]; rcases hop with h | h <;> (have : o = 3 ∨ o = 4 := by omega) <;> rcases this with rfl | rfl <;> decide
      have z2 : (str s).size ≤ 20000 := by rw [str_size]; exact hsl
      have f1 : ¬ (9223372036854775807 < (str (sg o)).size + (str s).size) := by omega
      have HR : Hid (str R = str (sg o) ++ str s) := by rw [hR]; exact str_app (sg o) s
      have HO := Lib.hid hO
      have HP := Lib.hid hP
      clear hO hP hsl hop ho y1 y2 y3 hR
      generalize sg o = so at hso z1 HR f1
      go_upto_region 10 with (first
        | (go_at_call 109; refine (HO.out _ HLB.out).mono ?_; rintro e w1 ⟨A, c1, rfl, hints, hb1⟩))
      obtain ⟨b2, off2, c2, hV, hc2, hbl2, hat2⟩ := hints.at_ (by simp)
      simp only [List.length_cons, List.length_nil, Value.slice.injEq] at hV
      obtain ⟨rfl, _, rfl⟩ := hV
      have hk0 := hat2 0 (by simp)
      simp only [List.getElem_cons_zero, Nat.add_zero] at hk0
      have v0 := (hb1.cell (p := ⟨h5, 0, none⟩) l5).trans y0
      have v1 := (hb1.cell (p := ⟨h6, o, none⟩) l6).trans hso
      have v2 := (hb1.cell (p := ⟨w.heap.size, 0, none⟩) l0).trans lbx
      have lw := Nat.lt_of_lt_of_le l0 hb1.size
      have m5 := Nat.lt_of_lt_of_le l5 hb1.size
      have m6 := Nat.lt_of_lt_of_le l6 hb1.size
      have HB1 := Lib.hid (bt HLB.out hb1)
      have hc10 : 1 ≤ c1 := by simpa using hc2
      have HV := Lib.hid (And.intro v0 (And.intro v1 hk0))
      clear hat2 hc2 hb1 hints y0 hso lbx l0 l5 l6
      go_region_held3 (fun w' => w'.cell? ⟨h5, 0, none⟩ = some (.int .i64 o) ∧ w'.cell? ⟨h6, o, none⟩ = some (.string (str so)) ∧ w'.cell? ⟨b2, off2, none⟩ = some (.int .i64 k)) (first | exact ⟨by assumption, by assumption, by assumption⟩ | go_keep)
        (first
        | (go_at_call 124; refine (HP.out _ ?_ ?_ ?_).mono ?_; (exact bdr HB1.out); (exact v2); (exact lw); rintro e w2 ⟨rfl, hb2⟩; have q0 := (hb2.cell (p := ⟨h5, 0, none⟩) m5).trans HV.out.1; have q1 := (hb2.cell (p := ⟨h6, o, none⟩) m6).trans HV.out.2.1; have q2 := (hb2.cell (p := ⟨b2, off2, none⟩) hbl2).trans HV.out.2.2; have hB2 := bt (bdr HB1.out) hb2))
      all_goals
        go_wp2_with fail
        go_ret
        exact ⟨ret_str HR.out.symm, hB2⟩
    · obtain ⟨o, ho⟩ := Int.eq_ofNat_of_zero_le (show 0 ≤ x.op by omega)
      have hso := HSGN.out o (by omega)
      rw [ho] at y0 hop
      rw [ho, Int.toNat_natCast] at hR
      have o1 : ((o : Int) == 1) = false := by rw [beq_eq_false_iff_ne]; omega
      have o2 : ((o : Int) == 2) = false := by rw [beq_eq_false_iff_ne]; omega
      have b0 : (0 : Int) ≤ (o : Int) := Int.natCast_nonneg _
      have b1 : (o : Int) < 16 := by omega
      have z1 : (str (sg o)).size ≤ 2 := by rw [str_size]; exact (pc_sign [] 0 o (by omega) (by omega)).2.2.2
      have z2 : (str s).size ≤ 20000 := by rw [str_size]; exact hsl
      have z3 : (str s2).size ≤ 20000 := by rw [str_size]; exact hsl2
      have f1 : ¬ (9223372036854775807 < (str s).size + 1) := by omega
      have f1' : ¬ (9223372036854775806 < (str s).size) := by omega
      have f2 : ¬ (9223372036854775807 < (str s).size + 1 + (str (sg o)).size) := by omega
      have f3 : ¬ (9223372036854775807 < (str s).size + 1 + (str (sg o)).size + 1) := by omega
      have f3' : ¬ (9223372036854775806 < (str s).size + 1 + (str (sg o)).size) := by omega
      have f4 : ¬ (9223372036854775807 < (str s).size + 1 + (str (sg o)).size + 1 + (str s2).size) := by omega
      have HR : Hid (str R = str s ++ ⟨#[32]⟩ ++ str (sg o) ++ ⟨#[32]⟩ ++ str s2) := by
        show _ = _
        rw [hR, str_app, str_app, str_app, str_app]; rfl
      have HO := Lib.hid hO
      have HP := Lib.hid hP
      have HP2 := Lib.hid hP2
      clear hO hP hP2 hsl hsl2 hop ho y1 y2 y3 hR
      generalize sg o = so at hso z1 HR f1 f2 f3 f3' f4
      go_upto_region 11 with (first
        | (go_at_call 109; refine (HO.out _ HLB.out).mono ?_; rintro e w1 ⟨A, c1, rfl, hints, hb1⟩))
      obtain ⟨b2, off2, c2, hV, hc2, hbl2, hat2⟩ := hints.at_ (by simp)
      simp only [List.length_cons, List.length_nil, Value.slice.injEq] at hV
      obtain ⟨rfl, _, rfl⟩ := hV
      have hk0 := hat2 0 (by simp)
      have hk1 := hat2 1 (by simp)
      simp only [List.getElem_cons_zero, List.getElem_cons_succ, Nat.add_zero] at hk0 hk1
      have v0 := (hb1.cell (p := ⟨h5, 0, none⟩) l5).trans y0
      have v1 := (hb1.cell (p := ⟨h6, o, none⟩) l6).trans hso
      have v2 := (hb1.cell (p := ⟨w.heap.size, 0, none⟩) l0).trans lbx
      have lw := Nat.lt_of_lt_of_le l0 hb1.size
      have m5 := Nat.lt_of_lt_of_le l5 hb1.size
      have m6 := Nat.lt_of_lt_of_le l6 hb1.size
      have HB1 := Lib.hid (bt HLB.out hb1)
      have hc10 : 2 ≤ c1 := by simpa using hc2
      have HV := Lib.hid (And.intro v0 (And.intro v1 (And.intro hk0 (And.intro hk1 v2))))
      have hkk2 : (k : Int) ≠ (k2 : Int) := by omega
      clear hat2 hc2 hb1 hints y0 hso lbx l0 l5 l6
      go_region_held3 (fun w' => w'.cell? ⟨h5, 0, none⟩ = some (.int .i64 o) ∧ w'.cell? ⟨h6, o, none⟩ = some (.string (str so)) ∧ w'.cell? ⟨b2, off2, none⟩ = some (.int .i64 k) ∧ w'.cell? ⟨b2, off2 + 1, none⟩ = some (.int .i64 k2)) (first | exact ⟨by assumption, by assumption, by assumption, by assumption⟩ | go_keep)
        (first
        | (go_at_call_of 124 (Value.int .i64 (k : Int)); refine (HP.out _ ?_ ?_ ?_).mono ?_; (exact bdr HB1.out); (exact v2); (exact lw); rintro e w2 ⟨rfl, hb2⟩; have q0 := (hb2.cell (p := ⟨h5, 0, none⟩) m5).trans HV.out.1; have q1 := (hb2.cell (p := ⟨h6, o, none⟩) m6).trans HV.out.2.1; have q2 := (hb2.cell (p := ⟨b2, off2, none⟩) hbl2).trans HV.out.2.2.1; have q3 := (hb2.cell (p := ⟨b2, off2 + 1, none⟩) hbl2).trans HV.out.2.2.2.1; have q4 := (hb2.cell (p := ⟨w.heap.size, 0, none⟩) lw).trans HV.out.2.2.2.2; have HV2 := Lib.hid (And.intro q0 (And.intro q1 (And.intro q2 q3))); have lw2 := Nat.lt_of_lt_of_le lw hb2.size; have n5 := Nat.lt_of_lt_of_le m5 hb2.size; have n6 := Nat.lt_of_lt_of_le m6 hb2.size; have nb2 := Nat.lt_of_lt_of_le hbl2 hb2.size; have hB2 := bt (bdr HB1.out) hb2)
        | (go_at_call_of 124 (Value.int .i64 (k2 : Int)); refine (HP2.out _ ?_ ?_ ?_).mono ?_; (exact hB2); (exact q4); (exact lw2); rintro e w3 ⟨rfl, hb3⟩; have r0 := (hb3.cell (p := ⟨h5, 0, none⟩) n5).trans HV2.out.1; have r1 := (hb3.cell (p := ⟨h6, o, none⟩) n6).trans HV2.out.2.1; have r2 := (hb3.cell (p := ⟨b2, off2, none⟩) nb2).trans HV2.out.2.2.1; have r3 := (hb3.cell (p := ⟨b2, off2 + 1, none⟩) nb2).trans HV2.out.2.2.2; have hB3 := bt hB2 hb3))
      all_goals
        go_wp2_with fail
        go_ret
        exact ⟨ret_str HR.out.symm, hB3⟩
end Go.Proofs.YtaoeaaebafcegaaGreatDoor
namespace Go.Proofs.YtaoeaaebafcegaaGreatDoor
open Go Go.RowKit
set_option linter.unusedVariables false
theorem show_n (l : List Nod) (v : Value) (hl : l.length ≤ 1000) (hm : ∀ x ∈ l, mayE x = true) : ∀ (N : Nat) (e : Ex) (i : Nat) (w : World), Nods w v l → Env w → e.flat.length ≤ N → e.ok → AtE l i e →
    Calls Tryz.prog 112 #[v, .int .i64 i] w fun r w' => r = .returned (.string (str e.show)) ∧ Below w.heap.size w w'
  | 0, e, i, w, h, hE, hN, ho, ha => by have := e.flat_pos; omega
  | N + 1, e, i, w, h, hE, hN, ho, ha => by
    have hil := ha.lt
    have hle := ha.le
    have hem := ha.may hm
    have hops := fun u (hu : Below w.heap.size w u) => operands_c l v u (h.below hu) (by omega) e i ho ha
    obtain ⟨b, off, c, rfl, hcc, hbt, hat⟩ := h.at_ (by omega)
    have x1 := hat i hil
    rw [ha.top] at x1
    -- a kid, shown as a part
    have hkid : ∀ (k : Nat) (a : Ex), a.ok → AtE l k a → a.flat.length ≤ N → ∀ u, Below w.heap.size w u → u.cell? ⟨w.heap.size, 0, none⟩ = some (.slice (some ⟨b, off, none⟩) l.length c) → w.heap.size < u.heap.size →
        Calls Tryz.prog 124 #[.int .i64 k, .pointer (some ⟨w.heap.size, 0, none⟩)] u fun r w' => r = .returned (.string (str (a.sh true))) ∧ Below u.heap.size u w' := by
      intro k a hao hka han u hu hbx hlt
      have hkl := hka.lt
      have hm2 := hka.may hm
      have hsl := show_len a hao hm2
      have hal := hka.le
      have xk := hat k hkl
      rw [hka.top] at xk
      have xu : NodAt u b (off + k * 4) a.top := ⟨(hu.cell (p := ⟨b, off + k * 4, none⟩) hbt).trans xk.op, (hu.cell (p := ⟨b, off + k * 4 + 1, none⟩) hbt).trans xk.n, (hu.cell (p := ⟨b, off + k * 4 + 2, none⟩) hbt).trans xk.name, (hu.cell (p := ⟨b, off + k * 4 + 3, none⟩) hbt).trans xk.pos⟩
      have := partE_c b off l.length c k w.heap.size a.top u hkl hcc (Nat.lt_of_lt_of_le hbt hu.size) hlt xu hbx a.show (by omega) (Lib.hid fun u2 hu2 => show_n l _ hl hm N a k u2 (h.below (bt hu hu2)) (hE.below (bt hu hu2)) han hao hka)
      rw [prS_sh a hao] at this
      exact this
    refine show_walk b off l.length c i e.top w hil hcc hbt x1 e.show ?_
    match e, hN, ho, ha, hem, x1, hle, hops with
    | .leaf x, hN, ho, ha, hem, x1, hle, hops =>
      rcases kids_op.1 (show kidsE x.op = 0 from ho) with h1 | h1
      · exact .inl ⟨h1, hem x (by simp [Ex.flat]), hE, by unfold Ex.show; rw [if_pos h1]; rfl⟩
      · exact .inr (.inl ⟨h1, by unfold Ex.show; rw [if_neg (by omega)]; rfl⟩)
    | .one x a, hN, ho, ha, hem, x1, hle, hops =>
      have hka := ha.kid 0 (by simp [Ex.ks])
      rw [posK_zero] at hka
      have hal : a.flat.length ≤ N := by simp only [Ex.flat, List.length_cons] at hN; omega
      have hsl := a.sh_len true ho.2 (Ex.may_one hem).2
      have hal2 := hka.le
      simp only [Ex.ks, List.getElem_cons_zero] at hka hal2
      exact .inr (.inr (.inl ⟨kids_op.2.1 ho.1, i + 1, a.sh true, by omega, rfl, hops, hkid (i + 1) a ho.2 hka hal⟩))
    | .two x ea eb, hN, ho, ha, hem, x1, hle, hops =>
      have hka := ha.kid 0 (by simp [Ex.ks])
      have hkb := ha.kid 1 (by simp [Ex.ks])
      rw [posK_succ i _ 0 (by simp [Ex.ks])] at hkb
      rw [posK_zero] at hka hkb
      have hal : ea.flat.length ≤ N ∧ eb.flat.length ≤ N := by simp only [Ex.flat, List.length_cons, List.length_append] at hN; omega
      obtain ⟨hmx, hma, hmb⟩ := Ex.may_two hem
      have hsa := ea.sh_len true ho.2.1 hma
      have hsb := eb.sh_len true ho.2.2 hmb
      have hal2 := hka.le
      have hbl2 := hkb.le
      have hpa := ea.flat_pos
      have hp2 : posL i (Ex.two x ea eb).ks 2 = [i + 1, i + 1 + ea.flat.length] := by
        have h1 := posL_succ i (Ex.two x ea eb).ks 1
        have h2 := posL_succ i (Ex.two x ea eb).ks 0
        rw [h1, h2, posK_succ i _ 0 (by simp [Ex.ks]), posK_zero]
        rfl
      simp only [Ex.ks, List.getElem_cons_zero, List.getElem_cons_succ] at hka hkb hal2 hbl2
      refine .inr (.inr (.inr ⟨kids_op.2.2 ho.1, i + 1, i + 1 + ea.flat.length, ea.sh true, eb.sh true, by omega, by omega, by omega, rfl, fun u hu => ?_, hkid _ ea ho.2.1 hka hal.1, hkid _ eb ho.2.2 hkb hal.2⟩))
      have := hops u hu
      simp only [show (Ex.two x ea eb).ks.length = 2 from rfl] at this
      rw [hp2] at this
      exact this
theorem Show_c (l : List Nod) (hl : l.length ≤ 100000) (hn : ∀ x ∈ l, x.name.length ≤ 1000000) (v : Value) (w : World) (hv : Nods w v l) (hE : Env w) :
    Calls Tryz.prog 93 #[v] w fun e w' => e = .returned (.string (str (showE l))) ∧ Below w.heap.size w w' := by
  obtain ⟨A0, c0, rfl, hc0⟩ := hv.shape
  have HR := Lib.hid (Right_c l hl hn _ w hv hE)
  cases hr : rightE l
  · have HS := Lib.hid (showE_not hr).1
    rw [hr] at HR
    clear hv hn hr hE
    go_enter Tryz.func93, Tryz.ntmps93
    go_wp2_with (go_at_call 60; refine (HR.out).mono ?_; rintro e w1 ⟨rfl, hb1⟩)
    go_ret
    exact ⟨ret_str (by rw [HS.out]; rfl), hb1⟩
  · obtain ⟨e, h1, h2, h3, h4, h5, h6, h7⟩ := showE_tree hr
    have HS := Lib.hid h6
    have HC : Hid (∀ u, Below w.heap.size w u → Calls Tryz.prog 112 #[.slice A0 l.length c0, .int .i64 0] u fun r w' => r = .returned (.string (str e.show)) ∧ Below u.heap.size u w') := fun u hu => by
      subst h3
      exact show_n e.flat _ (by omega) (fun x hx => h2 x hx) _ e 0 u (hv.below hu) (hE.below hu) (Nat.le_refl _) h1 (AtE.whole e)
    rw [hr] at HR
    clear hv hn hr h1 h2 h3 h5 h6 h7 hE
    generalize e.show = s at HC HS
    go_enter Tryz.func93, Tryz.ntmps93
    go_wp2_with (first
      | (go_at_call 60; refine (HR.out).mono ?_; rintro e w1 ⟨rfl, hb1⟩)
      | (go_at_call 112; refine (HC.out _ hb1).mono ?_; rintro e w2 ⟨rfl, hb2⟩))
    go_ret
    exact ⟨ret_str (by rw [HS.out]), bt hb1 hb2⟩
end Go.Proofs.YtaoeaaebafcegaaGreatDoor

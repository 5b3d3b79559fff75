/- Chapter 04 (statements), joined: NodA. -/
import Derived.Test.YtaoeaaebafcegaaGreatDoorPkA06
import Derived.Test.YtaoeaaebafcegaaGreatDoorRows
import Derived.BigQuiet
import Derived.Deep.QuietTactic
import Derived.WalkKit
import Derived.WalkLawsBesides
import Derived.WalkSpells
set_option maxRecDepth 100000
set_option maxHeartbeats 1000000
namespace Go.Proofs.YtaoeaaebafcegaaGreatDoor
open Go Go.RowKit
set_option linter.unusedVariables false
theorem many_c (op:Int) (w:World):Calls Tryz.prog 108 #[.int .i64 op] w fun e w'=>e = .returned (.int .i64 (kidsE op))∧w=w':=by
 rcases kidsE_cases op with rfl | rfl | rfl | rfl | ⟨h1,h2⟩ | h
 iterate 4
  ·go_enter Tryz.func108,Tryz.ntmps108
   go_wp2
   go_ret
   exact ⟨rfl,rfl⟩
 ·have HK:=Lib.hid (kidsE_two h1 h2)
  have e1:(op == 1)=false:=by simp;omega
  have e2:(op == 2)=false:=by simp;omega
  have e3:(op == 3)=false:=by simp;omega
  have e4:(op == 4)=false:=by simp;omega
  go_enter Tryz.func108,Tryz.ntmps108
  go_wp2
  go_ret
  exact ⟨ret_int HK.out.symm,rfl⟩
 ·have HK:=Lib.hid (kidsE_no h)
  have e1:(op == 1)=false:=by simp;omega
  have e2:(op == 2)=false:=by simp;omega
  have e3:(op == 3)=false:=by simp;omega
  have e4:(op == 4)=false:=by simp;omega
  rcases h with h | h
  ·have h5:¬ (5:Int)≤op:=by omega
   go_enter Tryz.func108,Tryz.ntmps108
   go_wp2
   go_ret
   exact ⟨ret_int HK.out.symm,rfl⟩
  ·have h5:(5:Int)≤op:=by omega
   have h6:¬ op≤(15:Int):=by omega
   go_enter Tryz.func108,Tryz.ntmps108
   go_wp2
   go_ret
   exact ⟨ret_int HK.out.symm,rfl⟩
theorem kids_c (op:Int) (w:World):Calls Tryz.prog 110 #[.int .i64 op] w fun e w'=>e = .returned (.int .i64 (kidsE op))∧w=w':=by
 rcases kidsE_cases op with rfl | rfl | rfl | rfl | ⟨h1,h2⟩ | h
 iterate 4
  ·go_enter Tryz.func110,Tryz.ntmps110
   go_wp2
   go_ret
   exact ⟨rfl,rfl⟩
 ·have HK:=Lib.hid (kidsE_two h1 h2)
  have e1:(op == 1)=false:=by simp;omega
  have e2:(op == 2)=false:=by simp;omega
  have e3:(op == 3)=false:=by simp;omega
  have e4:(op == 4)=false:=by simp;omega
  go_enter Tryz.func110,Tryz.ntmps110
  go_wp2
  go_ret
  exact ⟨ret_int HK.out.symm,rfl⟩
 ·have HK:=Lib.hid (kidsE_no h)
  have e1:(op == 1)=false:=by simp;omega
  have e2:(op == 2)=false:=by simp;omega
  have e3:(op == 3)=false:=by simp;omega
  have e4:(op == 4)=false:=by simp;omega
  rcases h with h | h
  ·have h5:¬ (5:Int)≤op:=by omega
   go_enter Tryz.func110,Tryz.ntmps110
   go_wp2
   go_ret
   exact ⟨ret_int HK.out.symm,rfl⟩
  ·have h5:(5:Int)≤op:=by omega
   have h6:¬ op≤(15:Int):=by omega
   go_enter Tryz.func110,Tryz.ntmps110
   go_wp2
   go_ret
   exact ⟨ret_int HK.out.symm,rfl⟩
end Go.Proofs.YtaoeaaebafcegaaGreatDoor
namespace Go.Proofs.YtaoeaaebafcegaaGreatDoor
open Go Go.RowKit
set_option linter.unusedVariables false
theorem end_c (l:List Nod) (v:Value) (w:World) (h:Nods w v l) (hl:l.length≤100000) (i0:Int) : 
 Calls Tryz.prog 87 #[v,.int .i64 i0] w fun e w'=>e = .returned (.int .i64 (endE l i0))∧w=w':=by
 by_cases h0:0 < l.length
 ·obtain ⟨b,off,c,rfl,hc,hbl,hat⟩:=h.at_ h0
  have HAT:=Lib.hid hat
  clear hat h
  go_enter Tryz.func87,Tryz.ntmps87
  go_wp2
  go_loop [1,5] (fun i g=>∃ (j:Int) (k:Nat),i = .int .i64 j∧g = .int .i64 k∧k≤300000∧(k≤1∨(0≤j∧j≤l.length∧(k:Int)≤2*j+1))∧endW l j k=endE l i0) (fun i _=>l.length - (intOf i).toNat)
  case atStart=>exact ⟨i0,1,rfl,rfl,by omega,.inl (Nat.le_refl _),rfl⟩
  case round =>
   obtain ⟨j,k,rfl,rfl,hk,hjk,hE⟩:=hrel
   have HE:=Lib.hid hE
   clear hE
   by_cases hk0:k=0
   ·subst hk0
    go_wp2_with fail
    go_ret
    exact ⟨ret_int HE.out,rfl⟩
   ·have hk1:(0:Int) < (k:Int):=by omega
    by_cases hneg:j < 0
    ·have HO:=Lib.hid (endW_out (l:=l) (by omega:0 < k) (.inl hneg))
     go_wp2_with fail
     go_ret
     exact ⟨ret_int (HO.out.symm.trans HE.out),rfl⟩
    ·obtain ⟨m,rfl⟩:=Int.eq_ofNat_of_zero_le (show 0≤j by omega)
     by_cases hml:m < l.length
     ·have ht:=(HAT.out m hml).op
      by_cases hkn:kidsE (l[m]).op < 0
      ·have HO:=Lib.hid (endW_no (by omega:0 < k) hml hkn)
       have hk':kidsE (l[m]).op = -1:=by have:=kidsE_le (l[m]).op;omega
       have HM:Hid (∀ u,Calls Tryz.prog 108 #[.int .i64 (l[m]).op] u fun e w'=>e = .returned (.int .i64 (-1))∧u=w'):=fun u=>by rw [← hk'];exact many_c _ u
       go_wp2_with (go_at_call 108;refine (HM.out _).mono ?_;rintro e w' ⟨rfl,rfl⟩)
       go_ret
       exact ⟨ret_int (HO.out.symm.trans HE.out),rfl⟩
      ·have HO:=Lib.hid (endW_step (by omega:0 < k) hml hkn)
       have hkk:=(kidsE_le (l[m]).op).2
       obtain ⟨g,hg⟩:=Int.eq_ofNat_of_zero_le (show 0≤kidsE (l[m]).op by omega)
       have HM:Hid (∀ u,Calls Tryz.prog 108 #[.int .i64 (l[m]).op] u fun e w'=>e = .returned (.int .i64 (g:Int))∧u=w'):=fun u=>by rw [← hg];exact many_c _ u
       have HG:Hid (k - 1+(kidsE (l[m]).op).toNat=k - 1+g):=by show _=_;rw [hg,Int.toNat_natCast]
       have hg2:g≤2:=by omega
       have hgn:((g:Int) == -1)=false:=by rw [beq_eq_false_iff_ne];omega
       clear hg hkn hkk
       go_wp2_with (go_at_call 108;refine (HM.out _).mono ?_;rintro e w' ⟨rfl,rfl⟩)
       go_round
       case rel =>
        refine ⟨((m+1:Nat):Int),k - 1+g,by go_num,?_,by omega,?_,?_⟩
        ·have e:((k - 1+g:Nat):Int)=(k:Int)+(g:Int) - 1:=by omega
         rw [e]
        ·rcases hjk with h1 | h1
         ·exact .inr ⟨by omega,by omega,by omega⟩
         ·exact .inr ⟨by omega,by omega,by omega⟩
        ·rw [← HG.out];exact HO.out.symm.trans HE.out
       case measure=>simp [intOf];omega
     ·have HO:=Lib.hid (endW_out (l:=l) (i:=(m:Int)) (by omega:0 < k) (.inr (by omega)))
      go_wp2_with fail
      go_ret
      exact ⟨ret_int (HO.out.symm.trans HE.out),rfl⟩
 ·obtain ⟨A,c,rfl,hc⟩:=h.shape
  have hl0:l.length=0:=by omega
  have HO:=Lib.hid (endE_out (l:=l) (i:=i0) (by omega))
  rw [hl0]
  rw [hl0] at hc
  go_enter Tryz.func87,Tryz.ntmps87
  go_wp2
  go_loop [1,5] (fun i g=>i = .int .i64 i0∧g = .int .i64 1) (fun _ _=>0)
  case atStart=>exact ⟨rfl,rfl⟩
  case round =>
   obtain ⟨rfl,rfl⟩:=hrel
   by_cases hneg:i0 < 0
   ·go_wp2_with fail
    go_ret
    exact ⟨ret_int HO.out.symm,rfl⟩
   ·have hp:(0:Int)≤i0:=by omega
    go_wp2_with fail
    go_ret
    exact ⟨ret_int HO.out.symm,rfl⟩
end Go.Proofs.YtaoeaaebafcegaaGreatDoor
namespace Go.Proofs.YtaoeaaebafcegaaGreatDoor
open Go Go.RowKit
set_option linter.unusedVariables false
theorem rend_out (l:List Nod) (v:Value) (w:World) (h:Nods w v l) (hl:l.length≤100000) (i0:Int) (ho:i0 < 0∨(l.length:Int)≤i0) :
 Calls Tryz.prog 90 #[v,.int .i64 i0] w fun e w'=>e = .returned (.int .i64 (endE l i0))∧w=w':=by
 obtain ⟨A,c,rfl,hc⟩:=h.shape
 have HO:=Lib.hid (endE_out (l:=l) (i:=i0) ho)
 by_cases hneg:i0 < 0
 ·go_enter Tryz.func90,Tryz.ntmps90
  go_wp2
  go_ret
  exact ⟨ret_int HO.out.symm,rfl⟩
 ·have hp:(l.length:Int)≤i0:=by omega
  go_enter Tryz.func90,Tryz.ntmps90
  go_wp2
  go_ret
  exact ⟨ret_int HO.out.symm,rfl⟩
theorem rend_n (l : List Nod) (v : Value) (w : World) (h : Nods w v l) (hl : l.length ≤ 100000) : ∀ n m : Nat, l.length ≤ m + n →
    Calls Tryz.prog 90 #[v, .int .i64 m] w fun e w' => e = .returned (.int .i64 (endE l m)) ∧ w = w'
  | 0, m, hn => rend_out l v w h hl m (.inr (by omega))
  | n + 1, m, hn => by
    by_cases hml : m < l.length
    · have IH : Hid (∀ m' : Nat, m < m' → Calls Tryz.prog 90 #[v, .int .i64 m'] w fun e w' => e = .returned (.int .i64 (endE l m')) ∧ w = w') := fun m' hm' => rend_n l v w h hl n m' (by omega)
      obtain ⟨b, off, c, rfl, hc, hbl, hat⟩ := h.at_ (by omega)
      have ht := (hat m hml).op
      clear hat h
      by_cases hkn : kidsE (l[m]).op < 0
      · have HO := Lib.hid (endE_no hml hkn)
        have hk' : kidsE (l[m]).op = -1 := by have := kidsE_le (l[m]).op; omega
        have HM : Hid (∀ u, Calls Tryz.prog 110 #[.int .i64 (l[m]).op] u fun e w' => e = .returned (.int .i64 (-1)) ∧ u = w') := fun u => by rw [← hk']; exact kids_c _ u
        go_enter Tryz.func90, Tryz.ntmps90
        go_wp2_with (go_at_call 110; refine (HM.out _).mono ?_; rintro e w' ⟨rfl, rfl⟩)
        go_ret
        exact ⟨ret_int HO.out.symm, rfl⟩
      · have HO := Lib.hid (endE_in hml hkn)
        have hkk := (kidsE_le (l[m]).op).2
        obtain ⟨g, hg⟩ := Int.eq_ofNat_of_zero_le (show 0 ≤ kidsE (l[m]).op by omega)
        have HM : Hid (∀ u, Calls Tryz.prog 110 #[.int .i64 (l[m]).op] u fun e w' => e = .returned (.int .i64 (g : Int)) ∧ u = w') := fun u => by rw [← hg]; exact kids_c _ u
        have HG : Hid (endE l m = endW l ((m + 1 : Nat) : Int) g) := by show _ = _; rw [HO.out, hg, Int.toNat_natCast]
        have hg2 : g ≤ 2 := by omega
        clear hg hkn hkk
        have e1 : decide (l.length ≤ m) = false := by simp; omega
        have e2 : decide ((m : Int) < 0) = false := by simp
        have e3 : decide ((g : Int) < 0) = false := by simp
        go_enter Tryz.func90, Tryz.ntmps90
        go_wp2_with (go_at_call 110; refine (HM.out _).mono ?_; rintro e w' ⟨rfl, rfl⟩)
        go_loopw [5, 6] (fun i k w' => w = w' ∧ ∃ j : Nat, j ≤ g ∧ i = .int .i64 (endW l ((m + 1 : Nat) : Int) j) ∧ k = .int .i64 j) (fun _ k _ => 2 - (intOf k).toNat)
        case atStart => exact ⟨rfl, 0, Nat.zero_le _, by rw [endW_zero]; go_num, rfl⟩
        case round =>
          obtain ⟨rfl, j, hj, rfl, rfl⟩ := hrel
          have hb := endW_bound l (m + 1) j (by omega)
          have HS := Lib.hid (endW_succ l (m + 1) j)
          have HP : Hid (endW l ((m + 1 : Nat) : Int) j < 0 → endW l ((m + 1 : Nat) : Int) g = -1) := by
            show _ → _
            intro hlt
            have : ∀ d, endW l ((m + 1 : Nat) : Int) (j + d) = -1 := fun d => by
              induction d with
              | zero => rcases hb with h | h
                        · exact h
                        · omega
              | succ d ih => rw [show j + (d + 1) = j + d + 1 by omega, endW_succ, ih]; rfl
            have := this (g - j)
            rw [show j + (g - j) = g by omega] at this
            exact this
          have HJ : Hid (∀ x, x = g → j = x → endW l ((m + 1 : Nat) : Int) j = endW l ((m + 1 : Nat) : Int) g) := fun x e e2 => by rw [e2, e]
          generalize endW l ((m + 1 : Nat) : Int) j = z at hb HS HP HJ
          by_cases hjg : j < g
          · rcases hb with rfl | ⟨hb1, hb2⟩
            · go_wp2_with (go_at_call 110; refine (HM.out _).mono ?_; rintro e w' ⟨rfl, rfl⟩)
              go_ret
              exact ⟨ret_int ((HP.out (by omega)).symm.trans HG.out.symm), rfl⟩
            · obtain ⟨z, rfl⟩ := Int.eq_ofNat_of_zero_le (show 0 ≤ z by omega)
              have HC := Lib.hid (IH.out z (by omega))
              go_wp2_with (first | (go_at_call 110; refine (HM.out _).mono ?_; rintro e w' ⟨rfl, rfl⟩) | (go_at_call 90; refine (HC.out).mono ?_; rintro e w' ⟨rfl, rfl⟩))
              go_roundw
              case rel =>
                have HS2 : endW l ((m + 1 : Nat) : Int) (j + 1) = endE l z := by rw [HS.out, if_neg (by omega)]
                rw [← HS2]
                exact ⟨by trivial, j + 1, by omega, rfl, by go_num⟩
              case measure => simp [intOf]; omega
          · obtain rfl : j = g := by omega
            go_wp2_with (go_at_call 110; refine (HM.out _).mono ?_; rintro e w' ⟨rfl, rfl⟩)
            go_ret
            exact ⟨ret_int ((HJ.out _ rfl rfl).trans HG.out.symm), rfl⟩
    · exact rend_out l v w h hl m (.inr (by omega))
theorem rend_c (l:List Nod) (v:Value) (w:World) (h:Nods w v l) (hl:l.length≤100000) (i0:Int) :
 Calls Tryz.prog 90 #[v,.int .i64 i0] w fun e w'=>e = .returned (.int .i64 (endE l i0))∧w=w':=by
 by_cases hn:i0 < 0
 ·exact rend_out l v w h hl i0 (.inl hn)
 ·obtain ⟨m,rfl⟩:=Int.eq_ofNat_of_zero_le (show 0≤i0 by omega)
  exact rend_n l v w h hl l.length m (by omega)
end Go.Proofs.YtaoeaaebafcegaaGreatDoor

/- Chapter 04 (statements), joined: ScanName. -/
import Derived.Test.YtaoeaaebafcegaaGreatDoorPkA00
import Derived.Test.YtaoeaaebafcegaaGreatDoorPkA01
import Derived.Test.YtaoeaaebafcegaaGreatDoorRows
import Derived.BigQuiet
import Derived.Deep.QuietTactic
import Derived.WalkKit
import Derived.WalkLawsBesides
import Derived.WalkSpells
set_option maxRecDepth 100000
set_option maxHeartbeats 400000
namespace Go.Proofs.YtaoeaaebafcegaaGreatDoor
open Go Go.RowKit
set_option linter.unusedVariables false
theorem letter_c (c:UInt8) (w:World):Calls Tryz.prog 79 #[.int .u8 c.toNat] w fun e w'=>e = .returned (.bool (letterE c))∧w=w':=by
 have hb:(c.toNat:Int) < 256:=by have:=c.toNat_lt;omega
 have HV:=letterE_int c
 cases h1:decide (97≤(c.toNat:Int)) <;> cases h2:decide ((c.toNat:Int)≤122) <;> cases h3:((c.toNat:Int) == 95)
 all_goals
  rw [h1,h2,h3] at HV
  have HV2:=Lib.hid HV
  clear HV
  go_enter Tryz.func79,Tryz.ntmps79
  go_wp2
  go_ret
  exact ⟨ret_bool (by rw [HV2.out];rfl),rfl⟩
theorem rletter_c (c:UInt8) (w:World):Calls Tryz.prog 43 #[.int .u8 c.toNat] w fun e w'=>e = .returned (.bool (letterE c))∧w=w':=by
 have hb:(c.toNat:Int) < 256:=by have:=c.toNat_lt;omega
 have HV:=letterE_int c
 cases h1:decide (97≤(c.toNat:Int)) <;> cases h2:decide ((c.toNat:Int)≤122) <;> cases h3:((c.toNat:Int) == 95)
 all_goals
  rw [h1,h2,h3] at HV
  have HV2:=Lib.hid HV
  clear HV
  go_enter Tryz.func43,Tryz.ntmps43
  go_wp2
  go_ret
  exact ⟨ret_bool (by rw [HV2.out];rfl),rfl⟩
theorem digit_c (c:UInt8) (w:World):Calls Tryz.prog 83 #[.int .u8 c.toNat] w fun e w'=>e = .returned (.bool (digitE c))∧w=w':=by
 have hb:(c.toNat:Int) < 256:=by have:=c.toNat_lt;omega
 have HV:=digitE_int c
 cases h1:decide (48≤(c.toNat:Int)) <;> cases h2:decide ((c.toNat:Int)≤57)
 all_goals
  rw [h1,h2] at HV
  have HV2:=Lib.hid HV
  clear HV
  go_enter Tryz.func83,Tryz.ntmps83
  go_wp2
  go_ret
  exact ⟨ret_bool (by rw [HV2.out];rfl),rfl⟩
theorem rdigit_c (c:UInt8) (w:World):Calls Tryz.prog 44 #[.int .u8 c.toNat] w fun e w'=>e = .returned (.bool (digitE c))∧w=w':=by
 have hb:(c.toNat:Int) < 256:=by have:=c.toNat_lt;omega
 have HV:=digitE_int c
 cases h1:decide (48≤(c.toNat:Int)) <;> cases h2:decide ((c.toNat:Int)≤57)
 all_goals
  rw [h1,h2] at HV
  have HV2:=Lib.hid HV
  clear HV
  go_enter Tryz.func44,Tryz.ntmps44
  go_wp2
  go_ret
  exact ⟨ret_bool (by rw [HV2.out];rfl),rfl⟩
theorem ld_c (c:UInt8) (w:World):Calls Tryz.prog 82 #[.int .u8 c.toNat] w fun e w'=>e = .returned (.bool (ldE c))∧w=w':=by
 have HV:=Lib.hid (show ldE c=(letterE c || digitE c) from rfl)
 cases h1:letterE c
 all_goals
  have HV2:=HV.out
  rw [h1] at HV2
  have HV3:=Lib.hid HV2
  clear HV2 HV
  go_enter Tryz.func82,Tryz.ntmps82
  go_wp2_with (first | (go_at_call 79;refine (letter_c _ _).mono ?_;rintro e w' ⟨rfl,rfl⟩) | (go_at_call 83;refine (digit_c _ _).mono ?_;rintro e w' ⟨rfl,rfl⟩))
  go_ret
  exact ⟨ret_bool (by rw [HV3.out];rfl),rfl⟩
theorem run_ld (s:ByteArray) (hs:s.size≤9223372036854775807) (w:World) :
 Calls Tryz.prog 81 #[.string s,.func (.func 82) #[] #[]] w fun e w'=>e = .returned (.int .i64 (s.data.toList.takeWhile ldE).length)∧w=w':=by
 go_enter Tryz.func81,Tryz.ntmps81
 go_wp2_with fail
 go_loop [5] (fun n=>∃ k:Nat,k≤s.size∧n = .int .i64 k∧∀ j (h:j < k) (h':j < s.size),ldE s[j] = true) (fun n=>s.size - (intOf n).toNat)
 case atStart=>exact ⟨0,Nat.zero_le _,rfl,fun j h=>absurd h (by omega)⟩
 case round =>
  obtain ⟨k,hk,rfl,hall⟩:=hrel
  have HA:=Lib.hid hall
  clear hall
  by_cases hlt:k < s.size
  ·cases hd:ldE (s[k]'hlt)
   ·have HS:=Lib.hid (tw_stop (p:=ldE) s.data.toList k (by simpa using hlt) (fun j h=>HA.out j h (by omega)) hd)
    go_wp2_with (go_at_call 82;refine (ld_c (s[k]'hlt) _).mono ?_;rintro e w' ⟨rfl,rfl⟩)
    go_ret
    exact ⟨ret_int (by rw [HS.out]),rfl⟩
   ·go_wp2_with (go_at_call 82;refine (ld_c (s[k]'hlt) _).mono ?_;rintro e w' ⟨rfl,rfl⟩)
    go_round
    case rel =>
     refine ⟨k+1,by omega,by go_num,fun j h h'=>?_⟩
     by_cases hj:j < k
     ·exact HA.out j hj h'
     ·obtain rfl:j=k:=by omega
      exact hd
    case measure=>simp [intOf];omega
  ·obtain rfl:k=s.size:=by omega
   have HS:=Lib.hid (tw_full (p:=ldE) s.data.toList (fun j h=>HA.out j (by simpa using h) (by simpa using h)))
   go_wp2_with fail
   go_ret
   exact ⟨ret_int (by rw [HS.out];simp),rfl⟩
structure KeptW (g:Nat) (w w':World):Prop where
 below:Below g w w'
 cell:∀ j,j < 21→w'.cell? ⟨g,j,none⟩=some (.string (str (kw j)))
theorem keptW_made (w:World):KeptW w.heap.size w (w.alloc (.cells (keptL.map fun t=>Value.string (str t)).toArray 9)):=by
 refine ⟨(Below.refl _ _).alloc (Nat.le_refl _) _,fun j h=>?_⟩
 rw [World.cell?_alloc_new,List.getElem?_toArray,List.getElem?_map,List.getElem?_eq_getElem (show j < keptL.length from h),kw_at]
 rfl
theorem rkept_c (s:List UInt8) (w:World) :
 Calls Tryz.prog 89 #[.string (str s)] w fun e w'=>e = .returned (.bool (keptE s))∧Below w.heap.size w w':=by
 go_enter Tryz.func89,Tryz.ntmps89
 go_wp2_with fail
 go_loopw [4] (fun i w'=>∃ k:Nat,k≤21∧i = .int .i64 k∧KeptW w.heap.size w w'∧∀ j,j < k→(kw j == s)=false) (fun i _=>21 - (intOf i).toNat)
 case atStart=>exact ⟨0,Nat.zero_le _,rfl,keptW_made w,fun j h=>absurd h (by omega)⟩
 case round =>
  obtain ⟨k,hk,rfl,hw,hno⟩:=hrel
  have HW:=Lib.hid hw
  have HN:=Lib.hid hno
  clear hw hno
  by_cases hlt:k < 21
  ·have hc:=HW.out.cell k hlt
   cases he:((str (kw k)).toList == (str s).toList)
   ·have HE:Hid ((kw k == s)=false):=by rw [str_toList,str_toList] at he;exact he
    generalize kw k=x at hc he
    go_wp2_with fail
    go_roundw
    case rel =>
     refine ⟨k+1,by omega,by go_num,HW.out,fun j h=>?_⟩
     by_cases hj:j < k
     ·exact HN.out j hj
     ·obtain rfl:j=k:=by omega
      exact HE.out
    case measure=>simp [intOf];omega
   ·have HE:Hid (keptE s=true):=by rw [str_toList,str_toList] at he;exact keptE_yes hlt he
    generalize kw k=x at hc he
    go_wp2_with fail
    go_ret
    exact ⟨ret_bool HE.out.symm,HW.out.below⟩
  ·obtain rfl:k=21:=by omega
   have HE:=Lib.hid (keptE_not (fun j h=>HN.out j h))
   go_wp2_with fail
   go_ret
   exact ⟨ret_bool HE.out.symm,HW.out.below⟩
end Go.Proofs.YtaoeaaebafcegaaGreatDoor

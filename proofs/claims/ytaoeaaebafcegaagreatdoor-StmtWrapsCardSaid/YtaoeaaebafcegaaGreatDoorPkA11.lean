/- Chapter 04 (statements), joined: ScanNames, RScanA. -/
import Derived.Test.YtaoeaaebafcegaaGreatDoorPkA04
import Derived.Test.YtaoeaaebafcegaaGreatDoorPkA08
set_option maxRecDepth 100000
set_option maxHeartbeats 1000000
namespace Go.Proofs.YtaoeaaebafcegaaGreatDoor
open Go Go.RowKit
set_option linter.unusedVariables false
theorem nameE_cons (c:UInt8) (r:List UInt8):nameE (c :: r)=(decide ((c :: r).length≤16) && letterE c && !keptE (c :: r) && (c :: r).all ldE):=rfl
def NamePost (s:List UInt8) (w:World) (e:Ending) (w':World):Prop:=e = .returned (.bool (nameE s))∧Below w.heap.size w w'
theorem name_c (s:List UInt8) (hs:s.length≤1000000) (w:World) (hE:Env w) :
 Calls Tryz.prog 58 #[.string (str s)] w (NamePost s w):=by
 have HE:=Lib.hid hE
 clear hE
 cases s with
 | nil =>
   have h0:(str []).toList.isEmpty=true:=by rw [str_toList];rfl
   have h1:(str []).toList = []:=str_toList _
   go_enter Tryz.func58,Tryz.ntmps58
   go_wp2_with fail
   go_ret
   exact ⟨rfl,Below.refl _ _⟩
 | cons c r =>
   have hsz:(str (c :: r)).size=r.length+1:=by rw [str_size];rfl
   have h0:(str (c :: r)).toList.isEmpty=false:=by rw [str_toList];rfl
   have h1:¬ (str (c :: r)).toList = []:=by rw [str_toList];simp
   have hp:0 < (str (c :: r)).size:=by omega
   have hc:(str (c :: r))[0]'hp=c:=rfl
   have HN:=Lib.hid (nameE_cons c r)
   have HK:=Lib.hid (Kept_c (c :: r) hs)
   have HR:=Lib.hid (run_ld (str (c :: r)) (by simp at hs;omega))
   have HRL:Hid (((((str (c :: r)).data.toList.takeWhile ldE).length:Int) == ((str (c :: r)).size:Int))=(c :: r).all ldE):=by
    show _=_
    rw [str_data,str_size,← takeWhile_all,Bool.eq_iff_iff,beq_iff_eq,beq_iff_eq]
    omega
   by_cases h16:(c :: r).length≤16
   ·have h16':¬ 16 < (str (c :: r)).size:=by simp at h16;omega
    cases hl:letterE c
    ·have HF:Hid (nameE (c :: r)=false):=by show _=_;rw [HN.out,hl];simp
     have HL:Hid (∀ u,Calls Tryz.prog 79 #[.int .u8 c.toNat] u fun e w'=>e = .returned (.bool false)∧u=w'):=fun u=>by rw [← hl];exact letter_c c u
     clear hsz h16 hl
     go_enter Tryz.func58,Tryz.ntmps58
     go_wp2_with (go_at_call 79;refine (HL.out _).mono ?_;rintro e w' ⟨rfl,rfl⟩)
     go_ret
     exact ⟨ret_bool HF.out.symm,Below.refl _ _⟩
    ·have HL:Hid (∀ u,Calls Tryz.prog 79 #[.int .u8 c.toNat] u fun e w'=>e = .returned (.bool true)∧u=w'):=fun u=>by rw [← hl];exact letter_c c u
     cases hk:keptE (c :: r)
     ·have HF:Hid (nameE (c :: r)=(c :: r).all ldE):=by show _=_;rw [HN.out,hl,hk,decide_eq_true h16];simp
      have HK2:Hid (∀ u,Env u→Calls Tryz.prog 80 #[.string (str (c :: r))] u fun e w'=>e = .returned (.bool false)∧Below u.heap.size u w'):=fun u hu=>by rw [← hk];exact HK.out u hu
      generalize (c :: r).all ldE=av at HRL HF
      clear hsz h16 hl hk HK
      go_enter Tryz.func58,Tryz.ntmps58
      go_wp2_with (first | (go_at_call 79;refine (HL.out _).mono ?_;rintro e w' ⟨rfl,rfl⟩) | (go_at_call 80;refine (HK2.out _ HE.out).mono ?_;rintro e w2 ⟨rfl,hb⟩) | (go_at_call 81;refine (HR.out _).mono ?_;rintro e w' ⟨rfl,rfl⟩))
      go_ret
      exact ⟨ret_bool (HRL.out.trans HF.out.symm),hb⟩
     ·have HF:Hid (nameE (c :: r)=false):=by show _=_;rw [HN.out,hk];simp
      have HK2:Hid (∀ u,Env u→Calls Tryz.prog 80 #[.string (str (c :: r))] u fun e w'=>e = .returned (.bool true)∧Below u.heap.size u w'):=fun u hu=>by rw [← hk];exact HK.out u hu
      clear hsz h16 hl hk HK
      go_enter Tryz.func58,Tryz.ntmps58
      go_wp2_with (first | (go_at_call 79;refine (HL.out _).mono ?_;rintro e w' ⟨rfl,rfl⟩) | (go_at_call 80;refine (HK2.out _ HE.out).mono ?_;rintro e w2 ⟨rfl,hb⟩))
      go_ret
      exact ⟨ret_bool HF.out.symm,hb⟩
   ·have h16':16 < (str (c :: r)).size:=by simp at h16;omega
    have HF:Hid (nameE (c :: r)=false):=by show _=_;rw [HN.out,decide_eq_false h16];rfl
    clear hsz hc h16
    go_enter Tryz.func58,Tryz.ntmps58
    go_wp2_with fail
    go_ret
    exact ⟨ret_bool HF.out.symm,Below.refl _ _⟩
theorem ld_false {c:UInt8} (h:ldE c=false):letterE c=false∧digitE c=false:=by
 unfold ldE at h;simpa using h
theorem rname_c (s:List UInt8) (hs:s.length≤1000000) (w:World) :
 Calls Tryz.prog 63 #[.string (str s)] w (NamePost s w):=by
 cases s with
 | nil =>
   have h0:(str []).size < 1:=by rw [str_size];decide
   have h2:(str []).size=0:=by rw [str_size];rfl
   go_enter Tryz.func63,Tryz.ntmps63
   go_wp2_with fail
   go_ret
   exact ⟨rfl,Below.refl _ _⟩
 | cons c r =>
   have hsz:(str (c :: r)).size=r.length+1:=by rw [str_size];rfl
   have hp:0 < (str (c :: r)).size:=by omega
   have hc:(str (c :: r))[0]'hp=c:=rfl
   have HN:=Lib.hid (nameE_cons c r)
   by_cases h16:(c :: r).length≤16
   ·have h16':¬ 16 < (str (c :: r)).size:=by simp at h16;omega
    cases hl:letterE c
    ·have HF:Hid (nameE (c :: r)=false):=by show _=_;rw [HN.out,hl];simp
     have HL:Hid (∀ u,Calls Tryz.prog 43 #[.int .u8 c.toNat] u fun e w'=>e = .returned (.bool false)∧u=w'):=fun u=>by rw [← hl];exact rletter_c c u
     clear hsz h16 hl
     go_enter Tryz.func63,Tryz.ntmps63
     go_wp2_with (go_at_call 43;refine (HL.out _).mono ?_;rintro e w' ⟨rfl,rfl⟩)
     go_ret
     exact ⟨ret_bool HF.out.symm,Below.refl _ _⟩
    ·have HL:Hid (∀ u,Calls Tryz.prog 43 #[.int .u8 c.toNat] u fun e w'=>e = .returned (.bool true)∧u=w'):=fun u=>by rw [← hl];exact rletter_c c u
     cases hk:keptE (c :: r)
     ·have HF:Hid (nameE (c :: r)=(c :: r).all ldE):=by show _=_;rw [HN.out,hl,hk,decide_eq_true h16];simp
      have HK2:Hid (∀ u,Calls Tryz.prog 89 #[.string (str (c :: r))] u fun e w'=>e = .returned (.bool false)∧Below u.heap.size u w'):=fun u=>by rw [← hk];exact rkept_c (c :: r) u
      have HS:=Lib.hid hsz
      have HLEN:=Lib.hid hs
      clear hsz h16 hl hk
      generalize hS:str (c :: r)=S at *
      have HSD:Hid (S.data.toList=c :: r):=by show _=_;rw [← hS,str_data]
      clear hS
      go_enter Tryz.func63,Tryz.ntmps63
      go_wp2_with (first | (go_at_call 43;refine (HL.out _).mono ?_;rintro e w' ⟨rfl,rfl⟩) | (go_at_call 89;refine (HK2.out _).mono ?_;rintro e w2 ⟨rfl,hb⟩))
      go_loop [3] (fun i=>∃ k:Nat,k≤S.size∧i = .int .i64 k∧∀ j (h:j < k) (h':j < S.size),ldE S[j] = true) (fun i=>S.size - (intOf i).toNat)
      case atStart=>exact ⟨0,Nat.zero_le _,rfl,fun j h=>absurd h (by omega)⟩
      case round =>
       obtain ⟨k,hk,rfl,hall⟩:=hrel
       have HA:=Lib.hid hall
       clear hall HL HK2
       have hs2:S.size≤1000000:=by have:=HS.out;have:=HLEN.out;simp at this;omega
       by_cases hlt:k < S.size
       ·have hb255:((S[k]'hlt).toNat:Int) < 256:=by have:=(S[k]'hlt).toNat_lt;omega
        cases hd:ldE (S[k]'hlt)
        ·have HX:Hid ((c :: r).all ldE=false):=by
          show _=_
          rw [← HSD.out,List.all_eq_false]
          exact ⟨S[k]'hlt,by exact List.getElem_mem (l:=S.data.toList) (by simpa using hlt),by simp [hd]⟩
         have h1:=(ld_false hd).1
         have h2:=(ld_false hd).2
         have HL:Hid (∀ u,Calls Tryz.prog 43 #[.int .u8 (S[k]'hlt).toNat] u fun e w'=>e = .returned (.bool false)∧u=w'):=fun u=>by rw [← h1];exact rletter_c _ u
         have HD:Hid (∀ u,Calls Tryz.prog 44 #[.int .u8 (S[k]'hlt).toNat] u fun e w'=>e = .returned (.bool false)∧u=w'):=fun u=>by rw [← h2];exact rdigit_c _ u
         clear h1 h2 hd
         go_wp2_with (first | (go_at_call 43;refine (HL.out _).mono ?_;rintro e w' ⟨rfl,rfl⟩) | (go_at_call 44;refine (HD.out _).mono ?_;rintro e w' ⟨rfl,rfl⟩))
         go_ret
         exact ⟨ret_bool (by rw [HF.out,HX.out]),hb⟩
        ·have HDT:=Lib.hid hd
         cases h1:letterE (S[k]'hlt)
         ·have h2:digitE (S[k]'hlt)=true:=by unfold ldE at hd;rw [h1] at hd;simpa using hd
          have HL:Hid (∀ u,Calls Tryz.prog 43 #[.int .u8 (S[k]'hlt).toNat] u fun e w'=>e = .returned (.bool false)∧u=w'):=fun u=>by rw [← h1];exact rletter_c _ u
          have HD:Hid (∀ u,Calls Tryz.prog 44 #[.int .u8 (S[k]'hlt).toNat] u fun e w'=>e = .returned (.bool true)∧u=w'):=fun u=>by rw [← h2];exact rdigit_c _ u
          clear h1 h2 hd
          go_wp2_with (first | (go_at_call 43;refine (HL.out _).mono ?_;rintro e w' ⟨rfl,rfl⟩) | (go_at_call 44;refine (HD.out _).mono ?_;rintro e w' ⟨rfl,rfl⟩))
          go_round
          case rel =>
           refine ⟨k+1,by omega,by go_num,fun j h h'=>?_⟩
           by_cases hj:j < k
           ·exact HA.out j hj h'
           ·obtain rfl:j=k:=by omega
            exact HDT.out
          case measure=>simp [intOf];omega
         ·have HL:Hid (∀ u,Calls Tryz.prog 43 #[.int .u8 (S[k]'hlt).toNat] u fun e w'=>e = .returned (.bool true)∧u=w'):=fun u=>by rw [← h1];exact rletter_c _ u
          clear h1 hd
          go_wp2_with (go_at_call 43;refine (HL.out _).mono ?_;rintro e w' ⟨rfl,rfl⟩)
          go_round
          case rel =>
           refine ⟨k+1,by omega,by go_num,fun j h h'=>?_⟩
           by_cases hj:j < k
           ·exact HA.out j hj h'
           ·obtain rfl:j=k:=by omega
            exact HDT.out
          case measure=>simp [intOf];omega
       ·have HX:Hid ((c :: r).all ldE=true):=by
         show _=_
         rw [← HSD.out,List.all_eq_true]
         intro x hx
         obtain ⟨j,hj,rfl⟩:=List.mem_iff_getElem.1 hx
         exact HA.out j (by have:j < S.size:=by simpa using hj
                            omega) (by simpa using hj)
        go_wp2_with fail
        go_ret
        exact ⟨ret_bool (by rw [HF.out,HX.out]),hb⟩
     ·have HF:Hid (nameE (c :: r)=false):=by show _=_;rw [HN.out,hk];simp
      have HK2:Hid (∀ u,Calls Tryz.prog 89 #[.string (str (c :: r))] u fun e w'=>e = .returned (.bool true)∧Below u.heap.size u w'):=fun u=>by rw [← hk];exact rkept_c (c :: r) u
      clear hsz h16 hl hk
      go_enter Tryz.func63,Tryz.ntmps63
      go_wp2_with (first | (go_at_call 43;refine (HL.out _).mono ?_;rintro e w' ⟨rfl,rfl⟩) | (go_at_call 89;refine (HK2.out _).mono ?_;rintro e w2 ⟨rfl,hb⟩))
      go_ret
      exact ⟨ret_bool HF.out.symm,hb⟩
   ·have h16':16 < (str (c :: r)).size:=by simp at h16;omega
    have HF:Hid (nameE (c :: r)=false):=by show _=_;rw [HN.out,decide_eq_false h16];rfl
    have h00:¬ (str (c :: r)).size < 1:=by omega
    clear hsz hc h16
    go_enter Tryz.func63,Tryz.ntmps63
    go_wp2_with fail
    go_ret
    exact ⟨ret_bool HF.out.symm,Below.refl _ _⟩
theorem prefix_len {t l:List UInt8} (h:l.length < t.length):t.isPrefixOf l=false:=by
 rw [Bool.eq_false_iff]
 intro hc
 have:=(List.isPrefixOf_iff_prefix.1 hc).length_le
 omega
theorem prefix_take {t l:List UInt8}:t.isPrefixOf l=(l.take t.length == t):=by
 rw [Bool.eq_iff_iff,List.isPrefixOf_iff_prefix,List.prefix_iff_eq_take,beq_iff_eq]
 exact eq_comm
theorem extract_toList (s:ByteArray) (a b:Nat):(s.extract a b).toList=(s.data.toList.drop a).take (b - a):=by
 rw [ByteArray.toList_eq,ByteArray.data_extract,Array.toList_extract,List.extract_eq_take_drop]
theorem begins_c (s t:ByteArray) (k:Nat) (hs:s.size≤1000000) (ht:t.size≤1000) (hk:k≤s.size) (w:World) :
 Calls Tryz.prog 70 #[.string s,.int .i64 k,.string t] w fun e w'=>e = .returned (.bool (t.data.toList.isPrefixOf (s.data.toList.drop k)))∧w=w':=by
 by_cases h:k+t.size≤s.size
 ·have HX:Hid (((s.extract k (k+t.size)).toList == t.toList)=t.data.toList.isPrefixOf (s.data.toList.drop k)):=by
   show _=_
   rw [prefix_take,extract_toList,ByteArray.toList_eq t]
   simp
  cases hv:((s.extract k (k+t.size)).toList == t.toList)
  all_goals
   have HV:=Lib.hid (HX.out.symm.trans hv)
   have hb:decide ((k:Int)+(t.size:Int)≤(s.size:Int))=true:=by simp;omega
   go_enter Tryz.func70,Tryz.ntmps70
   go_wp2
   go_ret
   exact ⟨ret_bool HV.out.symm,rfl⟩
 ·have HV:=Lib.hid (prefix_len (t:=t.data.toList) (l:=s.data.toList.drop k) (by simp;omega))
  have hb:decide ((k:Int)+(t.size:Int)≤(s.size:Int))=false:=by simp;omega
  go_enter Tryz.func70,Tryz.ntmps70
  go_wp2
  go_ret
  exact ⟨ret_bool HV.out.symm,rfl⟩
theorem drop_at (s:ByteArray) (k:Nat) (h:k < s.size):s.data.toList.drop k=s[k] :: s.data.toList.drop (k+1):=by
 rw [List.drop_eq_getElem_cons (by simpa using h)];rfl
theorem drop_end (s:ByteArray) (k:Nat) (h:s.size≤k):s.data.toList.drop k = []:=List.drop_of_length_le (by simpa using h)
theorem pastA_nil (b:Bool):pastA b [] = 0:=by cases b <;> rfl
theorem pastA_blank (c:UInt8) (r:List UInt8) (h:blankE c=true):pastA false (c :: r)=pastA false r+1:=by simp only [pastA,h,if_true]
theorem pastA_rem (c:UInt8) (r:List UInt8) (h:blankE c=false) (h2:[47,47].isPrefixOf (c :: r)=true):pastA false (c :: r)=pastA true r+1:=by
 have h3:c.toNat=47∧r.head? = some 47:=by
  cases r with
  | nil=>simp at h2
  | cons d r =>
    simp at h2
    rw [← h2.1,← h2.2];exact ⟨rfl,rfl⟩
 simp only [pastA,h,h3,and_self,if_true];rfl
theorem pastA_stop (c:UInt8) (r:List UInt8) (h:blankE c=false) (h2:[47,47].isPrefixOf (c :: r)=false):pastA false (c :: r)=0:=by
 have h3:¬ (c.toNat=47∧r.head? = some 47):=by
  rintro ⟨e1,e2⟩
  have e1:c=47:=UInt8.toNat_inj.1 e1
  cases r with
  | nil=>cases e2
  | cons d r =>
    have e2:d=47:=by simpa using e2
    rw [e1,e2] at h2;simp at h2
 simp only [pastA,h,h3,if_false];rfl
theorem pastA_in (c:UInt8) (r:List UInt8) (h:¬ c.toNat=10):pastA true (c :: r)=pastA true r+1:=by simp only [pastA,h,if_false]
theorem pastA_out (c:UInt8) (r:List UInt8) (h:c.toNat=10):pastA true (c :: r)=pastA false (c :: r):=by
 have hb:blankE c=true:=by simp [blankE,h]
 rw [pastA_blank c r hb];simp only [pastA,h,if_true]
theorem blankE_int (c:UInt8):blankE c=(((((c.toNat:Int) == 32) || ((c.toNat:Int) == 9)) || ((c.toNat:Int) == 10)) || ((c.toNat:Int) == 13)):=by
 rw [Bool.eq_iff_iff];simp [blankE];omega
theorem blank_cases (c:UInt8):blankE c=false∧((c.toNat:Int) == 32)=false∧((c.toNat:Int) == 9)=false∧((c.toNat:Int) == 10)=false∧((c.toNat:Int) == 13)=false ∨
 blankE c=true∧(((c.toNat:Int)=32)∨((c.toNat:Int)=9)∨((c.toNat:Int)=10)∨((c.toNat:Int)=13)):=by
 rw [blankE_int]
 by_cases h1:(c.toNat:Int)=32
 ·exact .inr ⟨by simp [h1],.inl h1⟩
 ·by_cases h2:(c.toNat:Int)=9
  ·exact .inr ⟨by simp [h2],.inr (.inl h2)⟩
  ·by_cases h3:(c.toNat:Int)=10
   ·exact .inr ⟨by simp [h3],.inr (.inr (.inl h3))⟩
   ·by_cases h4:(c.toNat:Int)=13
    ·exact .inr ⟨by simp [h4],.inr (.inr (.inr h4))⟩
    ·exact .inl ⟨by simp [h1,h2,h3,h4],by simpa using h1,by simpa using h2,by simpa using h3,by simpa using h4⟩
theorem past_c (s:ByteArray) (k0:Nat) (hs:s.size≤1000000) (hk0:k0≤s.size) (w:World) :
 Calls Tryz.prog 42 #[.string s,.int .i64 k0] w fun e w'=>e = .returned (.int .i64 ((k0+pastA false (s.data.toList.drop k0):Nat):Int))∧w=w':=by
 go_enter Tryz.func42,Tryz.ntmps42
 go_wp2_with fail
 go_loop [1,5] (fun i _=>∃ k:Nat,k≤s.size∧i = .int .i64 k∧k+pastA false (s.data.toList.drop k)=k0+pastA false (s.data.toList.drop k0)) (fun i _=>s.size - (intOf i).toNat)
 case atStart=>exact ⟨k0,hk0,rfl,rfl⟩
 case round =>
  obtain ⟨k,hk,rfl,hR⟩:=hrel
  have HR:=Lib.hid hR
  clear hR
  by_cases hlt:k < s.size
  ·have hb255:((s[k]'hlt).toNat:Int) < 256:=by have:=(s[k]'hlt).toNat_lt;omega
   have HD:=Lib.hid (drop_at s k hlt)
   rcases blank_cases (s[k]'hlt) with ⟨hb,h1,h2,h3,h4⟩ | ⟨hb,h⟩
   ·have HB:=Lib.hid (begins_c s ⟨#[47,47]⟩ k hs (by decide) (by omega))
    cases hp:[47,47].isPrefixOf (s.data.toList.drop k)
    ·have HBF:Hid (∀ u,Calls Tryz.prog 70 #[.string s,.int .i64 k,.string ⟨#[47,47]⟩] u fun e w'=>e = .returned (.bool false)∧u=w'):=fun u=>by rw [← hp];exact HB.out u
     have HF:Hid (k+0=k0+pastA false (s.data.toList.drop k0)):=by
      have:=HR.out
      rw [HD.out] at hp this
      rw [pastA_stop _ _ hb hp] at this
      exact this
     clear hp HB hb
     go_wp2_with (go_at_call 70;refine (HBF.out _).mono ?_;rintro e w' ⟨rfl,rfl⟩)
     go_ret
     exact ⟨ret_int (by rw [← HF.out];rfl),rfl⟩
    ·have HBF:Hid (∀ u,Calls Tryz.prog 70 #[.string s,.int .i64 k,.string ⟨#[47,47]⟩] u fun e w'=>e = .returned (.bool true)∧u=w'):=fun u=>by rw [← hp];exact HB.out u
     have HF:Hid (k+(pastA true (s.data.toList.drop (k+1))+1)=k0+pastA false (s.data.toList.drop k0)):=by
      have:=HR.out
      rw [HD.out] at hp this
      rw [pastA_rem _ _ hb hp] at this
      exact this
     have HT:Hid (k+pastA true (s.data.toList.drop k)=k0+pastA false (s.data.toList.drop k0)):=by
      show _=_
      rw [HD.out,pastA_in _ _ (by simp at h3;omega)];exact HF.out
     have H3:Hid (¬ ((s[k]'hlt).toNat:Int)=10):=by show ¬ _;simpa using h3
     clear hp HB hb
     go_wp2_with (go_at_call 70;refine (HBF.out _).mono ?_;rintro e w' ⟨rfl,rfl⟩)
     clear h1 h2 h3 h4 hb255
     go_loop [1] (fun i=>∃ m:Nat,k≤m∧m≤s.size∧i = .int .i64 m∧m+pastA true (s.data.toList.drop m)=k0+pastA false (s.data.toList.drop k0)) (fun i=>s.size - (intOf i).toNat)
     case atStart=>exact ⟨k,Nat.le_refl _,hk,rfl,HT.out⟩
     case round =>
      obtain ⟨m,hkm,hm,rfl,hR⟩:=hrel
      have HM:=Lib.hid hR
      clear hR
      by_cases hlm:m < s.size
      ·have hb255:((s[m]'hlm).toNat:Int) < 256:=by have:=(s[m]'hlm).toNat_lt;omega
       have HD2:=Lib.hid (drop_at s m hlm)
       by_cases h10:((s[m]'hlm).toNat:Int)=10
       ·have H10:=Lib.hid h10
        have h10b:(((s[m]'hlm).toNat:Int) != 10)=false:=by simp [h10]
        have HMK:Hid (k < m):=by
         show k < m
         rcases Nat.lt_or_eq_of_le hkm with h | h
         ·exact h
         ·subst h;exact absurd h10 H3.out
        clear h10
        go_wp2_with fail
        go_round
        case rel =>
         refine ⟨m,hm,rfl,?_⟩
         have:=HM.out
         rw [HD2.out] at this ⊢
         rw [pastA_out _ _ (by have:=H10.out;omega)] at this
         exact this
        case measure=>have:=HMK.out;simp [intOf];omega
       ·have h10b:(((s[m]'hlm).toNat:Int) != 10)=true:=by simpa using h10
        have H10:=Lib.hid h10
        clear h10
        go_wp2_with fail
        go_round
        case rel =>
         refine ⟨m+1,by omega,by omega,by go_num,?_⟩
         have:=HM.out
         rw [HD2.out,pastA_in _ _ (by have:=H10.out;omega)] at this
         omega
        case measure=>simp [intOf];omega
      ·have hms:m=s.size:=by omega
       subst hms
       go_wp2_with fail
       go_round
       case rel =>
        refine ⟨s.size,Nat.le_refl _,rfl,?_⟩
        have:=HM.out
        rw [drop_end s s.size (Nat.le_refl _),pastA_nil] at this ⊢
        exact this
       case measure=>simp [intOf];omega
   ·have HF:Hid (k+1+pastA false (s.data.toList.drop (k+1))=k0+pastA false (s.data.toList.drop k0)):=by
     have:=HR.out
     rw [HD.out,pastA_blank _ _ hb] at this
     show _=_
     omega
    clear hb
    rcases h with h | h | h | h
    all_goals
     go_wp2_with fail
     go_round
     case rel=>exact ⟨k+1,by omega,by go_num,HF.out⟩
     case measure=>simp [intOf];omega
  ·have hks:k=s.size:=by omega
   subst hks
   have HF:Hid (s.size=k0+pastA false (s.data.toList.drop k0)):=by
    have:=HR.out
    rw [drop_end s s.size (Nat.le_refl _),pastA_nil] at this
    exact this
   go_wp2_with fail
   go_ret
   exact ⟨ret_int (by have:=HF.out;omega),rfl⟩
end Go.Proofs.YtaoeaaebafcegaaGreatDoor
namespace Go.Proofs.YtaoeaaebafcegaaGreatDoor
open Go Go.RowKit
set_option linter.unusedVariables false
structure TwosW (g:Nat) (w w':World):Prop where
 below:Below g w w'
 cell:∀ j,j < 5→w'.cell? ⟨g,j,none⟩=some (.string (str (tw j)))
theorem twosW_made (w:World):TwosW w.heap.size w (w.alloc (.cells (twos.map fun t=>Value.string (str t)).toArray 9)):=by
 refine ⟨(Below.refl _ _).alloc (Nat.le_refl _) _,fun j h=>?_⟩
 rw [World.cell?_alloc_new,List.getElem?_toArray,List.getElem?_map,List.getElem?_eq_getElem (show j < twos.length from h)]
 unfold tw
 rw [List.getD_eq_getElem?_getD,List.getElem?_eq_getElem (show j < twos.length from h)]
 rfl
theorem tw_len (j:Nat):(tw j).length≤2:=by
 by_cases h:j < 5
 ·have:∀ j:Fin 5,(tw j.val).length≤2:=by decide
  exact this ⟨j,h⟩
 ·unfold tw;rw [List.getD_eq_getElem?_getD,List.getElem?_eq_none (by show 5≤j;omega)];exact Nat.zero_le _
theorem twos_no {l:List UInt8} (h:∀ j,j < 5→(tw j).isPrefixOf l=false):twos.any (fun t=>t.isPrefixOf l)=false:=by
 rw [List.any_eq_false]
 intro t ht
 obtain ⟨j,hj,rfl⟩:=List.mem_iff_getElem.1 ht
 have:=h j hj
 unfold tw at this
 rw [List.getD_eq_getElem?_getD,List.getElem?_eq_getElem hj] at this
 rw [Bool.not_eq_true]
 exact this
theorem twos_yes {l:List UInt8} {j:Nat} (hj:j < 5) (h:(tw j).isPrefixOf l=true):signE l=2:=by
 unfold signE
 rw [if_pos]
 rw [List.any_eq_true]
 refine ⟨tw j,?_,h⟩
 unfold tw
 rw [List.getD_eq_getElem?_getD,List.getElem?_eq_getElem (show j < twos.length from hj)]
 exact List.getElem_mem _
def one (j:Nat):UInt8:=ones.getD j 0
abbrev onesT:ByteArray:=⟨#[40,41,123,125,59,44,61,60,33,43,45,42,47,37]⟩
theorem ones_no {l:List UInt8} {c:UInt8} {r:List UInt8} (hl:l=c :: r) (ht:twos.any (fun t=>t.isPrefixOf l)=false) (h:∀ j,j < 14→(one j == c)=false):signE l=0:=by
 subst hl
 unfold signE
 rw [if_neg (by rw [ht];simp)]
 show (if ones.contains c then 1 else 0)=0
 rw [if_neg]
 intro hc
 rw [List.contains_iff_mem] at hc
 obtain ⟨j,hj,e⟩:=List.mem_iff_getElem.1 hc
 have:=h j hj
 unfold one at this
 rw [List.getD_eq_getElem?_getD,List.getElem?_eq_getElem hj] at this
 simp [e] at this
theorem ones_yes {l:List UInt8} {c:UInt8} {r:List UInt8} (hl:l=c :: r) (ht:twos.any (fun t=>t.isPrefixOf l)=false) {j:Nat} (hj:j < 14) (h:(one j == c)=true):signE l=1:=by
 subst hl
 unfold signE
 rw [if_neg (by rw [ht];simp)]
 show (if ones.contains c then 1 else 0)=1
 rw [if_pos]
 rw [List.contains_iff_mem]
 have e:one j=c:=by simpa using h
 rw [← e]
 unfold one
 rw [List.getD_eq_getElem?_getD,List.getElem?_eq_getElem (show j < ones.length from hj)]
 exact List.getElem_mem _
theorem one_at (j:Nat) (h:j < onesT.size):onesT[j] = one j:=by
 have:∀ j:Fin 14,(onesT[j.val]'j.isLt)=one j.val:=by decide +kernel
 exact this ⟨j,h⟩
theorem sign_c (s:ByteArray) (k:Nat) (hs:s.size≤1000000) (hk:k < s.size) (w:World) :
 Calls Tryz.prog 45 #[.string s,.int .i64 k] w fun e w'=>e = .returned (.int .i64 (signE (s.data.toList.drop k)))∧Below w.heap.size w w':=by
 have HDR:=Lib.hid (drop_at s k hk)
 go_enter Tryz.func45,Tryz.ntmps45
 go_wp2_with fail
 go_loopw [7] (fun i w'=>∃ m:Nat,m≤5∧i = .int .i64 m∧TwosW w.heap.size w w'∧∀ j,j < m→(tw j).isPrefixOf (s.data.toList.drop k)=false) (fun i _=>5 - (intOf i).toNat)
 case atStart=>exact ⟨0,Nat.zero_le _,rfl,twosW_made w,fun j h=>absurd h (by omega)⟩
 case round =>
  obtain ⟨m,hm,rfl,hw,hno⟩:=hrel
  have HW:=Lib.hid hw
  have HN:=Lib.hid hno
  clear hw hno
  by_cases hlt:m < 5
  ·have hc:=HW.out.cell m hlt
   have HB:=Lib.hid (begins_c s (str (tw m)) k hs (by rw [str_size];have:=tw_len m;omega) (by omega))
   cases hp:(tw m).isPrefixOf (s.data.toList.drop k)
   ·have HP:=Lib.hid hp
    have HBF:Hid (∀ u,Calls Tryz.prog 70 #[.string s,.int .i64 k,.string (str (tw m))] u fun e w'=>e = .returned (.bool false)∧u=w'):=fun u=>by have:=HB.out u;rw [str_data,hp] at this;exact this
    clear hp HB
    go_wp2_with (go_at_call 70;refine (HBF.out _).mono ?_;rintro e w' ⟨rfl,rfl⟩)
    go_roundw
    case rel =>
     refine ⟨m+1,by omega,by go_num,HW.out,fun j h=>?_⟩
     by_cases hj:j < m
     ·exact HN.out j hj
     ·obtain rfl:j=m:=by omega
      exact HP.out
    case measure=>simp [intOf];omega
   ·have HF:=Lib.hid (twos_yes hlt hp)
    have HBF:Hid (∀ u,Calls Tryz.prog 70 #[.string s,.int .i64 k,.string (str (tw m))] u fun e w'=>e = .returned (.bool true)∧u=w'):=fun u=>by have:=HB.out u;rw [str_data,hp] at this;exact this
    clear hp HB
    go_wp2_with (go_at_call 70;refine (HBF.out _).mono ?_;rintro e w' ⟨rfl,rfl⟩)
    go_ret
    exact ⟨ret_int (by rw [HF.out];rfl),HW.out.below⟩
  ·obtain rfl:m=5:=by omega
   have HT:=Lib.hid (twos_no HN.out)
   have HBL:=Lib.hid HW.out.below
   clear HW HN
   go_wp2_with fail
   go_loopw [8] (fun i w'=>∃ m:Nat,m≤14∧i = .int .i64 m∧Below w.heap.size w w'∧∀ j,j < m→(one j == s[k]'hk)=false) (fun i _=>14 - (intOf i).toNat)
   case atStart=>exact ⟨0,Nat.zero_le _,rfl,HBL.out,fun j h=>absurd h (by omega)⟩
   case round =>
    obtain ⟨m,hm,rfl,hw,hno⟩:=hrel
    have HW:=Lib.hid hw
    have HN:=Lib.hid hno
    clear hw hno HBL
    by_cases hlt:m < 14
    ·have hsz:onesT.size=14:=rfl
     have ho:m < onesT.size:=by omega
     have HO:=Lib.hid (one_at m ho)
     have hb1:((s[k]'hk).toNat:Int) < 256:=by have:=(s[k]'hk).toNat_lt;omega
     have hb2:((onesT[m]'ho).toNat:Int) < 256:=by have:=(onesT[m]'ho).toNat_lt;omega
     have hmi:(0:Int)≤(m:Int):=by omega
     have hmi2:(m:Int) < 14:=by omega
     have hki:(0:Int)≤(k:Int):=by omega
     have hki2:(k:Int) < (s.size:Int):=by omega
     cases he:(((onesT[m]'ho).toNat:Int) == ((s[k]'hk).toNat:Int))
     ·have HE:Hid ((one m == s[k]'hk)=false):=by
       show _=_
       rw [← HO.out,beq_eq_false_iff_ne]
       intro e
       rw [e] at he;simp at he
      clear hsz
      go_wp2_with fail
      go_quiet (fail)
      go_wp2_with fail
      go_roundw
      case rel =>
       refine ⟨m+1,by omega,by go_num,?_,fun j h=>?_⟩
       ·exact HW.out.trans ⟨rfl,rfl,rfl,Nat.le_refl _,fun _ _=>rfl⟩
       ·by_cases hj:j < m
        ·exact HN.out j hj
        ·obtain rfl:j=m:=by omega
         exact HE.out
      case measure=>simp [intOf];omega
     ·have HE:Hid (signE (s.data.toList.drop k)=1):=by
       refine ones_yes HDR.out HT.out hlt ?_
       rw [← HO.out,beq_iff_eq]
       exact UInt8.toNat_inj.1 (by have:((onesT[m]'ho).toNat:Int)=((s[k]'hk).toNat:Int):=by simpa using he
                                   omega)
      clear hsz
      go_wp2_with fail
      go_quiet (fail)
      go_wp2_with fail
      go_ret
      exact ⟨ret_int (by rw [HE.out];rfl),HW.out.trans ⟨rfl,rfl,rfl,Nat.le_refl _,fun _ _=>rfl⟩⟩
    ·obtain rfl:m=14:=by omega
     have HE:=Lib.hid (ones_no HDR.out HT.out HN.out)
     go_wp2_with fail
     go_ret
     exact ⟨ret_int (by rw [HE.out];rfl),HW.out⟩
end Go.Proofs.YtaoeaaebafcegaaGreatDoor

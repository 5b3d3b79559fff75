/- Chapter 04 (statements), joined: StrD. -/
import Derived.Test.YtaoeaaebafcegaaGreatDoorPkA19
import Derived.Deep.RegionLaw
set_option maxRecDepth 100000
set_option maxHeartbeats 2000000
namespace Go.Proofs.YtaoeaaebafcegaaGreatDoor
open Go Go.RowKit
set_option linter.unusedVariables false
theorem rhas_in (k:Nat) (hk1:1≤k) (hk:k≤14) (w:World):Calls Tryz.prog 23 #[.int .i64 k] w fun e w'=>e = .returned (.string (str (hasS k)))∧Below w.heap.size w w':=by
 have hn:=fun j x h=>cells_new w #[.string ⟨#[]⟩,.string ⟨#[114,101]⟩,.string ⟨#[114,110]⟩,.string ⟨#[110,101]⟩,.string ⟨#[114,110,101,102]⟩,.string ⟨#[110]⟩,.string ⟨#[110]⟩,.string ⟨#[]⟩,.string ⟨#[]⟩,.string ⟨#[110]⟩,.string ⟨#[110]⟩,.string ⟨#[101,98]⟩,.string ⟨#[107,98]⟩,.string ⟨#[]⟩,.string ⟨#[101]⟩] 9 j x h
 have hb:=al w (.cells #[.string ⟨#[]⟩,.string ⟨#[114,101]⟩,.string ⟨#[114,110]⟩,.string ⟨#[110,101]⟩,.string ⟨#[114,110,101,102]⟩,.string ⟨#[110]⟩,.string ⟨#[110]⟩,.string ⟨#[]⟩,.string ⟨#[]⟩,.string ⟨#[110]⟩,.string ⟨#[110]⟩,.string ⟨#[101,98]⟩,.string ⟨#[107,98]⟩,.string ⟨#[]⟩,.string ⟨#[101]⟩] 9)
 have hk0:(0:Int)≤(k:Int):=Int.natCast_nonneg _
 have hk15:(k:Int) < 15:=by omega
 have hka:decide ((k:Int) < 1)=false:=by simp;omega
 have hkb:decide ((14:Int) < (k:Int))=false:=by simp;omega
 have hx:(w.alloc (.cells #[.string ⟨#[]⟩,.string ⟨#[114,101]⟩,.string ⟨#[114,110]⟩,.string ⟨#[110,101]⟩,.string ⟨#[114,110,101,102]⟩,.string ⟨#[110]⟩,.string ⟨#[110]⟩,.string ⟨#[]⟩,.string ⟨#[]⟩,.string ⟨#[110]⟩,.string ⟨#[110]⟩,.string ⟨#[101,98]⟩,.string ⟨#[107,98]⟩,.string ⟨#[]⟩,.string ⟨#[101]⟩] 9)).cell? ⟨w.heap.size,k,none⟩=some (.string (str (hasS k))):=by
  have h15:k=0∨k=1∨k=2∨k=3∨k=4∨k=5∨k=6∨k=7∨k=8∨k=9∨k=10∨k=11∨k=12∨k=13∨k=14:=by omega
  rcases h15 with rfl | rfl | rfl | rfl | rfl | rfl | rfl | rfl | rfl | rfl | rfl | rfl | rfl | rfl | rfl <;> exact hn _ _ rfl
 clear hn
 generalize str (hasS k)=S at hx ⊢
 go_enter Tryz.func23,Tryz.ntmps23
 go_wp2_with fail
 go_ret
 exact ⟨rfl,hb⟩
theorem among_c (s:List UInt8) (hs:s.length≤1000) (c:UInt8) (w:World):Calls Tryz.prog 62 #[.string (str s),.int .u8 c.toNat] w fun e w'=>e = .returned (.bool (s.contains c))∧w=w':=by
 obtain ⟨S,hS⟩:∃ S,str s=S:=⟨_,rfl⟩
 have HG:Hid (S.size=s.length∧∀ j (h:j < S.size) (h2:j < s.length),S[j]'h=s[j]):=by
  subst hS
  exact ⟨str_size s,fun j h h2=>by
   show (str s).data[j] = _
   simp [str]⟩
 rw [hS]
 clear hS
 obtain ⟨B,HB⟩:∃ B,Hid (s.contains c=B):=⟨_,rfl⟩
 rw [HB.out]
 go_enter Tryz.func62,Tryz.ntmps62
 go_wp2_with fail
 go_loop [5] (fun n=>∃ k:Nat,k≤S.size∧n = .int .i64 k∧∀ j (h:j < k) (h':j < s.length),s[j]≠c) (fun n=>S.size - (intOf n).toNat)
 case atStart=>exact ⟨0,Nat.zero_le _,rfl,fun j h=>absurd h (by omega)⟩
 case round =>
  obtain ⟨k,hk,rfl,hall⟩:=hrel
  have HA:=Lib.hid hall
  clear hall
  by_cases hlt:k < S.size
  ·have h2:k < s.length:=by have:=HG.out.1;omega
   have HGK:=Lib.hid (HG.out.2 k hlt h2)
   have hkb:(k:Int)≤1000:=by omega
   cases hd:(((S[k]'hlt).toNat:Int) == (c.toNat:Int))
   ·go_wp2_with fail
    go_round
    case rel =>
     refine ⟨k+1,by omega,by go_num,fun j h h'=>?_⟩
     by_cases hj:j < k
     ·exact HA.out j hj h'
     ·obtain rfl:j=k:=by omega
      intro e
      rw [← HGK.out] at e
      rw [e] at hd
      simp at hd
    case measure=>simp [intOf];omega
   ·have HC:Hid (true=B):=by
     show _=_
     rw [← HB.out]
     have e:S[k] = c:=UInt8.toNat_inj.1 (by have:=eq_of_beq hd;omega)
     rw [HGK.out] at e
     rw [← e]
     simp
    go_wp2_with fail
    go_ret
    exact ⟨ret_bool HC.out,rfl⟩
  ·have HC:Hid (false=B):=by
    show _=_
    rw [← HB.out]
    symm
    have hk2:k=s.length:=by have:=HG.out.1;omega
    rw [← Bool.not_eq_true]
    intro hc
    have hm:c∈s:=by simpa using hc
    obtain ⟨j,hj,e⟩:=List.getElem_of_mem hm
    exact HA.out j (by omega) hj e
   go_wp2_with fail
   go_ret
   exact ⟨ret_bool HC.out,rfl⟩
theorem index_has:∀ k,k < 15→∀ c∈([114,110,101,102,107]:List UInt8),decide (0≤Lib.indexByte (hasS k) c)=(hasS k).contains c:=by decide
theorem odd1_c (k:Nat) (hk:k < 15) (c:UInt8) (hc:c∈([114,110,101,102,107]:List UInt8)) (b:Nat) (w:World) (hb:w.cell? ⟨b,0,none⟩=some (.string (str (hasS k)))) :
 Calls Tryz.prog 55 #[.string ⟨#[c]⟩,.pointer (some ⟨b,0,none⟩)] w fun e w'=>e = .returned (.bool ((hasS k).contains c))∧w=w':=by
 have HC:Hid (∀ u,Calls Tryz.prog 56 #[.string (str (hasS k)),.string ⟨#[c]⟩] u fun e w'=>e = .returned (.bool ((hasS k).contains c))∧u=w'):=fun u=>(Tryz.strings_Contains_one (str (hasS k)) c u).mono (fun e w' h=>by
  obtain ⟨h1,h2⟩:=h
  rw [str_data,index_has k hk c hc] at h1
  exact ⟨h1,h2.symm⟩)
 generalize str (hasS k)=S at hb HC
 generalize (hasS k).contains c=B at HC ⊢
 clear hc
 go_enter Tryz.func55,Tryz.ntmps55
 go_wp2_with (go_at_call 56;refine (HC.out _).mono ?_;rintro e w' ⟨rfl,rfl⟩)
 go_ret
 exact ⟨rfl,rfl⟩
theorem odd1_empty (c:UInt8) (b:Nat) (w:World) (hb:w.cell? ⟨b,0,none⟩=some (.string ⟨#[]⟩)) :
 Calls Tryz.prog 55 #[.string ⟨#[c]⟩,.pointer (some ⟨b,0,none⟩)] w fun e w'=>e = .returned (.bool false)∧w=w':=by
 have HC:Hid (∀ u,Calls Tryz.prog 56 #[.string ⟨#[]⟩,.string ⟨#[c]⟩] u fun e w'=>e = .returned (.bool false)∧u=w'):=fun u=>(Tryz.strings_Contains_one ⟨#[]⟩ c u).mono (fun e w' h=>by
  obtain ⟨h1,h2⟩:=h
  exact ⟨h1.trans (by rfl),h2.symm⟩)
 go_enter Tryz.func55,Tryz.ntmps55
 go_wp2_with (go_at_call 56;refine (HC.out _).mono ?_;rintro e w' ⟨rfl,rfl⟩)
 go_ret
 exact ⟨rfl,rfl⟩
def textB (b:Bool) (s:List UInt8):Bool:=if b=true then nameE s else s == []
theorem odd2_c (b:Bool) (s:List UInt8) (hs:s.length≤1000000) (w:World) (hE:Env w) :
 Calls Tryz.prog 57 #[.bool b,.string (str s)] w fun e w'=>e = .returned (.bool (textB b s))∧Below w.heap.size w w':=by
 have HN:=Lib.hid (name_c s hs w hE)
 unfold NamePost at HN
 cases b
 ·have HT:Hid (textB false s=((str s).toList == [])):=by show _=_;unfold textB;rw [str_toList];rfl
  cases he:((str s).toList == [])
  ·rw [he] at HT
   rw [HT.out]
   have he2:¬ (str s).toList = []:=by simpa using he
   have he3:(str s).toList.isEmpty=false:=by
    cases h:(str s).toList with
    | nil=>exact absurd h he2
    | cons a r=>rfl
   go_enter Tryz.func57,Tryz.ntmps57
   go_wp2_with fail
   go_ret
   exact ⟨rfl,Below.refl _ _⟩
  ·rw [he] at HT
   rw [HT.out]
   have he2:(str s).toList = []:=by simpa using he
   have he3:(str s).toList.isEmpty=true:=by rw [he2];rfl
   go_enter Tryz.func57,Tryz.ntmps57
   go_wp2_with fail
   go_ret
   exact ⟨rfl,Below.refl _ _⟩
 ·have HT:Hid (textB true s=nameE s):=rfl
  rw [HT.out]
  cases hn:nameE s
  all_goals
   rw [hn] at HN
   go_enter Tryz.func57,Tryz.ntmps57
   go_wp2_with (go_at_call 58;refine HN.out.mono ?_;rintro e w' ⟨rfl,hb⟩)
   all_goals
    go_ret
    exact ⟨rfl,hb⟩
noncomputable def nodesB (b:Bool) (l:List Nod):Bool:=if b=true then rightE l else l.isEmpty
theorem odd3_c (b : Bool) (l : List Nod) (hl : l.length ≤ 100000) (hn : ∀ x ∈ l, x.name.length ≤ 1000000) (v : Value) (w : World) (hv : Nods w v l) (hE : Env w) :
    Calls Tryz.prog 59 #[.bool b, v] w fun e w' => e = .returned (.bool (nodesB b l)) ∧ Below w.heap.size w w' := by
  have HR := Lib.hid (Right_c l hl hn v w hv hE)
  obtain ⟨A, c, rfl, _⟩ := Nods.shape hv
  clear hv hn
  cases b
  · have HT : Hid (nodesB false l = ((l.length : Int) == 0)) := by show _ = _; unfold nodesB; cases l with
      | nil => rfl
      | cons x r => simp; omega
    cases he : ((l.length : Int) == 0)
    all_goals
      rw [he] at HT
      rw [HT.out]
      go_enter Tryz.func59, Tryz.ntmps59
      go_wp2_with fail
      all_goals
        go_ret
        exact ⟨rfl, Below.refl _ _⟩
  · have HT : Hid (nodesB true l = rightE l) := rfl
    rw [HT.out]
    cases hr : rightE l
    all_goals
      rw [hr] at HR
      go_enter Tryz.func59, Tryz.ntmps59
      go_wp2_with (go_at_call 60; refine HR.out.mono ?_; rintro e w' ⟨rfl, hb⟩)
      all_goals
        go_ret
        exact ⟨rfl, hb⟩
end Go.Proofs.YtaoeaaebafcegaaGreatDoor

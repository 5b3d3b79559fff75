/- Chapter 04 (statements), joined: ScanIs, ScanPlace, ParPlain. -/
import Derived.Test.YtaoeaaebafcegaaGreatDoorPkA01
import Derived.Test.YtaoeaaebafcegaaGreatDoorPkA06
import Derived.Test.YtaoeaaebafcegaaGreatDoorRows
import Derived.BigQuiet
import Derived.Deep.QuietTactic
import Derived.WalkKit
import Derived.WalkLawsBesides
import Derived.WalkSpells
set_option maxRecDepth 100000
set_option maxHeartbeats 400000
namespace Go.Proofs.YtaoeaaebafcegaaGreatDoor
open Go Go.RowKit
set_option linter.unusedVariables false
def isE (l : List Tok) (i : Int) (s : List UInt8) : Bool :=
  decide (0 ≤ i) && match l[i.toNat]? with
    | some t => t.text == s && (t.kind == 1 || t.kind == 3)
    | none => false
def IsPost (l:List Tok) (i:Int) (s:List UInt8) (w:World) (e:Ending) (w':World):Prop:=e = .returned (.bool (isE l i s))∧w=w'
theorem isE_at {l:List Tok} {i:Nat} (h:i < l.length) (s:List UInt8):isE l i s=(l[i].text == s && (l[i].kind == 1 || l[i].kind == 3)):=by
 unfold isE
 simp [List.getElem?_eq_getElem h]
theorem isE_neg {l:List Tok} {i:Int} (h:i < 0) (s:List UInt8):isE l i s=false:=by
 unfold isE
 rw [decide_eq_false (by omega)];rfl
theorem isE_out {l:List Tok} {i:Nat} (h:l.length≤i) (s:List UInt8):isE l i s=false:=by
 unfold isE
 simp [List.getElem?_eq_none h]
theorem kind_cases (k:Int):(k=1∧(k == 1 || k == 3)=true)∨(k=3∧(k == 1 || k == 3)=true)∨((k=2∨k < 1∨3 < k)∧(k == 1 || k == 3)=false):=by
 by_cases h1:k=1
 ·exact .inl ⟨h1,by simp [h1]⟩
 ·by_cases h3:k=3
  ·exact .inr (.inl ⟨h3,by simp [h3]⟩)
  ·exact .inr (.inr ⟨by omega,by simp [h1,h3]⟩)
theorem is_in (l:List Tok) (i:Nat) (hi:i < l.length) (s:List UInt8) (v:Value) (w:World) (hv:Toks w v l) :
 Calls Tryz.prog 50 #[v,.int .i64 i,.string (str s)] w (IsPost l i s w):=by
 obtain ⟨b,off,c,rfl,hc,hb,hat⟩:=hv.at_ (by omega)
 have ht:=hat i hi
 have hk:=ht.kind
 have hx:=ht.text
 clear ht hat hb
 have HE:=Lib.hid (isE_at hi s)
 generalize l[i] = t at hk hx HE
 cases h1:((str t.text).toList == (str s).toList)
 ·have HE2:Hid (isE l i s=false):=by
   rw [str_toList,str_toList] at h1
   show _=_
   rw [HE.out,h1];rfl
  go_enter Tryz.func50,Tryz.ntmps50
  go_wp2
  go_ret
  exact ⟨ret_bool HE2.out.symm,rfl⟩
 ·have HE2:Hid (isE l i s=(t.kind == 1 || t.kind == 3)):=by
   rw [str_toList,str_toList] at h1
   show _=_
   rw [HE.out,h1];rfl
  cases h2:(t.kind == 1)
  ·cases h3:(t.kind == 3)
   all_goals
    have HE3:=HE2.out
    rw [h2,h3] at HE3
    have HE4:=Lib.hid HE3
    clear HE3
    go_enter Tryz.func50,Tryz.ntmps50
    go_wp2
    go_ret
    exact ⟨ret_bool HE4.out.symm,rfl⟩
  ·have HE3:=HE2.out
   rw [h2] at HE3
   have HE4:=Lib.hid HE3
   clear HE3
   go_enter Tryz.func50,Tryz.ntmps50
   go_wp2
   go_ret
   exact ⟨ret_bool HE4.out.symm,rfl⟩
theorem ris_in (l:List Tok) (i:Nat) (hi:i < l.length) (s:List UInt8) (v:Value) (w:World) (hv:Toks w v l) :
 Calls Tryz.prog 46 #[v,.int .i64 i,.string (str s)] w (IsPost l i s w):=by
 obtain ⟨b,off,c,rfl,hc,hb,hat⟩:=hv.at_ (by omega)
 have ht:=hat i hi
 have hk:=ht.kind
 have hx:=ht.text
 clear ht hat hb
 have HE:=Lib.hid (isE_at hi s)
 generalize l[i] = t at hk hx HE
 cases h1:((str t.text).toList == (str s).toList)
 ·have HE2:Hid (isE l i s=false):=by
   rw [str_toList,str_toList] at h1
   show _=_
   rw [HE.out,h1];rfl
  go_enter Tryz.func46,Tryz.ntmps46
  go_wp2
  go_ret
  exact ⟨ret_bool HE2.out.symm,rfl⟩
 ·have HE2:Hid (isE l i s=(t.kind == 1 || t.kind == 3)):=by
   rw [str_toList,str_toList] at h1
   show _=_
   rw [HE.out,h1];rfl
  have HK:=kind_cases t.kind
  generalize t.kind=kd at hk HE2 HK
  rcases HK with ⟨rfl,h2⟩ | ⟨rfl,h2⟩ | ⟨h3,h2⟩
  ·have HE4:=Lib.hid (HE2.out.trans h2)
   clear h2
   go_enter Tryz.func46,Tryz.ntmps46
   go_wp2
   go_ret
   exact ⟨ret_bool HE4.out.symm,rfl⟩
  ·have HE4:=Lib.hid (HE2.out.trans h2)
   clear h2
   go_enter Tryz.func46,Tryz.ntmps46
   go_wp2
   go_ret
   exact ⟨ret_bool HE4.out.symm,rfl⟩
  ·have HE4:=Lib.hid (HE2.out.trans h2)
   clear h2
   rcases h3 with rfl | h3 | h3
   ·go_enter Tryz.func46,Tryz.ntmps46
    go_wp2
    go_ret
    exact ⟨ret_bool HE4.out.symm,rfl⟩
   ·have h4:(kd != 2)=true:=by simp;omega
    have h5:decide (1≤kd)=false:=by simp;omega
    go_enter Tryz.func46,Tryz.ntmps46
    go_wp2
    go_ret
    exact ⟨ret_bool HE4.out.symm,rfl⟩
   ·have h4:(kd != 2)=true:=by simp;omega
    have h5:decide (1≤kd)=true:=by simp;omega
    have h6:decide (kd≤3)=false:=by simp;omega
    go_enter Tryz.func46,Tryz.ntmps46
    go_wp2
    go_ret
    exact ⟨ret_bool HE4.out.symm,rfl⟩
theorem is_c (l:List Tok) (hl:l.length≤4611686018427387904) (i:Int) (s:List UInt8) (v:Value) (w:World) (hv:Toks w v l) :
 Calls Tryz.prog 50 #[v,.int .i64 i,.string (str s)] w (IsPost l i s w):=by
 by_cases h0:i < 0
 ·obtain ⟨A,c,rfl,hc⟩:=hv.shape
  have HE:=Lib.hid (isE_neg (l:=l) h0 s)
  have hd:decide (0≤i)=false:=by simp;omega
  clear hv
  go_enter Tryz.func50,Tryz.ntmps50
  go_wp2
  go_ret
  exact ⟨ret_bool HE.out.symm,rfl⟩
 ·obtain ⟨n,rfl⟩:=Int.eq_ofNat_of_zero_le (show 0≤i by omega)
  by_cases hi:n < l.length
  ·exact is_in l n hi s v w hv
  ·obtain ⟨A,c,rfl,hc⟩:=hv.shape
   have HE:=Lib.hid (isE_out (i:=n) (show l.length≤n by omega) s)
   have hd:decide (0≤(n:Int))=true:=by simp
   have hd2:decide ((n:Int) < (l.length:Int))=false:=by simp;omega
   clear hv h0
   go_enter Tryz.func50,Tryz.ntmps50
   go_wp2
   go_ret
   exact ⟨ret_bool HE.out.symm,rfl⟩
theorem ris_c (l:List Tok) (hl:l.length≤4611686018427387904) (i:Int) (s:List UInt8) (v:Value) (w:World) (hv:Toks w v l) :
 Calls Tryz.prog 46 #[v,.int .i64 i,.string (str s)] w (IsPost l i s w):=by
 by_cases h0:i < 0
 ·obtain ⟨A,c,rfl,hc⟩:=hv.shape
  have HE:=Lib.hid (isE_neg (l:=l) h0 s)
  have hd:decide (0≤i)=false:=by simp;omega
  clear hv
  go_enter Tryz.func46,Tryz.ntmps46
  go_wp2
  go_ret
  exact ⟨ret_bool HE.out.symm,rfl⟩
 ·obtain ⟨n,rfl⟩:=Int.eq_ofNat_of_zero_le (show 0≤i by omega)
  by_cases hi:n < l.length
  ·exact ris_in l n hi s v w hv
  ·obtain ⟨A,c,rfl,hc⟩:=hv.shape
   have HE:=Lib.hid (isE_out (i:=n) (show l.length≤n by omega) s)
   have hd:decide (0≤(n:Int))=true:=by simp
   have hd2:decide ((n:Int) < (l.length:Int))=false:=by simp;omega
   clear hv h0
   go_enter Tryz.func46,Tryz.ntmps46
   go_wp2
   go_ret
   exact ⟨ret_bool HE.out.symm,rfl⟩
def placeE (l : List Tok) (i : Int) : Int :=
  if 0 ≤ i ∧ i < l.length then (l.getD i.toNat ⟨0, [], 0, 0⟩).pos else match l.getLast? with
    | some t => wrap64 (t.pos + t.text.length)
    | none => 0
def PlacePostD (l:List Tok) (i:Int) (w:World) (e:Ending) (w':World):Prop:=e = .returned (.int .i64 (placeE l i))∧Below w.heap.size w w'
theorem placeE_in {l:List Tok} {i:Nat} (h:i < l.length):placeE l i=l[i].pos:=by
 unfold placeE
 rw [if_pos (by omega),List.getD_eq_getElem?_getD]
 simp [List.getElem?_eq_getElem h]
theorem placeE_out {l:List Tok} {i:Int} {m:Nat} (h:¬ (0≤i∧i < l.length)) (h0:l.length=m+1):placeE l i=wrap64 ((l[m]'(by omega)).pos+(l[m]'(by omega)).text.length):=by
 unfold placeE
 rw [if_neg h,List.getLast?_eq_getElem?,show l.length - 1=m by omega,List.getElem?_eq_getElem (by omega)]
theorem placeE_nil {l:List Tok} {i:Int} (h0:l.length=0):placeE l i=0:=by
 obtain rfl:=List.eq_nil_of_length_eq_zero h0
 unfold placeE
 rw [if_neg (by simp)];rfl
theorem place_in (l:List Tok) (i:Nat) (hi:i < l.length) (v:Value) (w:World) (hv:Toks w v l) :
 Calls Tryz.prog 74 #[v,.int .i64 i] w (PlacePostD l i w):=by
 obtain ⟨b,off,c,rfl,hc,hb,hat⟩:=hv.at_ (by omega)
 have hk:=(hat i hi).pos
 clear hat hb
 have HE:=Lib.hid (placeE_in hi)
 generalize l[i] = t at hk HE
 go_enter Tryz.func74,Tryz.ntmps74
 go_wp2
 go_ret
 exact ⟨ret_int HE.out.symm,Below.refl _ _⟩
theorem rplace_in (l:List Tok) (i:Nat) (hi:i < l.length) (v:Value) (w:World) (hv:Toks w v l) :
 Calls Tryz.prog 71 #[v,.int .i64 i] w (PlacePostD l i w):=by
 obtain ⟨b,off,c,rfl,hc,hb,hat⟩:=hv.at_ (by omega)
 have hk:=(hat i hi).pos
 clear hat hb
 have HE:=Lib.hid (placeE_in hi)
 generalize l[i] = t at hk HE
 go_enter Tryz.func71,Tryz.ntmps71
 go_wp2
 go_ret
 exact ⟨ret_int HE.out.symm,Below.refl _ _⟩
theorem place_out (l:List Tok) (hl:l.length≤4611686018427387904) (i:Int) (hi:¬ (0≤i∧i < l.length)) (h0:0 < l.length) (v:Value) (w:World) (hv:Toks w v l) :
 Calls Tryz.prog 74 #[v,.int .i64 i] w (PlacePostD l i w):=by
 obtain ⟨b,off,c,rfl,hc,hb,hat⟩:=hv.at_ (by omega)
 obtain ⟨m,hm⟩:∃ m,l.length=m+1:=⟨l.length - 1,by omega⟩
 have ht:=hat m (by omega)
 have hk:=ht.kind;have hx:=ht.text;have hn:=ht.n;have hp:=ht.pos
 have HE:=Lib.hid (placeE_out hi hm)
 clear hat ht hv
 generalize l[m]'(by omega)=t at hk hx hn hp HE
 have HS:Hid (wrap64 (t.pos+((str t.text).size:Int))=placeE l i):=by
  have:=HE.out;rw [← str_size] at this;exact this.symm
 have hne:decide (0≤i)=false∨(decide (0≤i)=true∧decide (i < (m:Int)+1)=false):=by
  by_cases h:0≤i
  ·exact .inr ⟨by simpa using h,by simp;omega⟩
  ·exact .inl (by simpa using h)
 rw [hm] at hl hc ⊢
 clear hi hm h0
 rcases hne with h1 | ⟨h1,h2⟩
 all_goals
  go_enter Tryz.func74,Tryz.ntmps74
  go_wp2
  go_ret
  exact ⟨ret_int HS.out,(Below.refl _ _).alloc (Nat.le_refl _) _⟩
theorem place_c (l:List Tok) (hl:l.length≤4611686018427387904) (i:Int) (v:Value) (w:World) (hv:Toks w v l) :
 Calls Tryz.prog 74 #[v,.int .i64 i] w (PlacePostD l i w):=by
 by_cases hi:0≤i∧i < l.length
 ·obtain ⟨n,rfl⟩:=Int.eq_ofNat_of_zero_le hi.1
  exact place_in l n (by omega) v w hv
 ·by_cases h0:0 < l.length
  ·exact place_out l hl i hi h0 v w hv
  ·obtain ⟨A,c,rfl,hc⟩:=hv.shape
   have hl0:l.length=0:=by omega
   have HE:=Lib.hid (placeE_nil (i:=i) hl0)
   rw [hl0]
   clear hv h0
   cases h1:decide (0≤i)
   ·clear hi
    go_enter Tryz.func74,Tryz.ntmps74
    go_wp2
    go_ret
    exact ⟨ret_int HE.out.symm,Below.refl _ _⟩
   ·have h2:decide (i < 0)=false:=by simp at h1 ⊢;omega
    clear hi
    go_enter Tryz.func74,Tryz.ntmps74
    go_wp2
    go_ret
    exact ⟨ret_int HE.out.symm,Below.refl _ _⟩
theorem rplace_out (l:List Tok) (hl:l.length≤4611686018427387904) (i:Int) (hi:¬ (0≤i∧i < l.length)) (h0:0 < l.length) (v:Value) (w:World) (hv:Toks w v l) :
 Calls Tryz.prog 71 #[v,.int .i64 i] w (PlacePostD l i w):=by
 obtain ⟨b,off,c,rfl,hc,hb,hat⟩:=hv.at_ (by omega)
 obtain ⟨m,hm⟩:∃ m,l.length=m+1:=⟨l.length - 1,by omega⟩
 have ht:=hat m (by omega)
 have hk:=ht.kind;have hx:=ht.text;have hn:=ht.n;have hp:=ht.pos
 have HE:=Lib.hid (placeE_out hi hm)
 clear hat ht hv
 generalize l[m]'(by omega)=t at hk hx hn hp HE
 have HS:Hid (wrap64 (t.pos+((str t.text).size:Int))=placeE l i):=by
  have:=HE.out;rw [← str_size] at this;exact this.symm
 have hne:decide (0≤i)=false∨(decide (0≤i)=true∧decide (i < (m:Int)+1)=false):=by
  by_cases h:0≤i
  ·exact .inr ⟨by simpa using h,by simp;omega⟩
  ·exact .inl (by simpa using h)
 rw [hm] at hl hc ⊢
 clear hi hm h0
 rcases hne with h1 | ⟨h1,h2⟩
 all_goals
  go_enter Tryz.func71,Tryz.ntmps71
  go_wp2
  go_quiet (fail)
  go_wp2
  go_ret
  exact ⟨ret_int HS.out,⟨rfl,rfl,rfl,Nat.le_refl _,fun _ _=>rfl⟩⟩
theorem rplace_c (l:List Tok) (hl:l.length≤4611686018427387904) (i:Int) (v:Value) (w:World) (hv:Toks w v l) :
 Calls Tryz.prog 71 #[v,.int .i64 i] w (PlacePostD l i w):=by
 by_cases hi:0≤i∧i < l.length
 ·obtain ⟨n,rfl⟩:=Int.eq_ofNat_of_zero_le hi.1
  exact rplace_in l n (by omega) v w hv
 ·by_cases h0:0 < l.length
  ·exact rplace_out l hl i hi h0 v w hv
  ·obtain ⟨A,c,rfl,hc⟩:=hv.shape
   have hl0:l.length=0:=by omega
   have HE:=Lib.hid (placeE_nil (i:=i) hl0)
   rw [hl0]
   clear hv h0
   cases h1:decide (0≤i)
   ·clear hi
    go_enter Tryz.func71,Tryz.ntmps71
    go_wp2
    go_ret
    exact ⟨ret_int HE.out.symm,Below.refl _ _⟩
   ·have h2:decide (i < 0)=false:=by simp at h1 ⊢;omega
    clear hi
    go_enter Tryz.func71,Tryz.ntmps71
    go_wp2
    go_ret
    exact ⟨ret_int HE.out.symm,Below.refl _ _⟩
def sgnL:List (List UInt8):=[[],[],[],[45],[33],[43],[45],[42],[47],[37],[61,61],[33,61],[60],[60,61],[38,38],[124,124]]
def sg (op:Nat):List UInt8:=sgnL.getD op []
def opsOf:Nat→List Nat
 | 0=>[15]
 | 1=>[14]
 | 2=>[10,11,12,13]
 | 3=>[5,6]
 | 4=>[7,8,9]
 | _=>[]
theorem opsOf_in:∀ n op,op∈opsOf n→5≤op∧op≤15
 | 0,op,h=>by simp [opsOf] at h;omega
 | 1,op,h=>by simp [opsOf] at h;omega
 | 2,op,h=>by simp [opsOf] at h;omega
 | 3,op,h=>by simp [opsOf] at h;omega
 | 4,op,h=>by simp [opsOf] at h;omega
 | n+5,op,h=>by simp [opsOf] at h
theorem opsOf_len : ∀ n, (opsOf n).length ≤ 4
  | 0 => by decide
  | 1 => by decide
  | 2 => by decide
  | 3 => by decide
  | 4 => by decide
  | n + 5 => by simp [opsOf]
def opAt (n:Nat) (l:List Tok) (i:Nat):Nat:=((opsOf n).find? (fun op=>isE l i (sg op))).getD 0
abbrev Res:=(Ex × Nat) ⊕ (Int × Int)
def tk (l:List Tok) (i:Nat):Tok:=l.getD i ⟨0,[],0,0⟩
theorem tk_at {l:List Tok} {i:Nat} (h:i < l.length):tk l i=l[i]:=by
 unfold tk;rw [List.getD_eq_getElem?_getD,List.getElem?_eq_getElem h];rfl
def lp (f : Nat → Res) (n : Nat) (l : List Tok) : Nat → Ex → Nat → Res
  | 0, x, to => .inl (x, to)
  | g + 1, x, to => if opAt n l to = 0 then .inl (x, to) else match f (to + 1) with
    | .inr e => .inr e
    | .inl (y, to2) => if n = 2 then .inl (.two ⟨opAt n l to, 0, [], (tk l to).pos⟩ x y, to2) else lp f n l g (.two ⟨opAt n l to, 0, [], (tk l to).pos⟩ x y) to2
def lpS (f:Nat→Res) (n:Nat) (l:List Tok) (x:Ex) (to:Nat):Res:=lp f n l (l.length - to) x to
def flR (pr : Nat → Res) (l : List Tok) : Nat → Nat → Res
  | 0, i => pr i
  | m + 1, i => match flR pr l m i with
    | .inr e => .inr e
    | .inl (x, to) => lpS (flR pr l m) (4 - m) l x to
def baseR (l:List Tok) (i:Nat):Res :=
 if (tk l i).kind=2 then .inl (.leaf ⟨1,(tk l i).n,[],(tk l i).pos⟩,i+1)
 else if (tk l i).kind=1∧nameE (tk l i).text=true then .inl (.leaf ⟨2,0,(tk l i).text,(tk l i).pos⟩,i+1)
 else .inr (5,placeE l i)
def unE (l:List Tok) (i:Nat):Bool:=isE l i [33] || isE l i [45]
def opE (l:List Tok) (i:Nat):Bool:=isE l i [40]
def prR (l : List Tok) : Nat → Nat → Res
  | 0, i => if l.length ≤ i then .inr (6, placeE l i) else if (unE l i || opE l i) = true then .inr (7, placeE l i) else baseR l i
  | k + 1, i => if l.length ≤ i then .inr (6, placeE l i)
    else if unE l i = true then match prR l k (i + 1) with
      | .inr e => .inr e
      | .inl (x, to) => .inl (.one ⟨if (tk l i).text = [45] then 3 else 4, 0, [], (tk l i).pos⟩ x, to)
    else if opE l i = true then match flR (prR l k) l 5 (i + 1) with
      | .inr e => .inr e
      | .inl (x, to) => if isE l to [41] = true then .inl (x, to + 1) else .inr (if l.length ≤ to then 6 else 5, placeE l to)
    else baseR l i
theorem isE_lt {l:List Tok} {i:Nat} {s:List UInt8} (h:isE l i s=true):i < l.length:=by
 rcases Nat.lt_or_ge i l.length with h1 | h1
 ·exact h1
 ·rw [isE_out h1] at h;cases h
theorem isE_text {l:List Tok} {i:Nat} {s:List UInt8} (h:isE l i s=true):(tk l i).text=s∧((tk l i).kind=1∨(tk l i).kind=3):=by
 have hi:=isE_lt h
 rw [isE_at hi] at h
 rw [tk_at hi]
 simpa using h
theorem opAt_some {n:Nat} {l:List Tok} {i:Nat} (h:opAt n l i≠0):opAt n l i∈opsOf n∧isE l i (sg (opAt n l i))=true:=by
 unfold opAt at h ⊢
 cases hf:(opsOf n).find? (fun op=>isE l i (sg op)) with
 | none=>rw [hf] at h;simp at h
 | some op =>
   simp only [Option.getD_some]
   exact ⟨List.mem_of_find?_eq_some hf,by simpa using List.find?_some hf⟩
theorem opAt_none {n:Nat} {l:List Tok} {i:Nat} (h:opAt n l i=0):∀ op∈opsOf n,isE l i (sg op)=false:=by
 unfold opAt at h
 cases hf:(opsOf n).find? (fun op=>isE l i (sg op)) with
 | none =>
   intro op ho
   have:=List.find?_eq_none.1 hf op ho
   simpa using this
 | some op =>
   rw [hf] at h
   have:=opsOf_in n op (List.mem_of_find?_eq_some hf)
   simp at h
   omega
theorem sg_inj:∀ n,∀ a∈opsOf n,∀ b∈opsOf n,sg a=sg b→a=b
 | 0=>by decide
 | 1=>by decide
 | 2=>by decide
 | 3=>by decide
 | 4=>by decide
 | n+5=>by simp [opsOf]
theorem opAt_of {n:Nat} {l:List Tok} {i op:Nat} (ho:op∈opsOf n) (h:isE l i (sg op)=true):opAt n l i=op:=by
 have hne:opAt n l i≠0:=fun h0=>by have:=opAt_none h0 op ho;rw [h] at this;cases this
 have h2:=opAt_some hne
 have e1:=(isE_text h).1
 have e2:=(isE_text h2.2).1
 exact sg_inj n _ h2.1 _ ho (e2.symm.trans e1)
theorem opAt_lt {n:Nat} {l:List Tok} {i:Nat} (h:opAt n l i≠0):i < l.length:=isE_lt (opAt_some h).2
theorem opAt_out {n:Nat} {l:List Tok} {i:Nat} (h:l.length≤i):opAt n l i=0:=by
 by_cases h0:opAt n l i=0
 ·exact h0
 ·have:=opAt_lt h0;omega
structure Fwd (l:List Tok) (f:Nat→Res):Prop where
 good:∀ i x to,f i = .inl (x,to)→i < to∧to≤l.length∧x.flat.length≤to - i∧x.ok
 bad:∀ i e p,f i = .inr (e,p)→1≤e∧e≤7
theorem lpS_stop {f:Nat→Res} {n:Nat} {l:List Tok} {x:Ex} {to:Nat} (h:opAt n l to=0):lpS f n l x to = .inl (x,to):=by
 unfold lpS
 cases l.length - to with
 | zero=>rfl
 | succ g=>unfold lp;rw [if_pos h]
theorem lp_fuel {f : Nat → Res} {n : Nat} {l : List Tok} (hf : Fwd l f) : ∀ (g g2 : Nat) (x : Ex) (to : Nat), l.length - to ≤ g → l.length - to ≤ g2 → lp f n l g x to = lp f n l g2 x to
  | 0, 0, x, to, _, _ => rfl
  | 0, g2 + 1, x, to, h, _ => by
    unfold lp
    rw [if_pos (opAt_out (by omega))]
  | g + 1, 0, x, to, _, h => by
    unfold lp
    rw [if_pos (opAt_out (by omega))]
  | g + 1, g2 + 1, x, to, h1, h2 => by
    unfold lp
    by_cases h0 : opAt n l to = 0
    · rw [if_pos h0, if_pos h0]
    · rw [if_neg h0, if_neg h0]
      cases hy : f (to + 1) with
      | inr e => rfl
      | inl r =>
        obtain ⟨y, to2⟩ := r
        have := hf.good _ _ _ hy
        have hlt := opAt_lt h0
        simp only
        split
        · rfl
        · exact lp_fuel hf g g2 _ to2 (by omega) (by omega)
theorem lpS_err {f:Nat→Res} {n:Nat} {l:List Tok} {x:Ex} {to:Nat} {e:Int × Int} (h:opAt n l to≠0) (hy:f (to+1) = .inr e):lpS f n l x to = .inr e:=by
 have hlt:=opAt_lt h
 unfold lpS
 obtain ⟨g,hg⟩:∃ g,l.length - to=g+1:=⟨l.length - to - 1,by omega⟩
 rw [hg]
 unfold lp
 rw [if_neg h,hy]
theorem lpS_step {f:Nat→Res} {n:Nat} {l:List Tok} {x y:Ex} {to to2:Nat} (hf:Fwd l f) (h:opAt n l to≠0) (hy:f (to+1) = .inl (y,to2)) :
 lpS f n l x to=if n=2 then .inl (.two ⟨opAt n l to,0,[],(tk l to).pos⟩ x y,to2) else lpS f n l (.two ⟨opAt n l to,0,[],(tk l to).pos⟩ x y) to2:=by
 have hlt:=opAt_lt h
 have:=hf.good _ _ _ hy
 unfold lpS
 obtain ⟨g,hg⟩:∃ g,l.length - to=g+1:=⟨l.length - to - 1,by omega⟩
 rw [hg,lp,if_neg h,hy]
 simp only
 rw [lp_fuel hf g (l.length - to2) _ to2 (by omega) (by omega)]
theorem kids_ops {n op:Nat} (h:op∈opsOf n):kidsE (op:Int)=2:=by
 have:=opsOf_in n op h
 exact kidsE_two (by omega) (by omega)
theorem lp_fwd {f : Nat → Res} {n : Nat} {l : List Tok} (hf : Fwd l f) : ∀ (g : Nat) (x : Ex) (to i : Nat), i < to → to ≤ l.length → x.flat.length ≤ to - i → x.ok →
    (∀ z t, lp f n l g x to = .inl (z, t) → i < t ∧ t ≤ l.length ∧ z.flat.length ≤ t - i ∧ z.ok) ∧ (∀ e p, lp f n l g x to = .inr (e, p) → 1 ≤ e ∧ e ≤ 7)
  | 0, x, to, i, h1, h2, h3, h4 => by
    unfold lp
    refine ⟨fun z t h => ?_, fun e p h => by cases h⟩
    cases h
    exact ⟨h1, h2, h3, h4⟩
  | g + 1, x, to, i, h1, h2, h3, h4 => by
    unfold lp
    by_cases h0 : opAt n l to = 0
    · rw [if_pos h0]
      refine ⟨fun z t h => ?_, fun e p h => by cases h⟩
      cases h
      exact ⟨h1, h2, h3, h4⟩
    · rw [if_neg h0]
      cases hy : f (to + 1) with
      | inr e =>
        refine ⟨fun z t h => (by cases h), fun e p h => ?_⟩
        cases h
        exact hf.bad _ _ _ hy
      | inl r =>
        obtain ⟨y, to2⟩ := r
        have hg := hf.good _ _ _ hy
        have hlen : (Ex.two ⟨opAt n l to, 0, [], (tk l to).pos⟩ x y).flat.length ≤ to2 - i := by
          simp only [Ex.flat, List.length_cons, List.length_append]; omega
        have hok : (Ex.two ⟨opAt n l to, 0, [], (tk l to).pos⟩ x y).ok := ⟨kids_ops (opAt_some h0).1, h4, hg.2.2.2⟩
        simp only
        split
        · refine ⟨fun z t h => ?_, fun e p h => by cases h⟩
          cases h
          exact ⟨by omega, hg.2.1, hlen, hok⟩
        · exact lp_fwd hf g _ to2 i (by omega) hg.2.1 hlen hok
theorem flR_fwd {pr : Nat → Res} {l : List Tok} (hp : Fwd l pr) : ∀ m, Fwd l (flR pr l m)
  | 0 => hp
  | m + 1 => by
    have ih := flR_fwd hp m
    constructor
    · intro i x to h
      unfold flR at h
      cases hy : flR pr l m i with
      | inr e => rw [hy] at h; cases h
      | inl r =>
        obtain ⟨y, to2⟩ := r
        rw [hy] at h
        have hg := ih.good _ _ _ hy
        exact (lp_fwd ih _ y to2 i hg.1 hg.2.1 hg.2.2.1 hg.2.2.2).1 _ _ h
    · intro i e p h
      unfold flR at h
      cases hy : flR pr l m i with
      | inr e2 => rw [hy] at h; cases h; exact ih.bad _ _ _ hy
      | inl r =>
        obtain ⟨y, to2⟩ := r
        rw [hy] at h
        have hg := ih.good _ _ _ hy
        exact (lp_fwd ih _ y to2 i hg.1 hg.2.1 hg.2.2.1 hg.2.2.2).2 _ _ h
theorem baseR_fwd {l:List Tok} {i:Nat} (hi:i < l.length):(∀ x to,baseR l i = .inl (x,to)→i < to∧to≤l.length∧x.flat.length≤to - i∧x.ok)∧(∀ e p,baseR l i = .inr (e,p)→1≤e∧e≤7):=by
 unfold baseR
 split
 ·refine ⟨fun z t h=>?_,fun e p h=>by cases h⟩
  cases h
  exact ⟨by omega,by omega,by simp [Ex.flat],rfl⟩
 ·split
  ·refine ⟨fun z t h=>?_,fun e p h=>by cases h⟩
   cases h
   exact ⟨by omega,by omega,by simp [Ex.flat],rfl⟩
  ·refine ⟨fun z t h=>(by cases h),fun e p h=>?_⟩
   cases h
   exact ⟨by decide,by decide⟩
theorem prR_fwd (l : List Tok) : ∀ k, Fwd l (prR l k)
  | 0 => by
    constructor
    · intro i x to h
      unfold prR at h
      split at h
      · cases h
      · split at h
        · cases h
        · exact (baseR_fwd (by omega)).1 _ _ h
    · intro i e p h
      unfold prR at h
      split at h
      · cases h; exact ⟨by decide, by decide⟩
      · split at h
        · cases h; exact ⟨by decide, by decide⟩
        · exact (baseR_fwd (by omega)).2 _ _ h
  | k + 1 => by
    have ih := prR_fwd l k
    have ihf := flR_fwd ih 5
    constructor
    · intro i x to h
      unfold prR at h
      split at h
      · cases h
      · split at h
        · cases hy : prR l k (i + 1) with
          | inr e => rw [hy] at h; cases h
          | inl r =>
            obtain ⟨y, to2⟩ := r
            rw [hy] at h
            have hg := ih.good _ _ _ hy
            cases h
            refine ⟨by omega, hg.2.1, by simp only [Ex.flat, List.length_cons]; omega, ?_, hg.2.2.2⟩
            show kidsE (if (tk l i).text = [45] then (3 : Int) else 4) = 1
            split <;> rfl
        · split at h
          · cases hy : flR (prR l k) l 5 (i + 1) with
            | inr e => rw [hy] at h; cases h
            | inl r =>
              obtain ⟨y, to2⟩ := r
              rw [hy] at h
              have hg := ihf.good _ _ _ hy
              simp only at h
              split at h
              · rename_i hc
                have := isE_lt hc
                cases h
                exact ⟨by omega, by omega, by omega, hg.2.2.2⟩
              · cases h
          · exact (baseR_fwd (by omega)).1 _ _ h
    · intro i e p h
      unfold prR at h
      split at h
      · cases h; exact ⟨by decide, by decide⟩
      · split at h
        · cases hy : prR l k (i + 1) with
          | inr e => rw [hy] at h; cases h; exact ih.bad _ _ _ hy
          | inl r =>
            rw [hy] at h; cases h
        · split at h
          · cases hy : flR (prR l k) l 5 (i + 1) with
            | inr e => rw [hy] at h; cases h; exact ihf.bad _ _ _ hy
            | inl r =>
              rw [hy] at h
              simp only at h
              split at h
              · cases h
              · cases h; split <;> exact ⟨by decide, by decide⟩
          · exact (baseR_fwd (by omega)).2 _ _ h
theorem prR_out {l : List Tok} {i : Nat} (h : l.length ≤ i) : ∀ k, prR l k i = .inr (6, placeE l i)
  | 0 => by unfold prR; rw [if_pos h]
  | k + 1 => by unfold prR; rw [if_pos h]
def parE (l : List Tok) (i : Int) : List Nod × Int × Int × Int :=
  if i < 0 then ([], 0, 1, 0) else match flR (prR l 12) l 5 i.toNat with
    | .inr (e, p) => ([], 0, e, p)
    | .inl (x, to) => if 12 < x.deep then ([], 0, 7, (tk l i.toNat).pos) else if 40 < x.flat.length then ([], 0, 2, (tk l i.toNat).pos) else (x.flat, to, 0, 0)
end Go.Proofs.YtaoeaaebafcegaaGreatDoor

/- Chapter 04 (statements), joined: NodPlain, ShwPlain, LawPlain, StmPlC, StmPlD, StmPlE, StmPlF, StmPlG, StLwB. -/
import Derived.Test.YtaoeaaebafcegaaGreatDoorPkA45
import Derived.Test.YtaoeaaebafcegaaGreatDoorPkE46
import Derived.Test.YtaoeaaebafcegaaGreatDoorPkC248
set_option maxRecDepth 100000
namespace Go.Proofs.YtaoeaaebafcegaaGreatDoor
set_option linter.unusedVariables false
end Go.Proofs.YtaoeaaebafcegaaGreatDoor
namespace Go.Proofs.YtaoeaaebafcegaaGreatDoor
set_option linter.unusedVariables false
theorem Ex.deep_pos:∀ e:Ex,0 < e.deep
 | .leaf x=>by simp [Ex.deep]
 | .one x a=>by simp [Ex.deep]
 | .two x a b=>by simp [Ex.deep]
end Go.Proofs.YtaoeaaebafcegaaGreatDoor
namespace Go.Proofs.YtaoeaaebafcegaaGreatDoor
set_option linter.unusedVariables false
end Go.Proofs.YtaoeaaebafcegaaGreatDoor
namespace Go.Proofs.YtaoeaaebafcegaaGreatDoor
open Go Go.RowKit
set_option linter.unusedVariables false
end Go.Proofs.YtaoeaaebafcegaaGreatDoor
namespace Go.Proofs.YtaoeaaebafcegaaGreatDoor
open Go Go.RowKit
set_option linter.unusedVariables false
def bareN (x:Nod):Nod:=⟨x.op,x.n,x.name,0⟩
def strip (t:Tok):Int × List UInt8 × Int:=(t.kind,t.text,t.n)
def Ex.bare:Ex→Ex
 | .leaf x=>.leaf (bareN x)
 | .one x a=>.one (bareN x) a.bare
 | .two x a b=>.two (bareN x) a.bare b.bare
theorem Ex.bare_flat:∀ e:Ex,e.bare.flat=e.flat.map bareN
 | .leaf x=>rfl
 | .one x a=>by simp [Ex.bare,Ex.flat,a.bare_flat]
 | .two x a b=>by simp [Ex.bare,Ex.flat,a.bare_flat,b.bare_flat]
theorem Ex.bare_deep:∀ e:Ex,e.bare.deep=e.deep
 | .leaf x=>rfl
 | .one x a=>by simp [Ex.bare,Ex.deep,a.bare_deep]
 | .two x a b=>by simp [Ex.bare,Ex.deep,a.bare_deep,b.bare_deep]
theorem Ex.bare_len (e:Ex):e.bare.flat.length=e.flat.length:=by rw [e.bare_flat,List.length_map]
abbrev T3:=Int × List UInt8 × Int
def Ex.brkT (e : Ex) (s : List T3) : List T3 := match e with
  | .two _ _ _ => (3, [40], 0) :: (s ++ [(3, [41], 0)])
  | _ => s
def Ex.toks:Ex→List T3
 | .leaf x=>if x.op=1 then [(2,Lib.itoa x.n,x.n)] else [(1,x.name,0)]
 | .one x a=>(3,sg x.op.toNat,0) :: a.brkT a.toks
 | .two x a b=>a.brkT a.toks++((3,sg x.op.toNat,0) :: b.brkT b.toks)
def AtT (l:List Tok) (i:Nat) (T:List T3):Prop:=∃ pre mid post,l=pre++(mid++post)∧pre.length=i∧mid.map strip=T
theorem AtT.left {l:List Tok} {i:Nat} {T U:List T3} (h:AtT l i (T++U)):AtT l i T:=by
 obtain ⟨pre,mid,post,rfl,rfl,hm⟩:=h
 obtain ⟨m1,m2,rfl,h1,h2⟩:=List.map_eq_append_iff.1 hm
 exact ⟨pre,m1,m2++post,by simp,rfl,h1⟩
theorem AtT.right {l:List Tok} {i:Nat} {T U:List T3} (h:AtT l i (T++U)):AtT l (i+T.length) U:=by
 obtain ⟨pre,mid,post,rfl,rfl,hm⟩:=h
 obtain ⟨m1,m2,rfl,h1,h2⟩:=List.map_eq_append_iff.1 hm
 exact ⟨pre++m1,m2,post,by simp,by rw [← h1];simp,h2⟩
theorem AtT.tail {l:List Tok} {i:Nat} {t:T3} {U:List T3} (h:AtT l i (t :: U)):AtT l (i+1) U:=by
 have:AtT l (i + [t].length) U:=AtT.right (T:=[t]) h
 exact this
theorem AtT.head {l:List Tok} {i:Nat} {t:T3} {U:List T3} (h:AtT l i (t :: U)):i < l.length∧(tk l i).kind=t.1∧(tk l i).text=t.2.1∧(tk l i).n=t.2.2:=by
 obtain ⟨pre,mid,post,rfl,rfl,hm⟩:=h
 obtain ⟨m,ms,rfl,h1,h2⟩:=List.map_eq_cons_iff.1 hm
 have hlt:pre.length < (pre++(m :: ms++post)).length:=by simp
 refine ⟨hlt,?_⟩
 rw [tk_at hlt]
 have:(pre++(m :: ms++post))[pre.length]'hlt=m:=by simp
 rw [this,← h1]
 exact ⟨rfl,rfl,rfl⟩
theorem AtT.le {l:List Tok} {i:Nat} {T:List T3} (h:AtT l i T):i+T.length≤l.length:=by
 obtain ⟨pre,mid,post,rfl,rfl,hm⟩:=h
 rw [← hm];simp
theorem isE_tk {l:List Tok} {i:Nat} (hi:i < l.length) (s:List UInt8):isE l i s=((decide ((tk l i).kind=1) || decide ((tk l i).kind=3)) && decide ((tk l i).text=s)):=by
 rw [isE_at hi,tk_at hi,Bool.and_comm,Bool.eq_iff_iff]
 simp
theorem isE_yes {l:List Tok} {i:Nat} {s:List UInt8} {U:List T3} (h:AtT l i ((3,s,0) :: U)):isE l i s=true:=by
 obtain ⟨h1,h2,h3,h4⟩:=h.head
 rw [isE_tk h1,h2,h3];simp
theorem isE_no {l:List Tok} {i:Nat} {t:T3} {s:List UInt8} {U:List T3} (h:AtT l i (t :: U)) (hs:t.2.1≠s):isE l i s=false:=by
 obtain ⟨h1,h2,h3,h4⟩:=h.head
 rw [isE_tk h1,h3];simp [hs]
theorem isE_num {l:List Tok} {i:Nat} {t:T3} {s:List UInt8} {U:List T3} (h:AtT l i (t :: U)) (hs:t.1=2):isE l i s=false:=by
 obtain ⟨h1,h2,h3,h4⟩:=h.head
 rw [isE_tk h1,h2,hs];simp
def Free (l:List Tok) (i:Nat):Prop:=∀ n,n < 5→opAt n l i=0
theorem sg_free:∀ n,n < 5→∀ op∈opsOf n,sg op≠[41]:=by decide
theorem free_close {l:List Tok} {i:Nat} {U:List T3} (h:AtT l i ((3,[41],0) :: U)):Free l i:=fun n hn=>by
 by_cases h0:opAt n l i=0
 ·exact h0
 ·have h2:=opAt_some h0
  have:=isE_no (s:=sg (opAt n l i)) h (fun e=>sg_free n hn _ h2.1 e.symm)
  rw [h2.2] at this;cases this
def flE (op:Nat):Nat:=if op=15 then 0 else if op=14 then 1 else if 10≤op then 2 else if 7≤op then 4 else 3
theorem flE_le:∀ op,5≤op→op≤15→flE op≤4∧op∈opsOf (flE op)∧∀ n,n < 5→n≠flE op→∀ q∈opsOf n,sg q≠sg op:=by
 intro op h1 h2
 have:∀ k:Fin 11,flE (k.val+5)≤4∧(k.val+5)∈opsOf (flE (k.val+5))∧∀ n,n < 5→n≠flE (k.val+5)→∀ q∈opsOf n,sg q≠sg (k.val+5):=by decide +kernel
 have:=this ⟨op - 5,by omega⟩
 simp only at this
 rw [show op - 5+5=op by omega] at this
 exact this
theorem opAt_here {l:List Tok} {i op:Nat} {U:List T3} (h1:5≤op) (h2:op≤15) (h:AtT l i ((3,sg op,0) :: U)):opAt (flE op) l i=op∧∀ n,n < 5→n≠flE op→opAt n l i=0:=by
 obtain ⟨g1,g2,g3⟩:=flE_le op h1 h2
 refine ⟨opAt_of g2 (isE_yes h),fun n hn hne=>?_⟩
 by_cases h0:opAt n l i=0
 ·exact h0
 ·have h2:=opAt_some h0
  have:=isE_no (s:=sg (opAt n l i)) h (fun e=>g3 n hn hne _ h2.1 e.symm)
  rw [h2.2] at this;cases this
theorem flR_up {pr : Nat → Res} {l : List Tok} {i tq : Nat} {x : Ex} : ∀ (d m : Nat), m + d ≤ 5 → flR pr l m i = .inl (x, tq) → (∀ n, n < 5 - m → 5 - (m + d) ≤ n → opAt n l tq = 0) → flR pr l (m + d) i = .inl (x, tq)
  | 0, m, _, h, _ => h
  | d + 1, m, hm, h, hf => by
    have ih := flR_up d m (by omega) h (fun n h1 h2 => hf n h1 (by omega))
    rw [show m + (d + 1) = (m + d) + 1 by omega]
    unfold flR
    rw [ih]
    simp only
    exact lpS_stop (hf _ (by omega) (by omega))
theorem mayE_op {x:Nod} (h:mayE x=true) (h1:x.op≠1) (h2:x.op≠2):x.n=0∧x.name = []:=by
 unfold mayE at h
 split at h
 ·cases h
 ·simp only [Bool.and_eq_true,beq_iff_eq] at h
  exact h
theorem nameE_not {s:List UInt8} (h:nameE s=true) (t:List UInt8) (ht:∀ c r,t=c :: r→letterE c=false):s≠t:=by
 intro e
 subst e
 cases s with
 | nil=>cases h
 | cons c r =>
   have:=ht c r rfl
   unfold nameE at h
   simp only [this,Bool.and_eq_true] at h
   simp at h
theorem unE_no {l:List Tok} {i:Nat} (h1:isE l i [33] = false) (h2:isE l i [45] = false):unE l i=false:=by unfold unE;rw [h1,h2];rfl
theorem prR_base {l:List Tok} {i k:Nat} (hi:i < l.length) (h1:unE l i=false) (h2:opE l i=false):prR l k i=baseR l i:=by
 cases k with
 | zero=>unfold prR;rw [if_neg (by omega),if_neg (by rw [h1,h2];simp)]
 | succ k=>unfold prR;rw [if_neg (by omega),if_neg (by rw [h1];simp),if_neg (by rw [h2];simp)]
theorem read_two (l:List Tok) (x:Nod) (a b:Ex) (i k:Nat) (ho:(Ex.two x a b).ok) (hm:(Ex.two x a b).may) (hd:(Ex.two x a b).deep≤k+2)
 (HA:∀ j,AtT l j (a.brkT a.toks)→∃ e':Ex,prR l k j = .inl (e',j+(a.brkT a.toks).length)∧e'.bare=a.bare) (HB:∀ j,AtT l j (b.brkT b.toks)→∃ e':Ex,prR l k j = .inl (e',j+(b.brkT b.toks).length)∧e'.bare=b.bare)
 (ha:AtT l i (Ex.two x a b).toks) (hf:Free l (i+(Ex.two x a b).toks.length)):∃ e':Ex,flR (prR l k) l 5 i = .inl (e',i+(Ex.two x a b).toks.length)∧e'.bare=(Ex.two x a b).bare:=by
 obtain ⟨hx,hma,hmb⟩:=Ex.may_two hm
 have ha':AtT l i (a.brkT a.toks++((3,sg x.op.toNat,0) :: b.brkT b.toks)):=ha
 obtain ⟨a',h1,h2⟩:=HA i ha'.left
 have hr:=ha'.right
 obtain ⟨b',h3,h4⟩:=HB _ hr.tail
 have hop:=kids_op.2.2 ho.1
 obtain ⟨o1,o2⟩:=opAt_here (op:=x.op.toNat) (by omega) (by omega) hr
 obtain ⟨f1,f2,f3⟩:=flE_le x.op.toNat (by omega) (by omega)
 obtain ⟨hn,hnm⟩:=mayE_op hx (by omega) (by omega)
 have hlen:(Ex.two x a b).toks.length=(a.brkT a.toks).length+1+(b.brkT b.toks).length:=by
  show (a.brkT a.toks++((3,sg x.op.toNat,0) :: b.brkT b.toks)).length=_
  simp;omega
 have hend:i+(a.brkT a.toks).length+1+(b.brkT b.toks).length=i+(Ex.two x a b).toks.length:=by omega
 rw [hend] at h3
 generalize i+(Ex.two x a b).toks.length=to2 at *
 generalize i+(a.brkT a.toks).length=to1 at *
 generalize hfl:flE x.op.toNat=f at *
 generalize hopn:x.op.toNat=op at *
 have w1:flR (prR l k) l (4 - f) i = .inl (a',to1):=by
  have:=flR_up (pr:=prR l k) (l:=l) (i:=i) (tq:=to1) (x:=a') (4 - f) 0 (by omega) h1 (fun n g1 g2=>o2 n (by omega) (by omega))
  rw [Nat.zero_add] at this;exact this
 have w2:flR (prR l k) l (4 - f) (to1+1) = .inl (b',to2):=by
  have:=flR_up (pr:=prR l k) (l:=l) (i:=to1+1) (tq:=to2) (x:=b') (4 - f) 0 (by omega) h3 (fun n g1 g2=>hf n (by omega))
  rw [Nat.zero_add] at this;exact this
 have hfw:=flR_fwd (prR_fwd l k) (4 - f)
 have w3:flR (prR l k) l (4 - f+1) i = .inl (.two ⟨op,0,[],(tk l to1).pos⟩ a' b',to2):=by
  unfold flR
  rw [w1]
  simp only
  rw [show 4 - (4 - f)=f by omega]
  have hne:opAt f l to1≠0:=by rw [o1];omega
  rw [lpS_step hfw hne w2,o1]
  split
  ·rfl
  ·exact lpS_stop (hf f (by omega))
 refine ⟨.two ⟨op,0,[],(tk l to1).pos⟩ a' b',?_,?_⟩
 ·have:=flR_up (pr:=prR l k) (l:=l) (i:=i) (tq:=to2) f (4 - f+1) (by omega) w3 (fun n g1 g2=>hf n (by omega))
  rw [show 4 - f+1+f=5 by omega] at this
  exact this
 ·have hop2:((op:Nat):Int)=x.op:=by omega
  simp only [Ex.bare,bareN,h2,h4,hop2,hn,hnm]
theorem read_part (l : List Tok) : ∀ (e : Ex) (i k : Nat), e.ok → e.may → e.deep ≤ k + 1 → AtT l i (e.brkT e.toks) → ∃ e' : Ex, prR l k i = .inl (e', i + (e.brkT e.toks).length) ∧ e'.bare = e.bare
  | .leaf x, i, k, ho, hm, hd, ha => by
    have hx := hm x (by simp [Ex.flat])
    have hop := kids_op.1 (show kidsE x.op = 0 from ho)
    rcases hop with h1 | h1
    · have ht : (Ex.leaf x).brkT (Ex.leaf x).toks = [(2, Lib.itoa x.n, x.n)] := by show (Ex.leaf x).toks = _; unfold Ex.toks; rw [if_pos h1]
      rw [ht] at ha ⊢
      obtain ⟨hn, _⟩ := mayE_leaf1 hx h1
      obtain ⟨g1, g2, g3, g4⟩ := ha.head
      refine ⟨_, by rw [prR_base g1 (unE_no (isE_num ha rfl) (isE_num ha rfl)) (isE_num ha rfl)]; unfold baseR; rw [if_pos g2]; rfl, ?_⟩
      simp only [Ex.bare, bareN, g4]
      rw [h1, hn]
    · have ht : (Ex.leaf x).brkT (Ex.leaf x).toks = [(1, x.name, 0)] := by show (Ex.leaf x).toks = _; unfold Ex.toks; rw [if_neg (by omega)]
      rw [ht] at ha ⊢
      obtain ⟨hn, hnm⟩ := mayE_leaf2 hx h1
      obtain ⟨g1, g2, g3, g4⟩ := ha.head
      have q1 : isE l i [33] = false := isE_no ha (nameE_not hnm _ (fun c r e => by cases e; rfl))
      have q2 : isE l i [45] = false := isE_no ha (nameE_not hnm _ (fun c r e => by cases e; rfl))
      have q3 : opE l i = false := isE_no ha (nameE_not hnm _ (fun c r e => by cases e; rfl))
      simp only at g2 g3
      refine ⟨_, by rw [prR_base g1 (unE_no q1 q2) q3]; unfold baseR; rw [if_neg (by rw [g2]; decide), if_pos ⟨g2, by rw [g3]; exact hnm⟩]; rfl, ?_⟩
      simp only [Ex.bare, bareN, g3]
      rw [h1, hn]
  | .one x a, i, k, ho, hm, hd, ha => by
    obtain ⟨hx, hma⟩ := Ex.may_one hm
    have ha' : AtT l i ((3, sg x.op.toNat, 0) :: a.brkT a.toks) := ha
    have hk : 1 ≤ k := by have := a.deep_pos; simp only [Ex.deep] at hd; omega
    obtain ⟨k, rfl⟩ : ∃ j, k = j + 1 := ⟨k - 1, by omega⟩
    obtain ⟨a', h1, h2⟩ := read_part l a (i + 1) k ho.2 hma (by simp only [Ex.deep] at hd; omega) ha'.tail
    obtain ⟨g1, g2, g3, g4⟩ := ha'.head
    have hop := kids_op.2.1 ho.1
    have hu : unE l i = true := by
      unfold unE
      rcases hop with h | h
      · have : isE l i [45] = true := isE_yes (s := [45]) (U := a.brkT a.toks) (by rw [h] at ha'; exact ha')
        rw [this]; simp
      · have : isE l i [33] = true := isE_yes (s := [33]) (U := a.brkT a.toks) (by rw [h] at ha'; exact ha')
        rw [this]; simp
    obtain ⟨hn, hnm⟩ := mayE_op hx (by omega) (by omega)
    refine ⟨.one ⟨if (tk l i).text = [45] then 3 else 4, 0, [], (tk l i).pos⟩ a', ?_, ?_⟩
    · unfold prR
      rw [if_neg (by omega), if_pos hu, h1]
      show Sum.inl _ = Sum.inl _
      rw [show i + 1 + (a.brkT a.toks).length = i + ((Ex.one x a).brkT (Ex.one x a).toks).length by show _ = i + (a.brkT a.toks).length.succ; omega]
    · have hh : (if (tk l i).text = [45] then (3 : Int) else 4) = x.op := by
        simp only at g3
        rw [g3]
        rcases hop with h | h <;> rw [h] <;> decide
      simp only [Ex.bare, bareN, h2, hh, hn, hnm]
  | .two x a b, i, k, ho, hm, hd, ha => by
    have ha' : AtT l i ((3, [40], 0) :: ((Ex.two x a b).toks ++ [(3, [41], 0)])) := ha
    have hk : 1 ≤ k := by have := a.deep_pos; simp only [Ex.deep] at hd; omega
    obtain ⟨k, rfl⟩ : ∃ j, k = j + 1 := ⟨k - 1, by omega⟩
    have hc := ha'.tail.right
    obtain ⟨e', h1, h2⟩ := read_two l x a b (i + 1) k ho hm (by omega) (fun j hj => read_part l a j k ho.2.1 (Ex.may_two hm).2.1 (by simp only [Ex.deep] at hd; omega) hj) (fun j hj => read_part l b j k ho.2.2 (Ex.may_two hm).2.2 (by simp only [Ex.deep] at hd; omega) hj) ha'.tail.left (free_close hc)
    obtain ⟨g1, g2, g3, g4⟩ := ha'.head
    refine ⟨e', ?_, h2⟩
    unfold prR
    have q3 : opE l i = true := isE_yes ha'
    have q2 : unE l i = false := unE_no (isE_no ha' (by decide)) (isE_no ha' (by decide))
    have hcl : isE l ((i + 1 + (Ex.two x a b).toks.length : Nat) : Int) [41] = true := isE_yes hc
    rw [if_neg (by omega), if_neg (by rw [q2]; decide), if_pos q3, h1]
    simp only
    rw [if_pos hcl]
    rw [show i + 1 + (Ex.two x a b).toks.length + 1 = i + ((Ex.two x a b).brkT (Ex.two x a b).toks).length by
      have : ((Ex.two x a b).brkT (Ex.two x a b).toks).length = (Ex.two x a b).toks.length + 2 := by show ((3, [40], 0) :: ((Ex.two x a b).toks ++ [(3, [41], 0)]) : List T3).length = _; simp
      omega]
theorem read_whole (l:List Tok) (e:Ex) (k:Nat) (ho:e.ok) (hm:e.may) (hd:e.deep≤k+1) (i:Nat) (ha:AtT l i e.toks) (hf:Free l (i+e.toks.length)) :
 ∃ e':Ex,flR (prR l k) l 5 i = .inl (e',i+e.toks.length)∧e'.bare=e.bare:=by
 match e,ho,hm,hd,ha,hf with
 | .leaf x,ho,hm,hd,ha,hf =>
   obtain ⟨e',h1,h2⟩:=read_part l (.leaf x) i k ho hm hd ha
   refine ⟨e',?_,h2⟩
   have:=flR_up (pr:=prR l k) (l:=l) (i:=i) (x:=e') 5 0 (by omega) h1 (fun n g1 g2=>hf n (by omega))
   exact this
 | .one x a,ho,hm,hd,ha,hf =>
   obtain ⟨e',h1,h2⟩:=read_part l (.one x a) i k ho hm hd ha
   refine ⟨e',?_,h2⟩
   have:=flR_up (pr:=prR l k) (l:=l) (i:=i) (x:=e') 5 0 (by omega) h1 (fun n g1 g2=>hf n (by omega))
   exact this
 | .two x a b,ho,hm,hd,ha,hf=>exact read_two l x a b i k ho hm (by omega) (fun j hj=>read_part l a j k ho.2.1 (Ex.may_two hm).2.1 (by simp only [Ex.deep] at hd;omega) hj) (fun j hj=>read_part l b j k ho.2.2 (Ex.may_two hm).2.2 (by simp only [Ex.deep] at hd;omega) hj) ha hf
end Go.Proofs.YtaoeaaebafcegaaGreatDoor
namespace Go.Proofs.YtaoeaaebafcegaaGreatDoor
open Go Go.RowKit
set_option linter.unusedVariables false
theorem tw_app {p : UInt8 → Bool} : ∀ (s q : List UInt8), s.all p = true → (∀ c r, q = c :: r → p c = false) → (s ++ q).takeWhile p = s
  | [], [], _, _ => rfl
  | [], c :: r, _, h => by rw [List.nil_append, List.takeWhile_cons, h c r rfl]; rfl
  | x :: s, q, hs, h => by
    simp only [List.all_cons, Bool.and_eq_true] at hs
    rw [List.cons_append, List.takeWhile_cons, hs.1]
    simp only [if_true]
    rw [tw_app s q hs.2 h]
def scanB (pos:Nat) (l:List UInt8):List Tok × Int × Int:=scanS (pos+pastA false l) (l.drop (pastA false l))
theorem scanB_nil (pos:Nat):scanB pos [] = ([],0,0):=rfl
theorem scanE_B {l:List UInt8} (h:l.length≤4000):scanE l=comb [] (scanB 0 l):=by unfold scanE;rw [if_pos h];unfold scanB;rw [Nat.zero_add]
theorem scanB_blank (pos:Nat) (l:List UInt8):scanB pos (32 :: l)=scanB (pos+1) l:=by
 have:pastA false (32 :: l)=pastA false l+1:=rfl
 unfold scanB
 rw [this,List.drop_succ_cons,show pos+(pastA false l+1)=pos+1+pastA false l by omega]
theorem scan_pc {s q:List UInt8} {k n:Int} (hs:s≠[]) (h0:pastA false (s++q)=0) (h:∀ pos:Int,tokE (s++q) pos = .inl (⟨k,s,n,pos⟩,s.length)) (pos:Nat) :
 scanB pos (s++q)=comb [⟨k,s,n,pos⟩] (scanB (pos+s.length) q):=by
 unfold scanB
 rw [h0]
 obtain ⟨c,r,rfl⟩:∃ c r,s=c :: r:=by cases s with | nil=>exact absurd rfl hs | cons c r=>exact ⟨c,r,rfl⟩
 have e:=scanS_tok (pos:=pos) (c:=c) (r:=r++q) (h pos)
 have hd:(c :: (r++q)).drop (c :: r).length=q:=by rw [← List.cons_append];exact List.drop_left
 rw [hd] at e
 rw [List.drop_zero,Nat.add_zero]
 exact e
def Fol (q:List UInt8):Prop:=∀ c r,q=c :: r→ldE c=false
theorem fol_blank (q:List UInt8):Fol (32 :: q):=fun c r h=>by cases h;rfl
theorem fol_close (q:List UInt8):Fol (41 :: q):=fun c r h=>by cases h;rfl
theorem past_okC {c:UInt8} {r:List UInt8} (h:okC c):pastA false (c :: r)=0:=by
 unfold pastA
 rw [if_neg (by rw [h.1];decide),if_neg (fun g=>h.2.1 g.1)]
theorem letter_not_digit {c:UInt8} (h:digitE c=true):letterE c=false:=by
 have h':48≤c.toNat∧c.toNat≤57:=by simpa [digitE] using h
 unfold letterE
 simp;omega
theorem ldE_digit {c:UInt8} (h:ldE c=false):digitE c=false:=by unfold ldE at h;simp at h;exact h.2
theorem tok_name {s q:List UInt8} (h:nameE s=true) (hq:Fol q) (pos:Int):tokE (s++q) pos = .inl (⟨1,s,0,pos⟩,s.length):=by
 cases s with
 | nil=>cases h
 | cons c r =>
   unfold nameE at h
   simp only [Bool.and_eq_true,decide_eq_true_eq] at h
   obtain ⟨⟨⟨h1,h2⟩,h3⟩,h4⟩:=h
   have ht:=tw_app (p:=ldE) (c :: r) q h4 hq
   rw [List.cons_append] at ht ⊢
   unfold tokE
   simp only
   rw [if_pos h2,ht,if_pos h1]
theorem tok_num {n:Int} {q:List UInt8} (h0:0≤n) (h1:n≤4294967296) (hq:Fol q) (pos:Int):tokE (Lib.itoa n++q) pos = .inl (⟨2,Lib.itoa n,n,pos⟩,(Lib.itoa n).length):=by
 obtain ⟨c,r,hc,hd,_⟩:=num_head h0 h1
 obtain ⟨d1,d2,d3⟩:=dec_dig _ n.toNat (Nat.le_refl _)
 rw [← itoa_pos h0] at d1 d2
 have ht:=tw_app (p:=digitE) (Lib.itoa n) q d1 (fun c r e=>ldE_digit (hq c r e))
 rw [hc] at ht d2 ⊢
 rw [List.cons_append] at ht ⊢
 unfold tokE
 simp only
 rw [if_neg (by rw [letter_not_digit hd];decide),if_pos hd,ht,d2,if_pos (by omega)]
 rw [show ((n.toNat:Nat):Int)=n by omega]
theorem tok_open (q:List UInt8) (pos:Int):tokE ([40]++q) pos = .inl (⟨3,[40],0,pos⟩,1):=rfl
theorem tok_close (q:List UInt8) (pos:Int):tokE ([41]++q) pos = .inl (⟨3,[41],0,pos⟩,1):=rfl
theorem tok_minus (q:List UInt8) (pos:Int):tokE ([45]++q) pos = .inl (⟨3,[45],0,pos⟩,1):=rfl
theorem tok_not {c:UInt8} {q:List UInt8} (hc:c≠61) (pos:Int):tokE ([33]++c :: q) pos = .inl (⟨3,[33],0,pos⟩,1):=by
 have h:signE (33 :: c :: q)=1:=by
  have hb:((61:UInt8) == c)=false:=beq_eq_false_iff_ne.2 (fun e=>hc e.symm)
  have h2:twos.any (fun t=>t.isPrefixOf (33 :: c :: q))=false:=by
   simp only [twos,List.any_cons,List.any_nil,List.isPrefixOf,hb]
   rfl
  unfold signE
  rw [h2]
  rfl
 show tokE (33 :: c :: q) pos=_
 unfold tokE
 simp only
 rw [h]
 rfl
def ScanAs (s:List UInt8) (T:List T3):Prop:=∀ (q:List UInt8) (pos:Nat),Fol q→∃ ts:List Tok,ts.map strip=T∧scanB pos (s++q)=comb ts (scanB (pos+s.length) q)
theorem ScanAs.app {s t:List UInt8} {T U:List T3} (hs:∀ (q:List UInt8) (pos:Nat),Fol q→∃ ts:List Tok,ts.map strip=T∧scanB pos (s++(t++q))=comb ts (scanB (pos+s.length) (t++q))) (ht:ScanAs t U):ScanAs (s++t) (T++U):=by
 intro q pos hq
 obtain ⟨ts,h1,h2⟩:=hs q pos hq
 obtain ⟨us,h3,h4⟩:=ht q (pos+s.length) hq
 refine ⟨ts++us,by rw [List.map_append,h1,h3],?_⟩
 rw [List.append_assoc,h2,h4,comb_comb,List.length_append,Nat.add_assoc]
theorem scan_brk (a:Ex) (h:ScanAs a.show a.toks):ScanAs (a.brk a.show) (a.brkT a.toks):=by
 cases a with
 | leaf x=>exact h
 | one x a=>exact h
 | two x a b =>
   intro q pos hq
   obtain ⟨ts,h1,h2⟩:=h (41 :: q) (pos+1) (fol_close q)
   refine ⟨⟨3,[40],0,pos⟩ :: (ts++[⟨3,[41],0,(pos+1+(Ex.two x a b).show.length:Nat)⟩]),?_,?_⟩
   ·show (3,[40],0) :: (ts++[_]).map strip=(3,[40],0) :: ((Ex.two x a b).toks++[(3,[41],0)])
    rw [List.map_append,h1];rfl
   ·show scanB pos (40 :: ((Ex.two x a b).show++[41])++q)=_
    have e1:=scan_pc (s:=[40]) (q:=(Ex.two x a b).show++41 :: q) (by simp) rfl (tok_open _) pos
    have e2:=scan_pc (s:=[41]) (q:=q) (by simp) rfl (tok_close _) (pos+1+(Ex.two x a b).show.length)
    rw [show (40 :: ((Ex.two x a b).show++[41])++q:List UInt8) = [40]++((Ex.two x a b).show++41 :: q) by simp,e1]
    rw [show pos + [(40:UInt8)].length=pos+1 by rfl,h2]
    rw [show (41 :: q:List UInt8) = [41]++q by rfl,e2,comb_comb,comb_comb]
    rw [show pos+1+(Ex.two x a b).show.length + [(41:UInt8)].length=pos+((Ex.two x a b).brk (Ex.two x a b).show).length by
     show _=pos+(40 :: ((Ex.two x a b).show++[41]):List UInt8).length
     simp only [List.length_cons,List.length_append,List.length_nil];omega]
    rfl
theorem scan_show:∀ e:Ex,e.ok→e.may→ScanAs e.show e.toks
 | .leaf x,ho,hm=>by
   have hx:=hm x (by simp [Ex.flat])
   have hop:=kids_op.1 (show kidsE x.op=0 from ho)
   intro q pos hq
   rcases hop with h1 | h1
   ·obtain ⟨_,g1,g2⟩:=mayE_leaf1 hx h1
    obtain ⟨c,r,hc,hd,_⟩:=num_head g1 g2
    have hs:(Ex.leaf x).show=Lib.itoa x.n:=by unfold Ex.show;rw [if_pos h1]
    have ht:(Ex.leaf x).toks = [(2,Lib.itoa x.n,x.n)]:=by unfold Ex.toks;rw [if_pos h1]
    rw [hs,ht]
    refine ⟨[⟨2,Lib.itoa x.n,x.n,pos⟩],rfl,scan_pc (by rw [hc];simp) (by rw [hc];exact past_okC (okC_digit hd)) (tok_num g1 g2 hq) pos⟩
   ·obtain ⟨_,g1⟩:=mayE_leaf2 hx h1
    obtain ⟨c,r,hc,hd,_⟩:=name_head g1
    have hs:(Ex.leaf x).show=x.name:=by unfold Ex.show;rw [if_neg (by omega)]
    have ht:(Ex.leaf x).toks = [(1,x.name,0)]:=by unfold Ex.toks;rw [if_neg (by omega)]
    rw [hs,ht]
    refine ⟨[⟨1,x.name,0,pos⟩],rfl,scan_pc (by rw [hc];simp) (by rw [hc];exact past_okC hd) (tok_name g1 hq) pos⟩
 | .one x a,ho,hm=>by
   obtain ⟨hx,hma⟩:=Ex.may_one hm
   have hop:=kids_op.2.1 ho.1
   obtain ⟨c,r,hc,hd⟩:=part_head a ho.2 hma
   have hp:=scan_brk a (scan_show a ho.2 hma)
   show ScanAs (sg x.op.toNat++a.brk a.show) ([(3,sg x.op.toNat,0)]++a.brkT a.toks)
   refine ScanAs.app (fun q pos hq=>?_) hp
   refine ⟨[⟨3,sg x.op.toNat,0,pos⟩],rfl,?_⟩
   rcases hop with h | h
   ·rw [h]
    exact scan_pc (s:=[45]) (by simp) rfl (tok_minus _) pos
   ·rw [h,hc]
    exact scan_pc (s:=[33]) (by simp) rfl (tok_not hd.2.2) pos
 | .two x a b,ho,hm=>by
   obtain ⟨hx,hma,hmb⟩:=Ex.may_two hm
   have hop:=kids_op.2.2 ho.1
   have hpa:=scan_brk a (scan_show a ho.2.1 hma)
   have hpb:=scan_brk b (scan_show b ho.2.2 hmb)
   have hsg:=fun q pos=>pc_sign q pos x.op.toNat (by omega) (by omega)
   intro q pos hq
   obtain ⟨ta,a1,a2⟩:=hpa (32 :: (sg x.op.toNat++32 :: (b.brk b.show++q))) pos (fol_blank _)
   obtain ⟨tb,b1,b2⟩:=hpb q (pos+(a.brk a.show).length+1+(sg x.op.toNat).length+1) hq
   refine ⟨ta++(⟨3,sg x.op.toNat,0,(pos+(a.brk a.show).length+1:Nat)⟩ :: tb),?_,?_⟩
   ·rw [List.map_append,a1,List.map_cons,b1];rfl
   ·have e1:=scan_pc (s:=sg x.op.toNat) (q:=32 :: (b.brk b.show++q)) (hsg [] 0).2.2.1 (hsg _ 0).2.1 (fun p=>(hsg _ p).1) (pos+(a.brk a.show).length+1)
    rw [show (Ex.two x a b).show++q=a.brk a.show++(32 :: (sg x.op.toNat++32 :: (b.brk b.show++q))) by simp [Ex.show],a2,scanB_blank,e1,scanB_blank,b2,comb_comb,comb_comb]
    rw [show pos+(a.brk a.show).length+1+(sg x.op.toNat).length+1+(b.brk b.show).length=pos+(Ex.two x a b).show.length by simp only [Ex.show,List.length_append,List.length_cons,List.length_nil];omega]
    simp
end Go.Proofs.YtaoeaaebafcegaaGreatDoor
namespace Go.Proofs.YtaoeaaebafcegaaGreatDoor
open Go Go.RowKit
set_option linter.unusedVariables false
end Go.Proofs.YtaoeaaebafcegaaGreatDoor
namespace Go.Proofs.YtaoeaaebafcegaaGreatDoor
open Go Go.RowKit
set_option linter.unusedVariables false
theorem sameE_bare : ∀ (a b : List Nod), a.map bareN = b.map bareN → sameE false a b = true
  | [], [], _ => rfl
  | [], y :: b, h => by simp at h
  | x :: a, [], h => by simp at h
  | x :: a, y :: b, h => by
    simp only [List.map_cons, List.cons.injEq] at h
    unfold sameE
    rw [sameE_bare a b h.2]
    have h1 := h.1
    unfold bareN at h1
    simp only [Nod.mk.injEq] at h1
    unfold nodS
    rw [h1.1, h1.2.1, h1.2.2.1]
    simp
theorem wrap64_in {z:Int} (h0:0≤z) (h1:z≤4000):wrap64 z=z:=by
 unfold wrap64
 omega
theorem placeE_bound {l:List Tok} {n:Nat} (h:∀ t∈l,TokIn n t) (hn:n≤4000) (j:Nat):0≤placeE l j∧placeE l j≤n:=by
 by_cases hj:j < l.length
 ·rw [placeE_in hj]
  have:=h _ (List.getElem_mem hj)
  have h1:=this.pos0;have h2:=this.pos1
  omega
 ·by_cases h0:l.length=0
  ·rw [placeE_nil h0];omega
  ·obtain ⟨m,hm⟩:∃ m,l.length=m+1:=⟨l.length - 1,by omega⟩
   rw [placeE_out (by omega) hm]
   have:=h _ (List.getElem_mem (show m < l.length by omega))
   have h1:=this.pos0;have h2:=this.pos1
   rw [wrap64_in (by omega) (by omega)]
   omega
noncomputable def toksN (l : List Nod) : List T3 := match treeE l with
  | some e => e.toks
  | none => []
noncomputable def partT (x:St) (c:UInt8):List T3:=if c=114 then [(1,x.reg,0)] else if c=110 then [(1,x.name,0)] else if c=101 then toksN x.e else if c=102 then toksN x.f else [(2,Lib.itoa x.n,x.n)]
def sepT (n:Nat):List T3:=if n=0 then [] else if n=1 then [(3,[61],0)] else [(3,[44],0)]
noncomputable def pieT (x : St) : List UInt8 → Nat → List T3
  | [], _ => []
  | c :: r, n => sepT n ++ (partT x c ++ pieT x r (n + 1))
noncomputable def lineT (x:St):List T3:=(if x.kind=1 then [] else [(1,wordS x.kind.toNat,0)])++pieT x (lettS x.kind.toNat) 0
def ScanTo (s:List UInt8) (T:List T3) (q:List UInt8):Prop:=∀ pos:Nat,∃ ts:List Tok,ts.map strip=T∧comb [] (scanB pos (s++q))=comb ts (scanB (pos+s.length) q)
theorem ScanTo.app {s t q:List UInt8} {T U:List T3} (hs:ScanTo s T (t++q)) (ht:ScanTo t U q):ScanTo (s++t) (T++U) q:=by
 intro pos
 obtain ⟨ts,h1,h2⟩:=hs pos
 obtain ⟨us,h3,h4⟩:=ht (pos+s.length)
 refine ⟨ts++us,by rw [List.map_append,h1,h3],?_⟩
 rw [List.append_assoc,h2,List.length_append,← Nat.add_assoc,← comb_comb,← h4,comb_comb,List.append_nil]
theorem scanTo_nil (q:List UInt8):ScanTo [] [] q:=fun pos=>⟨[],rfl,rfl⟩
theorem scanB_blk {c:UInt8} (h:blankE c=true) (pos:Nat) (l:List UInt8):scanB pos (c :: l)=scanB (pos+1) l:=by
 have:pastA false (c :: l)=pastA false l+1:=by
  show pastA false (c :: l)=_
  unfold pastA
  rw [if_pos h]
  cases l <;> rfl
 unfold scanB
 rw [this,List.drop_succ_cons,show pos+(pastA false l+1)=pos+1+pastA false l by omega]
theorem scanTo_blanks : ∀ (s q : List UInt8), s.all blankE = true → ScanTo s [] q
  | [], q, _ => scanTo_nil q
  | c :: r, q, h => by
    simp only [List.all_cons, Bool.and_eq_true] at h
    intro pos
    obtain ⟨ts, h1, h2⟩ := scanTo_blanks r q h.2 (pos + 1)
    refine ⟨ts, h1, ?_⟩
    rw [List.cons_append, scanB_blk h.1, h2, List.length_cons, show pos + 1 + r.length = pos + (r.length + 1) by omega]
theorem scanTo_pc {s q:List UInt8} {k n:Int} (hs:s≠[]) (h0:pastA false (s++q)=0) (h:∀ pos:Int,tokE (s++q) pos = .inl (⟨k,s,n,pos⟩,s.length)):ScanTo s [(k,s,n)] q:=fun pos =>
 ⟨[⟨k,s,n,pos⟩],rfl,by rw [scan_pc hs h0 h pos,comb_comb];rfl⟩
def Wordy (s:List UInt8):Prop:=∃ c r,s=c :: r∧letterE c=true∧s.all ldE=true∧s.length≤16
theorem wordy_name {s:List UInt8} (h:nameE s=true):Wordy s:=by
 cases s with
 | nil=>cases h
 | cons c r =>
   unfold nameE at h
   simp only [Bool.and_eq_true,decide_eq_true_eq] at h
   exact ⟨c,r,rfl,h.1.1.2,h.2,h.1.1.1⟩
theorem wordy_kept : ∀ k, 2 ≤ k → k ≤ 14 → Wordy (wordS k) ∧ nameE (wordS k) = false
  | 0, h, _ => absurd h (by omega)
  | 1, h, _ => absurd h (by omega)
  | 2, _, _ => ⟨⟨_, _, rfl, by decide, by decide, by decide⟩, by decide⟩
  | 3, _, _ => ⟨⟨_, _, rfl, by decide, by decide, by decide⟩, by decide⟩
  | 4, _, _ => ⟨⟨_, _, rfl, by decide, by decide, by decide⟩, by decide⟩
  | 5, _, _ => ⟨⟨_, _, rfl, by decide, by decide, by decide⟩, by decide⟩
  | 6, _, _ => ⟨⟨_, _, rfl, by decide, by decide, by decide⟩, by decide⟩
  | 7, _, _ => ⟨⟨_, _, rfl, by decide, by decide, by decide⟩, by decide⟩
  | 8, _, _ => ⟨⟨_, _, rfl, by decide, by decide, by decide⟩, by decide⟩
  | 9, _, _ => ⟨⟨_, _, rfl, by decide, by decide, by decide⟩, by decide⟩
  | 10, _, _ => ⟨⟨_, _, rfl, by decide, by decide, by decide⟩, by decide⟩
  | 11, _, _ => ⟨⟨_, _, rfl, by decide, by decide, by decide⟩, by decide⟩
  | 12, _, _ => ⟨⟨_, _, rfl, by decide, by decide, by decide⟩, by decide⟩
  | 13, _, _ => ⟨⟨_, _, rfl, by decide, by decide, by decide⟩, by decide⟩
  | 14, _, _ => ⟨⟨_, _, rfl, by decide, by decide, by decide⟩, by decide⟩
  | n + 15, _, h => absurd h (by omega)
theorem wordy_else:Wordy wElse:=⟨_,_,rfl,by decide,by decide,by decide⟩
theorem scanTo_word {s q:List UInt8} (h:Wordy s) (hq:Fol q):ScanTo s [(1,s,0)] q:=by
 obtain ⟨c,r,rfl,h1,h2,h3⟩:=h
 refine scanTo_pc (by simp) (past_okC (okC_letter h1)) (fun pos=>?_)
 have ht:=tw_app (p:=ldE) (c :: r) q h2 hq
 rw [List.cons_append] at ht ⊢
 unfold tokE
 simp only
 rw [if_pos h1,ht,if_pos h3]
theorem scanTo_num {n:Int} {q:List UInt8} (h0:0≤n) (h1:n≤4294967296) (hq:Fol q):ScanTo (Lib.itoa n) [(2,Lib.itoa n,n)] q:=by
 obtain ⟨c,r,hc,hd,_⟩:=num_head h0 h1
 exact scanTo_pc (by rw [hc];simp) (by rw [hc];exact past_okC (okC_digit hd)) (tok_num h0 h1 hq)
theorem scanTo_expr {l:List Nod} {q:List UInt8} (h:rightE l=true) (hq:Fol q):ScanTo (showE l) (toksN l) q:=by
 obtain ⟨e,ho,hl,ht,_,hm,_⟩:=rightE_some h
 have e1:showE l=e.show:=by unfold showE;rw [if_pos h,ht]
 have e2:toksN l=e.toks:=by unfold toksN;rw [ht]
 rw [e1,e2]
 intro pos
 obtain ⟨ts,h1,h2⟩:=scan_show e ho (by rw [hl] at hm;exact hm) q pos hq
 exact ⟨ts,h1,by rw [h2,comb_comb];rfl⟩
theorem scanTo_open (q:List UInt8):ScanTo [123] [(3,[123],0)] q:=scanTo_pc (by simp) rfl (fun _=>rfl)
theorem scanTo_shut (q:List UInt8):ScanTo [125] [(3,[125],0)] q:=scanTo_pc (by simp) rfl (fun _=>rfl)
theorem scanTo_semi (q:List UInt8):ScanTo [59] [(3,[59],0)] q:=scanTo_pc (by simp) rfl (fun _=>rfl)
theorem scanTo_comma (q:List UInt8):ScanTo [44] [(3,[44],0)] q:=scanTo_pc (by simp) rfl (fun _=>rfl)
theorem scanTo_is (q:List UInt8):ScanTo [61] [(3,[61],0)] (32 :: q):=scanTo_pc (by simp) rfl (fun _=>rfl)
theorem scanTo_bl (q:List UInt8):ScanTo [32] [] q:=scanTo_blanks _ _ rfl
theorem scanTo_nl (q:List UInt8):ScanTo [10] [] q:=scanTo_blanks _ _ rfl
def PartOk (x:St) (c:UInt8):Prop:=(c=114∧nameE x.reg=true)∨(c=110∧nameE x.name=true)∨(c=101∧rightE x.e=true)∨(c=102∧rightE x.f=true)∨(c=107∧1≤x.n∧x.n≤8)
theorem fits_part {x:St} (h:Fits x) (c:UInt8) (hc:c∈lettS x.kind.toNat):PartOk x c:=by
 have h1:=h.k1
 obtain ⟨h2,h3⟩:=lett_in _ (by omega) c hc
 have h4:=(hasC_iff x c).2 h2
 rcases h3 with rfl | rfl | rfl | rfl | rfl
 ·exact .inl ⟨rfl,by have:=h.r;rwa [if_pos h4] at this⟩
 ·exact .inr (.inl ⟨rfl,by have:=h.nm;rwa [if_pos h4] at this⟩)
 ·exact .inr (.inr (.inl ⟨rfl,by have:=h.e;rwa [if_pos h4] at this⟩))
 ·exact .inr (.inr (.inr (.inl ⟨rfl,by have:=h.f;rwa [if_pos h4] at this⟩)))
 ·exact .inr (.inr (.inr (.inr ⟨rfl,by have:=h.t;rwa [if_pos h4] at this⟩)))
theorem scanTo_part {x:St} {c:UInt8} {q:List UInt8} (h:PartOk x c) (hq:Fol q):ScanTo (partS x c) (partT x c) q:=by
 unfold partS partT
 rcases h with ⟨rfl,h⟩ | ⟨rfl,h⟩ | ⟨rfl,h⟩ | ⟨rfl,h⟩ | ⟨rfl,h⟩
 ·exact scanTo_word (wordy_name h) hq
 ·exact scanTo_word (wordy_name h) hq
 ·exact scanTo_expr h hq
 ·exact scanTo_expr h hq
 ·exact scanTo_num (by omega) (by omega) hq
theorem scanTo_sep (w:List UInt8) (n:Nat) (q:List UInt8):ScanTo (sepS w n) (sepT n) q:=by
 unfold sepS sepT
 by_cases h0:n=0
 ·rw [if_pos h0,if_pos h0]
  split
  ·exact scanTo_nil q
  ·exact scanTo_bl q
 ·rw [if_neg h0,if_neg h0]
  by_cases h1:n=1
  ·rw [if_pos h1,if_pos h1]
   exact ScanTo.app (s:=[32]) (T:=[]) (scanTo_bl _) (ScanTo.app (s:=[61]) (t:=[32]) (U:=[]) (scanTo_is _) (scanTo_bl _))
  ·rw [if_neg h1,if_neg h1]
   exact ScanTo.app (s:=[44]) (t:=[32]) (U:=[]) (scanTo_comma _) (scanTo_bl _)
theorem fol_pie (w:List UInt8) (x:St) (cs:List UInt8) (n:Nat) (hn:n≠0) {q:List UInt8} (hq:Fol q):Fol (pieS w x cs n++q):=by
 cases cs with
 | nil=>exact hq
 | cons c r =>
   unfold pieS sepS
   rw [if_neg hn]
   split <;> exact fun c r h=>by cases h;rfl
theorem scanTo_pie (w : List UInt8) (x : St) : ∀ (cs : List UInt8) (n : Nat) {q : List UInt8}, (∀ c ∈ cs, PartOk x c) → Fol q → ScanTo (pieS w x cs n) (pieT x cs n) q
  | [], n, q, _, hq => scanTo_nil q
  | c :: r, n, q, h, hq => by
    unfold pieS pieT
    refine ScanTo.app (scanTo_sep w n _) (ScanTo.app (scanTo_part (h c (by simp)) ?_) (scanTo_pie w x r (n + 1) (fun c hc => h c (by simp [hc])) hq))
    exact fol_pie w x r (n + 1) (by omega) hq
theorem word_one:wordS 1 = []:=rfl
theorem scanTo_line {x:St} {q:List UInt8} (h:Fits x) (hq:Fol q):ScanTo (lineS x) (lineT x) q:=by
 have h0:=h.k0
 have h1:=h.k1
 unfold lineS lineT
 refine ScanTo.app ?_ (scanTo_pie _ x _ 0 (fun c hc=>fits_part h c hc) hq)
 by_cases hk:x.kind=1
 ·rw [if_pos hk,show x.kind.toNat=1 by omega,word_one]
  exact scanTo_nil _
 ·rw [if_neg hk]
  refine scanTo_word (wordy_kept _ (by omega) (by omega)).1 ?_
  cases hl:lettS x.kind.toNat with
  | nil=>exact hq
  | cons c r =>
    have hw:wordS x.kind.toNat≠[]:=fun e=>by
     obtain ⟨⟨c,r,e2,_⟩,_⟩:=wordy_kept x.kind.toNat (by omega) (by omega)
     rw [e] at e2;cases e2
    unfold pieS sepS
    rw [if_pos rfl,if_neg hw]
    exact fun c r h=>by cases h;rfl
theorem scanTo_tOpen (q:List UInt8):ScanTo tOpen [(3,[123],0)] q:=ScanTo.app (s:=[32]) (T:=[]) (scanTo_bl _) (ScanTo.app (s:=[123]) (t:=[10]) (U:=[]) (scanTo_open _) (scanTo_nl _))
theorem scanTo_tShut (q:List UInt8):ScanTo tShut [(3,[125],0)] q:=ScanTo.app (s:=[125]) (t:=[10]) (U:=[]) (scanTo_shut _) (scanTo_nl _)
theorem scanTo_tEnd (q:List UInt8):ScanTo tEnd [(3,[59],0)] q:=ScanTo.app (s:=[59]) (t:=[10]) (U:=[]) (scanTo_semi _) (scanTo_nl _)
theorem scanTo_tElse (q:List UInt8):ScanTo tElse [(3,[125],0),(1,wElse,0),(3,[123],0)] q :=
 ScanTo.app (s:=[125]) (T:=[(3,[125],0)]) (scanTo_shut _) (ScanTo.app (s:=[32]) (T:=[]) (scanTo_bl _) (ScanTo.app (s:=wElse) (t:=[32,123,10]) (U:=[(3,[123],0)]) (scanTo_word wordy_else (fol_blank _)) (scanTo_tOpen _)))
def bareS (x:St):St:=⟨x.kind,x.reg,x.name,x.e.map bareN,x.f.map bareN,x.n,x.body,x.els,0⟩
def setS (cs:List UInt8) (x y:St):St:=⟨y.kind,if 114∈cs then x.reg else y.reg,if 110∈cs then x.name else y.name,if 101∈cs then x.e.map bareN else y.e.map bareN,if 102∈cs then x.f.map bareN else y.f.map bareN,if 107∈cs then x.n else y.n,y.body,y.els,0⟩
theorem exprR_read {tks:List Tok} {i:Nat} {l:List Nod} (h:rightE l=true) (ha:AtT tks i (toksN l)) (hf:Free tks (i+(toksN l).length)):∃ y,exprR tks i = .inl (y,i+(toksN l).length)∧y.map bareN=l.map bareN:=by
 obtain ⟨e,ho,hl,ht,h40,hm,hd⟩:=rightE_some h
 have e2:toksN l=e.toks:=by unfold toksN;rw [ht]
 rw [e2] at ha hf ⊢
 obtain ⟨e',h1,h2⟩:=read_whole tks e 12 ho (by rw [hl] at hm;exact hm) (by omega) i ha hf
 have hd':e'.deep=e.deep:=by rw [← e'.bare_deep,h2,e.bare_deep]
 have hl':e'.flat.length=e.flat.length:=by rw [← e'.bare_len,h2,e.bare_len]
 refine ⟨e'.flat,?_,by rw [← Ex.bare_flat,h2,Ex.bare_flat,hl]⟩
 have hP:parE tks i=(e'.flat,((i+e.toks.length:Nat):Int),0,0):=by
  unfold parE
  rw [if_neg (by omega),Int.toNat_natCast,h1]
  simp only
  rw [if_neg (by omega),if_neg (by rw [hl',← hl];omega)]
 unfold exprR
 rw [hP]
 simp only [if_pos,Int.toNat_natCast]
theorem part_read {tks:List Tok} {i:Nat} {x y:St} {c:UInt8} (h:PartOk x c) (ha:AtT tks i (partT x c)) (hf:Free tks (i+(partT x c).length)):∃ z,partR tks c y i = .inl (z,i+(partT x c).length)∧bareS z=setS [c] x y:=by
 rcases h with ⟨rfl,h⟩ | ⟨rfl,h⟩ | ⟨rfl,h⟩ | ⟨rfl,h⟩ | ⟨rfl,h⟩
 ·have ha:AtT tks i ((1,x.reg,0) :: []):=ha
  obtain ⟨h1,h2,h3,h4⟩:=ha.head
  refine ⟨{ y with reg:=x.reg },?_,rfl⟩
  unfold partR nameR
  rw [if_pos rfl,if_pos ⟨h1,h2,by rw [h3];exact h⟩,h3]
  rfl
 ·have ha:AtT tks i ((1,x.name,0) :: []):=ha
  obtain ⟨h1,h2,h3,h4⟩:=ha.head
  refine ⟨{ y with name:=x.name },?_,rfl⟩
  unfold partR nameR
  rw [if_neg (by decide),if_pos rfl,if_pos ⟨h1,h2,by rw [h3];exact h⟩,h3]
  rfl
 ·have ha:AtT tks i (toksN x.e):=ha
  obtain ⟨z,h1,h2⟩:=exprR_read h ha hf
  refine ⟨{ y with e:=z },?_,?_⟩
  ·unfold partR
   rw [if_neg (by decide),if_neg (by decide),if_pos rfl,h1]
   rfl
  ·show (⟨_,_,_,z.map bareN,_,_,_,_,_⟩:St)=_
   rw [h2];rfl
 ·have ha:AtT tks i (toksN x.f):=ha
  obtain ⟨z,h1,h2⟩:=exprR_read h ha hf
  refine ⟨{ y with f:=z },?_,?_⟩
  ·unfold partR
   rw [if_neg (by decide),if_neg (by decide),if_neg (by decide),if_pos rfl,h1]
   rfl
  ·show (⟨_,_,_,_,z.map bareN,_,_,_,_⟩:St)=_
   rw [h2];rfl
 ·have ha:AtT tks i ((2,Lib.itoa x.n,x.n) :: []):=ha
  obtain ⟨h1,h2,h3,h4⟩:=ha.head
  refine ⟨{ y with n:=x.n },?_,rfl⟩
  unfold partR roundsR
  rw [if_neg (by decide),if_neg (by decide),if_neg (by decide),if_neg (by decide),if_pos ⟨h1,h2⟩,h4,if_pos (by exact h)]
  rfl
theorem setS_cons (c:UInt8) (cs:List UInt8) (x y z:St) (h:bareS z=setS [c] x y):setS (c :: cs) x y=setS cs x z:=by
 unfold bareS setS at h
 injection h with h1 h2 h3 h4 h5 h6 h7 h8 h9
 unfold setS
 simp only [List.mem_cons,List.not_mem_nil,or_false] at h2 h3 h4 h5 h6
 simp only [List.mem_cons]
 have ee:∀ {α:Type} (d:UInt8) (a b q:α),(q=if d=c then a else b)→(if d=c∨d∈cs then a else b)=(if d∈cs then a else q):=by
  intro α d a b q hq
  subst hq
  by_cases e1:d=c
  ·simp [e1]
  ·simp [e1]
 rw [ee 114 x.reg y.reg _ h2,ee 110 x.name y.name _ h3,ee 101 _ _ _ h4,ee 102 _ _ _ h5,ee 107 x.n y.n _ h6,← h1,← h7,← h8]
theorem sep_read {tks:List Tok} {i n:Nat} {U:List T3} (ha:AtT tks i (sepT n++U)):aheadR tks n i = .inl ((),i+(sepT n).length):=by
 unfold aheadR
 unfold sepT at ha ⊢
 by_cases h0:n=0
 ·rw [if_pos h0,if_pos h0];rfl
 ·rw [if_neg h0] at ha ⊢
  rw [if_neg h0]
  unfold signR
  by_cases h1:n=1
  ·rw [if_pos h1] at ha ⊢
   rw [if_pos h1,if_pos (isE_yes ha)]
   rfl
  ·rw [if_neg h1] at ha ⊢
   rw [if_neg h1,if_pos (isE_yes ha)]
   rfl
theorem free_sign {tks:List Tok} {i:Nat} {s:List UInt8} {U:List T3} (h:AtT tks i ((3,s,0) :: U)) (hs:∀ n,n < 5→∀ op∈opsOf n,sg op≠s):Free tks i:=fun n hn=>by
 by_cases h0:opAt n tks i=0
 ·exact h0
 ·obtain ⟨h1,h2⟩:=opAt_some h0
  rw [isE_no h (fun e=>hs n hn _ h1 e.symm)] at h2
  cases h2
theorem sg_no:∀ s∈([[59],[44],[123],[61]]:List (List UInt8)),∀ n,n < 5→∀ op∈opsOf n,sg op≠s:=by decide
theorem pie_read {tks : List Tok} {x : St} {U : List T3} (hU : ∀ j, AtT tks j U → Free tks j) : ∀ (cs : List UInt8) (n i : Nat) (y : St), (∀ c ∈ cs, PartOk x c) → AtT tks i (pieT x cs n ++ U) → ∃ z, partsR tks cs n y i = .inl (z, i + (pieT x cs n).length) ∧ bareS z = setS cs x y
  | [], n, i, y, _, _ => ⟨y, rfl, by unfold setS bareS; simp⟩
  | c :: r, n, i, y, h, ha => by
    have ha1 : AtT tks i (sepT n ++ (partT x c ++ (pieT x r (n + 1) ++ U))) := by
      have e : pieT x (c :: r) n ++ U = sepT n ++ (partT x c ++ (pieT x r (n + 1) ++ U)) := by
        rw [pieT]; simp
      rw [← e]; exact ha
    have hs := sep_read ha1
    have ha2 := ha1.right
    have ha3 := ha2.right
    have hfree : Free tks (i + (sepT n).length + (partT x c).length) := by
      cases r with
      | nil => exact hU _ ha3
      | cons d r2 =>
        have ha4 : AtT tks (i + (sepT n).length + (partT x c).length) (sepT (n + 1) ++ (partT x d ++ (pieT x r2 (n + 1 + 1) ++ U))) := by
          have e : pieT x (d :: r2) (n + 1) ++ U = sepT (n + 1) ++ (partT x d ++ (pieT x r2 (n + 1 + 1) ++ U)) := by
            rw [pieT]; simp
          rw [← e]; exact ha3
        generalize i + (sepT n).length + (partT x c).length = j at ha4
        unfold sepT at ha4
        rw [if_neg (Nat.succ_ne_zero n)] at ha4
        by_cases h1 : n + 1 = 1
        · rw [if_pos h1] at ha4
          exact free_sign (s := [61]) ha4 (sg_no _ (by decide))
        · rw [if_neg h1] at ha4
          exact free_sign (s := [44]) ha4 (sg_no _ (by decide))
    obtain ⟨z, h1, h2⟩ := part_read (y := y) (h c (by simp)) ha2.left hfree
    obtain ⟨z2, h3, h4⟩ := pie_read hU r (n + 1) _ z (fun c hc => h c (by simp [hc])) ha3
    refine ⟨z2, ?_, by rw [h4, setS_cons c r x y z h2]⟩
    unfold partsR
    rw [hs]
    simp only
    rw [h1]
    simp only
    rw [h3, pieT]
    simp only [List.length_append, Nat.add_assoc]
theorem set_fits {x:St} (h:Fits x) (p:Int):setS (lettS x.kind.toNat) x { zeroS with kind:=x.kind,pos:=p } = { bareS x with body:=0,els:=0 }:=by
 have h1:=h.k1
 have hh:∀ c,c≠98→c ∉ lettS x.kind.toNat→hasC x c=false:=fun c h98 hc=>by
  cases hb:hasC x c with
  | false=>rfl
  | true=>exact absurd (lett_has _ (by omega) c ((hasC_iff x c).1 hb) h98) hc
 have e1:(if 114∈lettS x.kind.toNat then x.reg else [])=x.reg:=by
  split
  ·rfl
  ·rename_i hc
   have:=h.r
   rw [if_neg (by rw [hh 114 (by decide) hc];decide)] at this
   exact this.symm
 have e2:(if 110∈lettS x.kind.toNat then x.name else [])=x.name:=by
  split
  ·rfl
  ·rename_i hc
   have:=h.nm
   rw [if_neg (by rw [hh 110 (by decide) hc];decide)] at this
   exact this.symm
 have e3:(if 101∈lettS x.kind.toNat then x.e.map bareN else [])=x.e.map bareN:=by
  split
  ·rfl
  ·rename_i hc
   have:=h.e
   rw [if_neg (by rw [hh 101 (by decide) hc];decide)] at this
   rw [this];rfl
 have e4:(if 102∈lettS x.kind.toNat then x.f.map bareN else [])=x.f.map bareN:=by
  split
  ·rfl
  ·rename_i hc
   have:=h.f
   rw [if_neg (by rw [hh 102 (by decide) hc];decide)] at this
   rw [this];rfl
 have e5:(if 107∈lettS x.kind.toNat then x.n else 0)=x.n:=by
  split
  ·rfl
  ·rename_i hc
   have:=h.t
   rw [if_neg (by rw [hh 107 (by decide) hc];decide)] at this
   exact this.symm
 show (⟨_,_,_,_,_,_,_,_,_⟩:St)=⟨_,_,_,_,_,_,_,_,_⟩
 congr 1
theorem word_else:∀ k,k≤14→wordS k≠wElse:=by decide
theorem line_read {tks:List Tok} {x:St} {i:Nat} {U:List T3} (h:Fits x) (hU:∀ j,AtT tks j U→Free tks j) (ha:AtT tks i (lineT x++U)) :
 kindAt tks i=x.kind.toNat∧isE tks i [125] = false∧isE tks i wElse=false∧∀ p,∃ y,partsR tks (lettS x.kind.toNat) 0 { zeroS with kind:=(x.kind.toNat:Nat),pos:=p } (if x.kind.toNat=1 then i else i+1) = .inl (y,i+(lineT x).length)∧bareS y = { bareS x with body:=0,els:=0 }:=by
 have h0:=h.k0
 have h1:=h.k1
 have hkn:((x.kind.toNat:Nat):Int)=x.kind:=by omega
 have hpt:=fun c hc=>fits_part h c hc
 have hsf:=set_fits h
 by_cases hk:x.kind=1
 ·have hk1:x.kind.toNat=1:=by omega
  have hl:lettS x.kind.toNat = [114,101]:=by rw [hk1];rfl
  have e:lineT x=pieT x [114,101] 0:=by unfold lineT;rw [if_pos hk,hl];rfl
  rw [hl] at hpt hsf
  rw [hl,if_pos hk1,e,hkn]
  rw [e] at ha
  have hr:nameE x.reg=true:=by
   rcases hpt 114 (by simp) with ⟨_,g⟩ | ⟨g,_⟩ | ⟨g,_⟩ | ⟨g,_⟩ | ⟨g,_⟩
   ·exact g
   ·exact absurd g (by decide)
   ·exact absurd g (by decide)
   ·exact absurd g (by decide)
   ·exact absurd g (by decide)
  have hat:AtT tks i ((1,x.reg,0) :: (pieT x [101] 1++U)):=ha
  refine ⟨?_,isE_no hat (fun e=>?_),isE_no hat (fun e=>?_),fun p=>?_⟩
  ·rw [hk1]
   unfold kindAt
   rw [List.find?_eq_none.2 (fun k hk=>?_)]
   ·rfl
   ·rw [List.mem_range'_1] at hk
    rw [isE_no hat (fun e=>?_)]
    ·decide
    ·have e:x.reg=wordS k:=e
     have:=(wordy_kept k (by omega) (by omega)).2
     rw [← e,hr] at this
     cases this
  ·have e:x.reg = [125]:=e
   rw [e] at hr
   exact absurd hr (by decide)
  ·have e:x.reg=wElse:=e
   rw [e] at hr
   exact absurd hr (by decide)
  ·obtain ⟨y,g1,g2⟩:=pie_read hU [114,101] 0 i { zeroS with kind:=x.kind,pos:=p } hpt ha
   exact ⟨y,g1,g2.trans (hsf p)⟩
 ·have hk2:2≤x.kind.toNat:=by omega
  obtain ⟨hw,hn⟩:=wordy_kept x.kind.toNat hk2 (by omega)
  have e:lineT x=(1,wordS x.kind.toNat,0) :: pieT x (lettS x.kind.toNat) 0:=by unfold lineT;rw [if_neg hk];rfl
  rw [if_neg (by omega),e,hkn]
  rw [e] at ha
  have hat:AtT tks i ((1,wordS x.kind.toNat,0) :: (pieT x (lettS x.kind.toNat) 0++U)):=ha
  obtain ⟨b1,b2,b3,b4⟩:=hat.head
  refine ⟨kindAt_of hk2 (by omega) ?_,isE_no hat (fun e=>?_),isE_no hat (fun e=>word_else x.kind.toNat (by omega) e),fun p=>?_⟩
  ·rw [isE_tk b1,b2,b3];simp
  ·have e:wordS x.kind.toNat = [125]:=e
   obtain ⟨c,r,e2,hc,_⟩:=hw
   rw [e] at e2
   cases e2
   exact absurd hc (by decide)
  ·obtain ⟨y,g1,g2⟩:=pie_read hU (lettS x.kind.toNat) 0 (i+1) { zeroS with kind:=x.kind,pos:=p } hpt hat.tail
   refine ⟨y,?_,g2.trans (hsf p)⟩
   rw [g1,List.length_cons,show i+1+(pieT x (lettS x.kind.toNat) 0).length=i+((pieT x (lettS x.kind.toNat) 0).length+1) by omega]
theorem sts_step {tks:List Tok} {d:Nat} {b:Bool} {i j k:Nat} {x y:List St} (h0:isE tks i [125] = false) (h1:oneR (blkR tks d) b tks i = .inl (x,j)) (h2:stsR (oneR (blkR tks d) b tks) tks (tks.length+1 - j) j = .inl (y,k)) (hi:i < tks.length) :
 stsR (oneR (blkR tks d) b tks) tks (tks.length+1 - i) i = .inl (x++y,k):=by
 have ho:=oneR_good (fun b=>blkR_good tks d b) b
 have g:=ho _ _ _ h1
 obtain ⟨f,hf⟩:∃ f,tks.length+1 - i=f+1:=⟨tks.length - i,by omega⟩
 rw [hf]
 unfold stsR
 rw [if_neg (by rw [h0];decide),h1]
 simp only
 rw [stsR_fuel ho f (tks.length+1 - j) j g.2 (by omega) (by omega),h2]
theorem blk_read {tks:List Tok} {d:Nat} {b:Bool} {i k:Nat} {x:List St} (h0:isE tks i [123] = true) (h1:stsR (oneR (blkR tks d) b tks) tks (tks.length+1 - (i+1)) (i+1) = .inl (x,k)) (h2:isE tks k [125] = true):blkR tks (d+1) b i = .inl (x,k+1):=by
 unfold blkR signR
 rw [if_pos h0]
 simp only
 rw [h1]
 simp only
 rw [if_pos h2]
theorem isE_word {l:List Tok} {i:Nat} {s:List UInt8} {U:List T3} (h:AtT l i ((1,s,0) :: U)):isE l i s=true:=by
 obtain ⟨h1,h2,h3,h4⟩:=h.head
 rw [isE_tk h1,h2,h3];simp
theorem len_bare {x y:List St} (h:x.map bareS=y.map bareS):x.length=y.length:=by
 have:=congrArg List.length h
 simpa using this
theorem bare_body {x y:St} {n m:Int} (h:bareS y = { bareS x with body:=0,els:=0 }) (hn:n=x.body) (hm:m=x.els):bareS { y with body:=n,els:=m } = bareS x:=by
 unfold bareS at h ⊢
 injection h with h1 h2 h3 h4 h5 h6 h7 h8 h9
 simp only [h1,h2,h3,h4,h5,h6,hn,hm]
theorem bare_els {x y:St} (h:bareS y = { bareS x with body:=0,els:=0 }):y.els=0∧y.body=0:=by
 unfold bareS at h
 injection h with h1 h2 h3 h4 h5 h6 h7 h8 h9
 exact ⟨h8,h7⟩
theorem free_semi {tks:List Tok} {U:List T3}:∀ j,AtT tks j ((3,[59],0) :: U)→Free tks j:=fun j h=>free_sign h (sg_no _ (by decide))
theorem free_open {tks:List Tok} {U:List T3}:∀ j,AtT tks j ((3,[123],0) :: U)→Free tks j:=fun j h=>free_sign h (sg_no _ (by decide))
theorem fol_open (q:List UInt8):Fol (tOpen++q):=fun c r h=>by cases h;rfl
theorem fol_end (q:List UInt8):Fol (tEnd++q):=fun c r h=>by cases h;rfl
theorem blank_two {rt:List UInt8} (h:rt.all blankE=true):(rt++[32,32]).all blankE=true:=by
 rw [List.all_append,h];rfl
theorem rows_back {b:Bool} {l:List St} {D:Nat} (h:Rd b l D):(∀ x∈l,Fits x)→∃ T:List T3,(∀ rt,rt.all blankE=true→∃ t,Ln l rt t∧∀ q,ScanTo t T q) ∧
 (∀ (tks:List Tok) (d i:Nat) (U:List T3),D≤d→AtT tks i (T++((3,[125],0) :: U))→∃ l',stsR (oneR (blkR tks d) b tks) tks (tks.length+1 - i) i = .inl (l',i+T.length)∧l'.map bareS=l.map bareS) ∧
 (∀ (tks:List Tok) (i:Nat) (U:List T3),AtT tks i (T++((3,[125],0) :: U))→isE tks i wElse=false):=by
 induction h with
 | nil=>exact fun _=>⟨[],fun rt _=>⟨[],.nil,fun q=>scanTo_nil q⟩,fun tks d i U _ ha=>⟨[],sts_end (isE_yes ha),rfl⟩,fun tks i U ha=>isE_no ha (by decide)⟩
 | @leaf b x r D h11 h12 hb he h13 hr ih =>
   intro hf
   obtain ⟨T,hT1,hT2,hT3⟩:=ih (fun y hy=>hf y (by simp [hy]))
   have hx:=hf x (by simp)
   have k0:=hx.k0
   have k1:=hx.k1
   refine ⟨lineT x++((3,[59],0) :: T),fun rt hrt=>?_,fun tks d i U hd ha=>?_,fun tks i U ha=>(line_read hx free_semi (by simpa using ha)).2.2.1⟩
   ·obtain ⟨t,ht1,ht2⟩:=hT1 rt hrt
    refine ⟨_,.leaf h11 h12 ht1,fun q=>?_⟩
    rw [List.append_assoc,List.append_assoc]
    exact ScanTo.app (T:=[]) (scanTo_blanks rt _ hrt) (ScanTo.app (scanTo_line hx (by rw [List.append_assoc];exact fol_end _)) (ScanTo.app (T:=[(3,[59],0)]) (scanTo_tEnd _) (ht2 q)))
   ·have ha1:AtT tks i (lineT x++((3,[59],0) :: (T++((3,[125],0) :: U)))):=by simpa using ha
    obtain ⟨c1,c2,_,c3⟩:=line_read hx free_semi ha1
    obtain ⟨y,c4,c5⟩:=c3 (posAt tks i)
    have ha2:=ha1.right
    obtain ⟨l',c6,c7⟩:=hT2 tks d _ U hd ha2.tail
    have h1:oneR (blkR tks d) b tks i = .inl ([y],i+(lineT x).length+1):=by
     unfold oneR
     rw [c1,if_neg (fun g=>by have:=h13 (by omega);rw [this] at g;exact absurd g.2 (by decide)),c4]
     simp only
     rw [if_neg (by omega),if_neg (by omega)]
     unfold signR
     rw [if_pos (isE_yes ha2)]
    have hlt:=ha1.le
    refine ⟨y :: l',?_,?_⟩
    ·rw [sts_step c2 h1 c6 (by simp only [List.length_append,List.length_cons] at hlt;omega)]
     simp only [List.length_append,List.length_cons,List.singleton_append]
     rw [show i+(lineT x).length+1+T.length=i+((lineT x).length+(T.length+1)) by omega]
    ·have hy:bareS y=bareS x:=by
      have:=bare_body (n:=y.body) (m:=y.els) c5 ((bare_els c5).2.trans hb.symm) ((bare_els c5).1.trans he.symm)
      exact this
     rw [List.map_cons,List.map_cons,hy,c7]
 | @ifs b x y z r d1 d2 D h11 hb he hy hz hr i1 i2 i3 =>
   intro hf
   obtain ⟨T1,hA1,hA2,hA3⟩:=i1 (fun y hy=>hf y (by simp [hy]))
   obtain ⟨T2,hB1,hB2,hB3⟩:=i2 (fun y hy=>hf y (by simp [hy]))
   obtain ⟨T3,hC1,hC2,hC3⟩:=i3 (fun y hy=>hf y (by simp [hy]))
   have hx:=hf x (by simp)
   by_cases hz0:0 < z.length
   ·refine ⟨lineT x++((3,[123],0) :: (T1++((3,[125],0) :: (1,wElse,0) :: (3,[123],0) :: (T2++((3,[125],0) :: T3))))),fun rt hrt=>?_,fun tks d i U hd ha=>?_,fun tks i U ha=>(line_read hx free_open (by simpa using ha)).2.2.1⟩
    ·obtain ⟨u,hu1,hu2⟩:=hA1 _ (blank_two hrt)
     obtain ⟨v,hv1,hv2⟩:=hB1 _ (blank_two hrt)
     obtain ⟨t,ht1,ht2⟩:=hC1 rt hrt
     refine ⟨_,.two h11 hb he hz0 hu1 hv1 ht1,fun q=>?_⟩
     simp only [List.append_assoc]
     refine ScanTo.app (T:=[]) (scanTo_blanks rt _ hrt) (ScanTo.app (scanTo_line hx (by rw [List.append_assoc];exact fol_open _)) (ScanTo.app (T:=[(3,[123],0)]) (scanTo_tOpen _) (ScanTo.app (hu2 _) (ScanTo.app (T:=[]) (scanTo_blanks rt _ hrt) (ScanTo.app (T:=[(3,[125],0),(1,wElse,0),(3,[123],0)]) (scanTo_tElse _) (ScanTo.app (hv2 _) (ScanTo.app (T:=[]) (scanTo_blanks rt _ hrt) (ScanTo.app (T:=[(3,[125],0)]) (scanTo_tShut _) (ht2 q)))))))))
    ·have ha1:AtT tks i (lineT x++((3,[123],0) :: (T1++((3,[125],0) :: (1,wElse,0) :: (3,[123],0) :: (T2++((3,[125],0) :: (T3++((3,[125],0) :: U)))))))):=by simpa using ha
     obtain ⟨d',rfl⟩:∃ d',d=d' + 1:=⟨d - 1,by omega⟩
     obtain ⟨c1,c2,_,c3⟩:=line_read hx free_open ha1
     obtain ⟨s,c4,c5⟩:=c3 (posAt tks i)
     have ha2:=ha1.right
     have ha3:=ha2.tail
     obtain ⟨l1,a1,a2⟩:=hA2 tks d' _ _ (by omega) ha3
     have ha4:=ha3.right
     have hblk1:=blk_read (isE_yes ha2) a1 (isE_yes ha4)
     have ha5:=ha4.tail
     have ha6:=ha5.tail
     have ha7:=ha6.tail
     obtain ⟨l2,b1,b2⟩:=hB2 tks d' _ _ (by omega) ha7
     have ha8:=ha7.right
     have hblk2:=blk_read (isE_yes ha6) b1 (isE_yes ha8)
     have ha9:=ha8.tail
     obtain ⟨l3,e1,e2⟩:=hC2 tks (d' + 1) _ _ (by omega) ha9
     have h1:oneR (blkR tks (d' + 1)) b tks i = .inl ({ s with body:=l1.length,els:=l2.length } :: (l1++l2),i+(lineT x).length+1+T1.length+1+1+1+T2.length+1):=by
      unfold oneR
      rw [c1,if_neg (by omega),c4]
      simp only
      rw [if_pos (by omega),hblk1]
      simp only
      rw [if_pos (isE_word ha5),hblk2]
     have hlt:=ha1.le
     refine ⟨{ s with body:=l1.length,els:=l2.length } :: (l1++l2)++l3,?_,?_⟩
     ·rw [sts_step c2 h1 e1 (by simp only [List.length_append,List.length_cons] at hlt;omega)]
      simp only [List.length_append,List.length_cons]
      rw [show i+(lineT x).length+1+T1.length+1+1+1+T2.length+1+T3.length=i+((lineT x).length+(T1.length+(T2.length+(T3.length+1)+1+1+1)+1)) by omega]
     ·have hs:bareS { s with body:=l1.length,els:=l2.length } = bareS x:=bare_body c5 (by rw [len_bare a2,hb]) (by rw [len_bare b2,he])
      simp only [List.cons_append,List.map_cons,List.map_append,hs,a2,b2,e2,List.append_assoc]
   ·obtain rfl:z = []:=List.eq_nil_of_length_eq_zero (by omega)
    refine ⟨lineT x++((3,[123],0) :: (T1++((3,[125],0) :: T3))),fun rt hrt=>?_,fun tks d i U hd ha=>?_,fun tks i U ha=>(line_read hx free_open (by simpa using ha)).2.2.1⟩
    ·obtain ⟨u,hu1,hu2⟩:=hA1 _ (blank_two hrt)
     obtain ⟨t,ht1,ht2⟩:=hC1 rt hrt
     refine ⟨_,.one (.inl h11) hb he hu1 ht1,fun q=>?_⟩
     simp only [List.append_assoc]
     refine ScanTo.app (T:=[]) (scanTo_blanks rt _ hrt) (ScanTo.app (scanTo_line hx (by rw [List.append_assoc];exact fol_open _)) (ScanTo.app (T:=[(3,[123],0)]) (scanTo_tOpen _) (ScanTo.app (hu2 _) (ScanTo.app (T:=[]) (scanTo_blanks rt _ hrt) (ScanTo.app (T:=[(3,[125],0)]) (scanTo_tShut _) (ht2 q))))))
    ·have ha1:AtT tks i (lineT x++((3,[123],0) :: (T1++((3,[125],0) :: (T3++((3,[125],0) :: U)))))):=by simpa using ha
     obtain ⟨d',rfl⟩:∃ d',d=d' + 1:=⟨d - 1,by omega⟩
     obtain ⟨c1,c2,_,c3⟩:=line_read hx free_open ha1
     obtain ⟨s,c4,c5⟩:=c3 (posAt tks i)
     have ha2:=ha1.right
     have ha3:=ha2.tail
     obtain ⟨l1,a1,a2⟩:=hA2 tks d' _ _ (by omega) ha3
     have ha4:=ha3.right
     have hblk1:=blk_read (isE_yes ha2) a1 (isE_yes ha4)
     have ha5:=ha4.tail
     obtain ⟨l3,e1,e2⟩:=hC2 tks (d' + 1) _ _ (by omega) ha5
     have hne:isE tks ((i+(lineT x).length+1+T1.length+1:Nat):Int) wElse=false:=by
      exact hC3 tks _ _ ha5
     have h1:oneR (blkR tks (d' + 1)) b tks i = .inl ({ s with body:=l1.length } :: l1,i+(lineT x).length+1+T1.length+1):=by
      unfold oneR
      rw [c1,if_neg (by omega),c4]
      simp only
      rw [if_pos (by omega),hblk1]
      simp only
      rw [if_neg (by rw [hne];decide)]
     have hlt:=ha1.le
     refine ⟨{ s with body:=l1.length } :: l1++l3,?_,?_⟩
     ·rw [sts_step c2 h1 e1 (by simp only [List.length_append,List.length_cons] at hlt;omega)]
      simp only [List.length_append,List.length_cons]
      rw [show i+(lineT x).length+1+T1.length+1+T3.length=i+((lineT x).length+(T1.length+(T3.length+1)+1)) by omega]
     ·have hs:bareS { s with body:=l1.length } = bareS x:=bare_body c5 (by rw [len_bare a2,hb]) ((bare_els c5).1.trans (by simpa using he.symm))
      simp only [List.cons_append,List.map_cons,List.map_append,hs,a2,e2,List.nil_append]
 | @loop b x y r d1 D h12 hb he hy hr i1 i2 =>
   intro hf
   obtain ⟨T1,hA1,hA2,hA3⟩:=i1 (fun y hy=>hf y (by simp [hy]))
   obtain ⟨T3,hC1,hC2,hC3⟩:=i2 (fun y hy=>hf y (by simp [hy]))
   have hx:=hf x (by simp)
   refine ⟨lineT x++((3,[123],0) :: (T1++((3,[125],0) :: T3))),fun rt hrt=>?_,fun tks d i U hd ha=>?_,fun tks i U ha=>(line_read hx free_open (by simpa using ha)).2.2.1⟩
   ·obtain ⟨u,hu1,hu2⟩:=hA1 _ (blank_two hrt)
    obtain ⟨t,ht1,ht2⟩:=hC1 rt hrt
    refine ⟨_,.one (.inr h12) hb he hu1 ht1,fun q=>?_⟩
    simp only [List.append_assoc]
    refine ScanTo.app (T:=[]) (scanTo_blanks rt _ hrt) (ScanTo.app (scanTo_line hx (by rw [List.append_assoc];exact fol_open _)) (ScanTo.app (T:=[(3,[123],0)]) (scanTo_tOpen _) (ScanTo.app (hu2 _) (ScanTo.app (T:=[]) (scanTo_blanks rt _ hrt) (ScanTo.app (T:=[(3,[125],0)]) (scanTo_tShut _) (ht2 q))))))
   ·have ha1:AtT tks i (lineT x++((3,[123],0) :: (T1++((3,[125],0) :: (T3++((3,[125],0) :: U)))))):=by simpa using ha
    obtain ⟨d',rfl⟩:∃ d',d=d' + 1:=⟨d - 1,by omega⟩
    obtain ⟨c1,c2,_,c3⟩:=line_read hx free_open ha1
    obtain ⟨s,c4,c5⟩:=c3 (posAt tks i)
    have ha2:=ha1.right
    have ha3:=ha2.tail
    obtain ⟨l1,a1,a2⟩:=hA2 tks d' _ _ (by omega) ha3
    have ha4:=ha3.right
    have hblk1:=blk_read (isE_yes ha2) a1 (isE_yes ha4)
    have ha5:=ha4.tail
    obtain ⟨l3,e1,e2⟩:=hC2 tks (d' + 1) _ _ (by omega) ha5
    have h1:oneR (blkR tks (d' + 1)) b tks i = .inl ({ s with body:=l1.length } :: l1,i+(lineT x).length+1+T1.length+1):=by
     unfold oneR
     rw [c1,if_neg (by omega),c4]
     simp only
     rw [if_neg (by omega),if_pos (by omega),hblk1]
    have hlt:=ha1.le
    refine ⟨{ s with body:=l1.length } :: l1++l3,?_,?_⟩
    ·rw [sts_step c2 h1 e1 (by simp only [List.length_append,List.length_cons] at hlt;omega)]
     simp only [List.length_append,List.length_cons]
     rw [show i+(lineT x).length+1+T1.length+1+T3.length=i+((lineT x).length+(T1.length+(T3.length+1)+1)) by omega]
    ·have hs:bareS { s with body:=l1.length } = bareS x:=bare_body c5 (by rw [len_bare a2,hb]) ((bare_els c5).1.trans he.symm)
     simp only [List.cons_append,List.map_cons,List.map_append,hs,a2,e2]
def BadIn {α:Type} (n:Nat) (f:Nat→RS α):Prop:=∀ i e p,f i = .inr (e,p)→¬ e=0∧0≤p∧p≤n
theorem badR_in {l:List Tok} {n:Nat} (h:∀ t∈l,TokIn n t) (hn:n≤4000) {i:Nat} {k e p:Int} (hk:1≤k) (hr:badR l i k=(e,p)):¬ e=0∧0≤p∧p≤n:=by
 have h1:=badR_bad l i k hk
 have h2:=placeE_bound h hn i
 rw [hr] at h1
 have e2:p=placeE l i:=by
  have:=congrArg Prod.snd hr
  exact this.symm
 simp only at h1
 rw [e2]
 exact ⟨by omega,h2.1,h2.2⟩
theorem signR_in {l:List Tok} {n:Nat} (h:∀ t∈l,TokIn n t) (hn:n≤4000) (s:List UInt8):BadIn n (signR l s):=fun i e p hr=>by
 unfold signR at hr
 split at hr
 ·cases hr
 ·injection hr with hr
  exact badR_in h hn (by decide) hr
theorem nameR_in {l:List Tok} {n:Nat} (h:∀ t∈l,TokIn n t) (hn:n≤4000):BadIn n (nameR l):=fun i e p hr=>by
 unfold nameR at hr
 split at hr
 ·cases hr
 ·injection hr with hr
  exact badR_in h hn (by decide) hr
theorem roundsR_in {l:List Tok} {n:Nat} (h:∀ t∈l,TokIn n t) (hn:n≤4000):BadIn n (roundsR l):=fun i e p hr=>by
 unfold roundsR at hr
 split at hr
 ·split at hr
  ·cases hr
  ·injection hr with hr
   exact badR_in h hn (by decide) hr
 ·injection hr with hr
  exact badR_in h hn (by decide) hr
theorem exprR_in {l : List Tok} {n : Nat} (h : ∀ t ∈ l, TokIn n t) (hn : n ≤ 4000) : BadIn n (exprR l) := fun i e p hr => by
  obtain ⟨h0, h1, h2⟩ := exprR_bad hr
  refine ⟨h0, ?_⟩
  rw [← h2]
  have hP : parE l i = match flR (prR l 12) l 5 i with
      | .inr (e, p) => ([], 0, e, p)
      | .inl (x, t) => if 12 < x.deep then ([], 0, 7, (tk l i).pos) else if 40 < x.flat.length then ([], 0, 2, (tk l i).pos) else (x.flat, (t : Int), 0, 0) := by
    unfold parE; rw [if_neg (by omega)]; rfl
  rw [hP]
  cases hf : flR (prR l 12) l 5 i with
  | inr q =>
    obtain ⟨a, c⟩ := q
    obtain ⟨j, rfl⟩ := (flR_fine h hn (prR_fine h hn 12) 5).2 _ _ _ hf
    exact placeE_bound h hn j
  | inl q =>
    obtain ⟨x, t⟩ := q
    have hg := (flR_fwd (prR_fwd l 12) 5).good _ _ _ hf
    have hp := pos_in h (show i < l.length by omega)
    simp only
    split
    · exact hp
    · split
      · exact hp
      · exact ⟨Int.le_refl _, Int.natCast_nonneg _⟩
theorem partR_in {l:List Tok} {n:Nat} (h:∀ t∈l,TokIn n t) (hn:n≤4000) (c:UInt8) (x:St):BadIn n (partR l c x):=fun i e p hr=>by
 unfold partR at hr
 split at hr
 ·cases hq:nameR l i with
  | inl q=>rw [hq] at hr;cases hr
  | inr q=>obtain ⟨a,c⟩:=q;rw [hq] at hr;cases hr;exact nameR_in h hn _ _ _ hq
 ·split at hr
  ·cases hq:nameR l i with
   | inl q=>rw [hq] at hr;cases hr
   | inr q=>obtain ⟨a,c⟩:=q;rw [hq] at hr;cases hr;exact nameR_in h hn _ _ _ hq
  ·split at hr
   ·cases hq:exprR l i with
    | inl q=>rw [hq] at hr;cases hr
    | inr q=>obtain ⟨a,c⟩:=q;rw [hq] at hr;cases hr;exact exprR_in h hn _ _ _ hq
   ·split at hr
    ·cases hq:exprR l i with
     | inl q=>rw [hq] at hr;cases hr
     | inr q=>obtain ⟨a,c⟩:=q;rw [hq] at hr;cases hr;exact exprR_in h hn _ _ _ hq
    ·cases hq:roundsR l i with
     | inl q=>rw [hq] at hr;cases hr
     | inr q=>obtain ⟨a,c⟩:=q;rw [hq] at hr;cases hr;exact roundsR_in h hn _ _ _ hq
theorem partsR_in {l : List Tok} {n : Nat} (h : ∀ t ∈ l, TokIn n t) (hn : n ≤ 4000) : ∀ (cs : List UInt8) (m : Nat) (x : St), BadIn n (partsR l cs m x)
  | [], m, x, i, e, p, hr => by unfold partsR at hr; cases hr
  | c :: r, m, x, i, e, p, hr => by
    unfold partsR at hr
    cases ha : aheadR l m i with
    | inr q =>
      obtain ⟨a, c⟩ := q
      rw [ha] at hr; cases hr
      unfold aheadR at ha
      split at ha
      · cases ha
      · exact signR_in h hn _ _ _ _ ha
    | inl q =>
      obtain ⟨u, k⟩ := q
      rw [ha] at hr
      simp only at hr
      cases hp : partR l c x k with
      | inr q2 => obtain ⟨a, c⟩ := q2; rw [hp] at hr; cases hr; exact partR_in h hn _ _ _ _ _ hp
      | inl q2 =>
        obtain ⟨z, k2⟩ := q2
        rw [hp] at hr
        simp only at hr
        exact partsR_in h hn r (m + 1) z k2 e p hr
theorem one_in {l:List Tok} {n:Nat} (h:∀ t∈l,TokIn n t) (hn:n≤4000) {blk:Bool→Nat→RS (List St)} (hb:∀ b,BadIn n (blk b)) (b:Bool):BadIn n (oneR blk b l):=fun i e p hr=>by
 unfold oneR at hr
 split at hr
 ·injection hr with hr
  exact badR_in h hn (by decide) hr
 ·cases hp:partsR l (lettS (kindAt l i)) 0 { zeroS with kind:=kindAt l i,pos:=posAt l i } (if kindAt l i=1 then i else i+1) with
  | inr q=>obtain ⟨a,c⟩:=q;rw [hp] at hr;cases hr;exact partsR_in h hn _ _ _ _ _ _ hp
  | inl q =>
    obtain ⟨y,k⟩:=q
    rw [hp] at hr
    simp only at hr
    split at hr
    ·cases h1:blk b k with
     | inr q1=>obtain ⟨a,c⟩:=q1;rw [h1] at hr;cases hr;exact hb _ _ _ _ h1
     | inl q1 =>
       obtain ⟨y1,k1⟩:=q1
       rw [h1] at hr
       simp only at hr
       split at hr
       ·cases h2:blk b (k1+1) with
        | inr q2=>obtain ⟨a,c⟩:=q2;rw [h2] at hr;cases hr;exact hb _ _ _ _ h2
        | inl q2=>obtain ⟨y2,k2⟩:=q2;rw [h2] at hr;cases hr
       ·cases hr
    ·split at hr
     ·cases h1:blk true k with
      | inr q1=>obtain ⟨a,c⟩:=q1;rw [h1] at hr;cases hr;exact hb _ _ _ _ h1
      | inl q1=>obtain ⟨y1,k1⟩:=q1;rw [h1] at hr;cases hr
     ·cases h1:signR l [59] k with
      | inr q1=>obtain ⟨a,c⟩:=q1;rw [h1] at hr;cases hr;exact signR_in h hn _ _ _ _ h1
      | inl q1=>obtain ⟨y1,k1⟩:=q1;rw [h1] at hr;cases hr
theorem sts_in {l : List Tok} {n : Nat} {one : Nat → RS (List St)} (ho : BadIn n one) : ∀ g, BadIn n (stsR one l g)
  | 0, i, e, p, hr => by unfold stsR at hr; cases hr
  | g + 1, i, e, p, hr => by
    unfold stsR at hr
    split at hr
    · cases hr
    · cases h1 : one i with
      | inr q => obtain ⟨a, c⟩ := q; rw [h1] at hr; cases hr; exact ho _ _ _ h1
      | inl q =>
        obtain ⟨y, k⟩ := q
        rw [h1] at hr
        simp only at hr
        cases h2 : stsR one l g k with
        | inr q2 => obtain ⟨a, c⟩ := q2; rw [h2] at hr; cases hr; exact sts_in ho g _ _ _ h2
        | inl q2 => obtain ⟨z, k2⟩ := q2; rw [h2] at hr; cases hr
theorem blk_in {l : List Tok} {n : Nat} (h : ∀ t ∈ l, TokIn n t) (hn : n ≤ 4000) : ∀ d b, BadIn n (blkR l d b)
  | 0, b, i, e, p, hr => by
    unfold blkR at hr
    split at hr
    · injection hr with hr
      have := placeE_bound h hn i
      injection hr with h1 h2
      subst h1 h2
      exact ⟨by decide, this.1, this.2⟩
    · injection hr with hr
      exact badR_in h hn (by decide) hr
  | d + 1, b, i, e, p, hr => by
    unfold blkR at hr
    cases h1 : signR l [123] i with
    | inr q => obtain ⟨a, c⟩ := q; rw [h1] at hr; cases hr; exact signR_in h hn _ _ _ _ h1
    | inl q =>
      obtain ⟨u, k⟩ := q
      rw [h1] at hr
      simp only at hr
      cases h2 : stsR (oneR (blkR l d) b l) l (l.length + 1 - k) k with
      | inr q2 => obtain ⟨a, c⟩ := q2; rw [h2] at hr; cases hr; exact sts_in (one_in h hn (fun b => blk_in h hn d b) b) _ _ _ _ h2
      | inl q2 =>
        obtain ⟨z, k2⟩ := q2
        rw [h2] at hr
        simp only at hr
        cases h3 : signR l [125] k2 with
        | inr q3 => obtain ⟨a, c⟩ := q3; rw [h3] at hr; cases hr; exact signR_in h hn _ _ _ _ h3
        | inl q3 => obtain ⟨u3, k3⟩ := q3; rw [h3] at hr; cases hr
theorem blk_two {l:List Tok} {d:Nat} {b:Bool} {i j:Nat} {x:List St} (hr:blkR l d b i = .inl (x,j)):i+2≤j:=by
 cases d with
 | zero =>
   unfold blkR at hr
   split at hr <;> cases hr
 | succ d =>
   unfold blkR at hr
   cases h1:signR l [123] i with
   | inr e=>rw [h1] at hr;cases hr
   | inl q =>
     obtain ⟨u,k⟩:=q
     rw [h1] at hr
     simp only at hr
     obtain ⟨_,rfl,_⟩:=signR_good h1
     cases h2:stsR (oneR (blkR l d) b l) l (l.length+1 - (i+1)) (i+1) with
     | inr e=>rw [h2] at hr;cases hr
     | inl q2 =>
       obtain ⟨z,k2⟩:=q2
       rw [h2] at hr
       simp only at hr
       have g2:=stsR_good (oneR_good (fun b=>blkR_good l d b) b) _ _ _ _ h2
       cases h3:signR l [125] k2 with
       | inr e=>rw [h3] at hr;cases hr
       | inl q3 =>
         obtain ⟨u3,k3⟩:=q3
         rw [h3] at hr
         cases hr
         obtain ⟨_,rfl,_⟩:=signR_good h3
         omega
theorem parS_fine {l:List Tok} {n:Nat} (h:∀ t∈l,TokIn n t) (hn:n≤4000) :
 (∃ (x:List St) (t:Nat),parS l 0=(x,(t:Int),0,0)∧rightS x=true∧2≤t∧t≤l.length)∨(∃ e p:Int,parS l 0=([],0,e,p)∧¬ e=0∧0≤p∧p≤n):=by
 have h4:∀ t∈l,TokIn 4000 t:=fun t ht=>(h t ht).mono hn
 unfold parS
 rw [if_neg (by omega),show (0:Int).toNat=0 from rfl]
 cases hb:blkR l 13 false 0 with
 | inr q =>
   obtain ⟨e,p⟩:=q
   obtain ⟨h1,h2,h3⟩:=blk_in h hn 13 false _ _ _ hb
   exact .inr ⟨e,p,rfl,h1,h2,h3⟩
 | inl q =>
   obtain ⟨x,t⟩:=q
   have g:=blkR_good l 13 false _ _ _ hb
   have g2:=blk_two hb
   simp only
   by_cases h40:40 < x.length
   ·rw [if_pos h40]
    have hp:=pos_in h (show 0 < l.length by omega)
    exact .inr ⟨2,_,rfl,by decide,hp.1,hp.2⟩
   ·rw [if_neg h40]
    obtain ⟨f,D,hD,r⟩:=blk_right h4 13 _ _ _ _ hb
    exact .inl ⟨x,t,rfl,(rightS_iff _).2 ⟨by omega,f,D,by omega,r⟩,by omega,g.2⟩
theorem sameSt_bare {x y:St} (h:bareS x=bareS y):sameSt false x y=true:=by
 unfold bareS at h
 injection h with h1 h2 h3 h4 h5 h6 h7 h8 h9
 unfold sameSt
 rw [h1,h2,h3,h6,h7,h8,sameE_bare _ _ h4,sameE_bare _ _ h5]
 simp
theorem sameS_bare:∀ {l m:List St},l.map bareS=m.map bareS→sameS false l m=true
 | [],[],_=>rfl
 | x :: l,[],h=>by cases h
 | [],y :: m,h=>by cases h
 | x :: l,y :: m,h=>by
   rw [List.map_cons,List.map_cons] at h
   injection h with h1 h2
   unfold sameS
   rw [sameSt_bare h1,sameS_bare h2];rfl
theorem shown_scan {l:List St} (hl:rightS l=true):∃ T:List T3,(∀ q,ScanTo (showS l) T q)∧(∀ (tks:List Tok) (i:Nat) (U:List T3),AtT tks i (T++((3,[125],0) :: U))→∃ l',stsR (oneR (blkR tks 12) false tks) tks (tks.length+1 - i) i = .inl (l',i+T.length)∧l'.map bareS=l.map bareS):=by
 obtain ⟨g1,g2,d,g3,g4⟩:=(rightS_iff l).1 hl
 obtain ⟨T,h1,h2,_⟩:=rows_back g4 g2
 obtain ⟨t,h3,h4⟩:=h1 [] rfl
 refine ⟨T,?_,fun tks i U ha=>h2 tks 12 i U g3 ha⟩
 rw [showS_ln hl h3]
 exact h4
theorem shown_back {l:List St} (hl:rightS l=true) (hs:(showS l).length≤3998):∃ (tks:List Tok) (m:List St),scanE (123 :: (showS l++[125]))=(tks,0,0)∧parS tks 0=(m,(tks.length:Int),0,0)∧m.map bareS=l.map bareS:=by
 obtain ⟨T,h1,h2⟩:=shown_scan hl
 have hsc:ScanTo (123 :: (showS l++[125])) ((3,[123],0) :: (T++[(3,[125],0)])) [] :=
  ScanTo.app (s:=[123]) (T:=[(3,[123],0)]) (scanTo_open _) (ScanTo.app (h1 _) (scanTo_shut _))
 obtain ⟨tks,g1,g2⟩:=hsc 0
 rw [List.append_nil,scanB_nil,comb_end] at g2
 have hsE:scanE (123 :: (showS l++[125]))=(tks,0,0):=by
  rw [scanE_B (by simp only [List.length_cons,List.length_append,List.length_nil];omega)];exact g2
 have ha:AtT tks 0 ((3,[123],0) :: (T++[(3,[125],0)])):=⟨[],tks,[],by simp,rfl,g1⟩
 obtain ⟨m,h3,h4⟩:=h2 tks 1 [] ha.tail
 have hb:=blk_read (isE_yes ha) h3 (isE_yes ha.tail.right)
 have hlen:tks.length=1+T.length+1:=by
  have:=congrArg List.length g1
  simp only [List.length_map,List.length_cons,List.length_append,List.length_nil] at this
  omega
 refine ⟨tks,m,hsE,?_,h4⟩
 have hm:m.length=l.length:=len_bare h4
 have h40:=((rightS_iff l).1 hl).1
 unfold parS
 rw [if_neg (by omega)]
 simp only [Int.toNat_zero]
 rw [show blkR tks 13 false 0 = .inl (m,1+T.length+1) from hb]
 simp only
 rw [if_neg (by omega),hlen]
theorem right_B {l:List St} (h:rightS l=true):l.length≤40∧∀ x∈l,SvB x:=by
 obtain ⟨h1,h2,_⟩:=(rightS_iff l).1 h
 exact ⟨h1,fun x hx=>fits_B (h2 x hx)⟩
theorem parS_right {s:List UInt8} (hs:s.length≤4000) {m:List St} {t:Int} (h:parS (scanE s).1 0=(m,t,0,0)):rightS m=true:=by
 rcases parS_fine (l:=(scanE s).1) (n:=s.length) (scanE_facts s).2 hs with ⟨x,t2,h2,h3,_⟩ | ⟨e,p,h2,h3,_⟩
 ·rw [h] at h2
  have:m=x:=congrArg Prod.fst h2
  rw [this];exact h3
 ·rw [h] at h2
  exact absurd (congrArg (fun z=>z.2.2.1) h2).symm h3
end Go.Proofs.YtaoeaaebafcegaaGreatDoor

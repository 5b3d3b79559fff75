/- Chapter 04 (statements), joined: RScanPlain. -/
import Derived.Test.YtaoeaaebafcegaaGreatDoorPkA00
import Derived.Test.YtaoeaaebafcegaaGreatDoorPkA01
set_option maxRecDepth 100000
namespace Go.Proofs.YtaoeaaebafcegaaGreatDoor
set_option linter.unusedVariables false
def blankE (c:UInt8):Bool:=decide (c.toNat=32) || decide (c.toNat=9) || decide (c.toNat=10) || decide (c.toNat=13)
def pastA:Bool→List UInt8→Nat
 | _,[]=>0
 | false,c :: r=>if blankE c then pastA false r+1 else if c.toNat=47∧r.head? = some 47 then pastA true r+1 else 0
 | true,c :: r=>if c.toNat=10 then pastA false r+1 else pastA true r+1
def twos:List (List UInt8):=[[61,61],[33,61],[60,61],[38,38],[124,124]]
def tw (j:Nat):List UInt8:=twos.getD j []
def ones:List UInt8:=[40,41,123,125,59,44,61,60,33,43,45,42,47,37]
def signE (l : List UInt8) : Nat := if twos.any (fun t => t.isPrefixOf l) then 2 else match l with
  | [] => 0
  | c :: _ => if ones.contains c then 1 else 0
def valD (l:List UInt8):Nat:=l.foldl (fun n c=>10*n+(c.toNat - 48)) 0
def tokE (l : List UInt8) (pos : Int) : (Tok × Nat) ⊕ Int := match l with
  | [] => .inr 3
  | c :: r =>
    if letterE c then
      if (l.takeWhile ldE).length ≤ 16 then .inl (⟨1, l.takeWhile ldE, 0, pos⟩, (l.takeWhile ldE).length) else .inr 2
    else if digitE c then
      if valD (l.takeWhile digitE) ≤ 4294967296 then .inl (⟨2, l.takeWhile digitE, valD (l.takeWhile digitE), pos⟩, (l.takeWhile digitE).length) else .inr 4
    else if signE l = 0 then .inr 3 else .inl (⟨3, l.take (signE l), 0, pos⟩, signE l)
def scanF:Nat→Nat→List UInt8→List Tok × Int × Int
 | 0,_,_=>([],0,0)
 | _+1,_,[]=>([],0,0)
 | f+1,pos,c :: r=>match tokE (c :: r) pos with
   | .inr e=>([],e,pos)
   | .inl (t,n) =>
     match scanF f (pos+n+pastA false ((c :: r).drop n)) (((c :: r).drop n).drop (pastA false ((c :: r).drop n))) with
     | (l,e,p)=>if e=0 then (t :: l,0,0) else ([],e,p)
theorem takeWhile_pos {p:UInt8→Bool} {c:UInt8} {r:List UInt8} (h:p c=true):1≤((c :: r).takeWhile p).length:=by
 rw [List.takeWhile_cons,h];simp
theorem takeWhile_le (p:UInt8→Bool) (l:List UInt8):(l.takeWhile p).length≤l.length:=(List.takeWhile_prefix p).length_le
theorem isPre_len {t l:List UInt8} (h:t.isPrefixOf l=true):t.length≤l.length:=(List.isPrefixOf_iff_prefix.1 h).length_le
theorem signE_le (l:List UInt8):signE l≤l.length:=by
 unfold signE
 split
 ·rename_i h
  obtain ⟨t,ht,hp⟩:=List.any_eq_true.1 h
  have h2:=isPre_len hp
  have:t.length=2:=by
   have:∀ t∈twos,t.length=2:=by decide
   exact this t ht
  omega
 ·split
  ·exact Nat.zero_le _
  ·split <;> simp
theorem tokE_len {l:List UInt8} {pos:Int} {t:Tok} {n:Nat} (h:tokE l pos = .inl (t,n)):1≤n∧n≤l.length∧t.text=l.take n∧t.pos=pos:=by
 cases l with
 | nil=>simp [tokE] at h
 | cons c r =>
   unfold tokE at h
   simp only at h
   by_cases h1:letterE c=true
   ·rw [if_pos h1] at h
    split at h
    ·simp only [Sum.inl.injEq,Prod.mk.injEq] at h
     obtain ⟨rfl,rfl⟩:=h
     refine ⟨takeWhile_pos (by simp [ldE,h1]),takeWhile_le _ _,?_,rfl⟩
     exact (List.prefix_iff_eq_take.1 (List.takeWhile_prefix _))
    ·cases h
   ·rw [if_neg h1] at h
    by_cases h2:digitE c=true
    ·rw [if_pos h2] at h
     split at h
     ·simp only [Sum.inl.injEq,Prod.mk.injEq] at h
      obtain ⟨rfl,rfl⟩:=h
      refine ⟨takeWhile_pos h2,takeWhile_le _ _,?_,rfl⟩
      exact (List.prefix_iff_eq_take.1 (List.takeWhile_prefix _))
     ·cases h
    ·rw [if_neg h2] at h
     split at h
     ·cases h
     ·rename_i h3
      simp only [Sum.inl.injEq,Prod.mk.injEq] at h
      obtain ⟨rfl,rfl⟩:=h
      exact ⟨by omega,signE_le _,rfl,rfl⟩
theorem scanF_fuel : ∀ (f g pos : Nat) (l : List UInt8), l.length < f → l.length < g → scanF f pos l = scanF g pos l
  | 0, _, _, l, h, _ => by omega
  | f + 1, 0, _, l, _, h => by omega
  | f + 1, g + 1, pos, [], _, _ => rfl
  | f + 1, g + 1, pos, c :: r, hf, hg => by
    unfold scanF
    cases h : tokE (c :: r) pos with
    | inr e => rfl
    | inl x =>
      obtain ⟨t, n⟩ := x
      have hl := tokE_len h
      simp only
      rw [scanF_fuel f g _ _ (by simp at hl hf ⊢; omega) (by simp at hl hg ⊢; omega)]
def scanS (pos:Nat) (l:List UInt8):List Tok × Int × Int:=scanF (l.length+1) pos l
def comb (ts:List Tok) (x:List Tok × Int × Int):List Tok × Int × Int:=if x.2.1=0 then (ts++x.1,0,0) else ([],x.2.1,x.2.2)
theorem comb_comb (ts us:List Tok) (x:List Tok × Int × Int):comb ts (comb us x)=comb (ts++us) x:=by
 unfold comb
 by_cases hb:x.2.1=0
 ·rw [if_pos hb,if_pos rfl,if_pos hb,List.append_assoc]
 ·rw [if_neg hb,if_neg hb,if_neg hb]
theorem comb_err (ts:List Tok) (e p:Int) (h:e≠0):comb ts ([],e,p)=([],e,p):=by unfold comb;rw [if_neg h]
theorem comb_end (ts:List Tok):comb ts ([],0,0)=(ts,0,0):=by unfold comb;simp
theorem scanS_nil (pos:Nat):scanS pos [] = ([],0,0):=rfl
theorem scanS_err {pos:Nat} {c:UInt8} {r:List UInt8} {e:Int} (h:tokE (c :: r) pos = .inr e):scanS pos (c :: r)=([],e,(pos:Int)):=by
 unfold scanS scanF;rw [h]
theorem scanS_tok {pos:Nat} {c:UInt8} {r:List UInt8} {t:Tok} {n:Nat} (h:tokE (c :: r) pos = .inl (t,n)) :
 scanS pos (c :: r)=comb [t] (scanS (pos+n+pastA false ((c :: r).drop n)) (((c :: r).drop n).drop (pastA false ((c :: r).drop n)))):=by
 have hl:=tokE_len h
 unfold scanS
 rw [scanF]
 simp only [h]
 rw [scanF_fuel (c :: r).length ((((c :: r).drop n).drop (pastA false ((c :: r).drop n))).length+1) _ _ (by simp at hl ⊢;omega) (by omega)]
 rfl
def scanE (l:List UInt8):List Tok × Int × Int :=
 if l.length≤4000 then comb [] (scanS (pastA false l) (l.drop (pastA false l))) else ([],2,4000)
theorem pastA_le : ∀ (b : Bool) (l : List UInt8), pastA b l ≤ l.length
  | true, [] => Nat.le_refl _
  | false, [] => Nat.le_refl _
  | false, c :: r => by
    unfold pastA
    have h1 := pastA_le false r
    have h2 := pastA_le true r
    simp only [List.length_cons]
    split
    · omega
    · split <;> omega
  | true, c :: r => by
    unfold pastA
    have h1 := pastA_le false r
    have h2 := pastA_le true r
    simp only [List.length_cons]
    split <;> omega
end Go.Proofs.YtaoeaaebafcegaaGreatDoor

/- Chapter 04 (statements), joined: ScanPlain. -/
set_option maxRecDepth 100000
namespace Go.Proofs.YtaoeaaebafcegaaGreatDoor
set_option linter.unusedVariables false
def letterE (c:UInt8):Bool:=(decide (97≤c.toNat) && decide (c.toNat≤122)) || decide (c.toNat=95)
def digitE (c:UInt8):Bool:=decide (48≤c.toNat) && decide (c.toNat≤57)
def ldE (c:UInt8):Bool:=letterE c || digitE c
theorem letterE_int (c:UInt8):letterE c=((decide (97≤(c.toNat:Int)) && decide ((c.toNat:Int)≤122)) || ((c.toNat:Int) == 95)):=by
 rw [Bool.eq_iff_iff];simp [letterE];omega
theorem digitE_int (c:UInt8):digitE c=(decide (48≤(c.toNat:Int)) && decide ((c.toNat:Int)≤57)):=by
 rw [Bool.eq_iff_iff];simp [digitE];omega
def keptL:List (List UInt8):=[[108,105,110,101],[118,111,108],[108,111,99,107],[116,104,114,101,97,100],[114,101,103],[108,111,97,100],[115,116,111,114,101],[99,97,115],[102,108,117,115,104],[111,112,116],[115,102,101,110,99,101],[109,102,101,110,99,101],[116,97,107,101],[103,105,118,101],[105,102],[101,108,115,101],[108,111,111,112],[98,114,101,97,107],[99,104,101,99,107],[114,101,99,111,118,101,114],[97,108,119,97,121,115]]
def keptE (s:List UInt8):Bool:=keptL.contains s
def kw (j:Nat):List UInt8:=keptL.getD j []
theorem kw_at (j:Nat) (h:j < keptL.length):keptL[j] = kw j:=by
 unfold kw;rw [List.getD_eq_getElem?_getD,List.getElem?_eq_getElem h];rfl
theorem keptL_len:keptL.length=21:=rfl
theorem kw_take (k:Nat) (h:k < 21):keptL.take (k+1)=keptL.take k++[kw k]:=by
 rw [List.take_succ_eq_append_getElem (by rw [keptL_len];exact h),kw_at]
theorem kw_len (j:Nat):(kw j).length≤10:=by
 by_cases h:j < 21
 ·have:∀ j:Fin 21,(kw j.val).length≤10:=by decide +kernel
  exact this ⟨j,h⟩
 ·unfold kw;rw [List.getD_eq_getElem?_getD,List.getElem?_eq_none (by rw [keptL_len];omega)];exact Nat.zero_le _
theorem keptE_not {s:List UInt8} (h:∀ j,j < 21→(kw j == s)=false):keptE s=false:=by
 unfold keptE
 rw [Bool.eq_false_iff]
 intro hc
 rw [List.contains_iff_mem] at hc
 obtain ⟨j,hj,e⟩:=List.mem_iff_getElem.1 hc
 have:=h j hj
 rw [← kw_at j hj,e] at this
 simp at this
theorem keptE_yes {s:List UInt8} {j:Nat} (hj:j < 21) (h:(kw j == s)=true):keptE s=true:=by
 unfold keptE
 rw [List.contains_iff_mem]
 have e:kw j=s:=by simpa using h
 rw [← e,← kw_at j (by rw [keptL_len];exact hj)]
 exact List.getElem_mem _
def nameE (s : List UInt8) : Bool := match s with
  | [] => false
  | c :: r => decide (s.length ≤ 16) && letterE c && !keptE s && s.all ldE
theorem takeWhile_all {p : UInt8 → Bool} : ∀ (l : List UInt8), ((l.takeWhile p).length == l.length) = l.all p
  | [] => rfl
  | c :: l => by
    rw [List.takeWhile_cons, List.all_cons]
    cases h : p c
    · simp
    · simp only [if_true, List.length_cons, Bool.true_and]
      rw [← takeWhile_all l]
      simp
theorem tw_stop {p : UInt8 → Bool} : ∀ (l : List UInt8) (k : Nat) (hk : k < l.length), (∀ j (h : j < k), p (l[j]'(by omega)) = true) → p l[k] = false → (l.takeWhile p).length = k
  | c :: l, 0, _, _, h => by
    have : p c = false := h
    rw [List.takeWhile_cons, this]; rfl
  | c :: l, k + 1, hk, ha, h => by
    have h0 : p c = true := ha 0 (by omega)
    rw [List.takeWhile_cons, h0]
    simp only [if_true, List.length_cons]
    rw [tw_stop l k (by simpa using hk) (fun j hj => ha (j + 1) (by omega)) h]
theorem tw_full {p:UInt8→Bool} (l:List UInt8) (h:∀ j (h:j < l.length),p l[j] = true):(l.takeWhile p).length=l.length:=by
 rw [← beq_iff_eq,takeWhile_all,List.all_eq_true]
 intro c hc
 obtain ⟨j,hj,rfl⟩:=List.mem_iff_getElem.1 hc
 exact h j hj
end Go.Proofs.YtaoeaaebafcegaaGreatDoor

/- Chapter 04 (statements), joined: ShwPlain, StmPlain, StmPlB. -/
import Derived.Test.YtaoeaaebafcegaaGreatDoorPkA07
import Derived.Test.YtaoeaaebafcegaaGreatDoorPkA08
import Derived.Lib.ItoaLen
set_option maxRecDepth 100000
namespace Go.Proofs.YtaoeaaebafcegaaGreatDoor
open Go Go.RowKit
set_option linter.unusedVariables false
theorem Ex.flat_inj : ∀ (a b : Ex), a.ok → b.ok → ∀ p q, a.flat ++ p = b.flat ++ q → a = b ∧ p = q
  | .leaf x, .leaf y, ha, hb, p, q, h => by
    simp only [Ex.flat, List.cons_append, List.nil_append, List.cons.injEq] at h
    exact ⟨by rw [h.1], h.2⟩
  | .leaf x, .one y c, ha, hb, p, q, h => by
    simp only [Ex.flat, List.cons_append, List.cons.injEq] at h
    obtain ⟨rfl, _⟩ := h
    have h1 : kidsE x.op = 0 := ha
    have h2 := hb.1
    omega
  | .leaf x, .two y c d, ha, hb, p, q, h => by
    simp only [Ex.flat, List.cons_append, List.cons.injEq] at h
    obtain ⟨rfl, _⟩ := h
    have h1 : kidsE x.op = 0 := ha
    have h2 := hb.1
    omega
  | .one x a, .leaf y, ha, hb, p, q, h => by
    simp only [Ex.flat, List.cons_append, List.cons.injEq] at h
    obtain ⟨rfl, _⟩ := h
    have h1 : kidsE x.op = 0 := hb
    have h2 := ha.1
    omega
  | .one x a, .one y c, ha, hb, p, q, h => by
    simp only [Ex.flat, List.cons_append, List.cons.injEq] at h
    obtain ⟨rfl, h⟩ := h
    obtain ⟨rfl, rfl⟩ := Ex.flat_inj a c ha.2 hb.2 p q h
    exact ⟨rfl, rfl⟩
  | .one x a, .two y c d, ha, hb, p, q, h => by
    simp only [Ex.flat, List.cons_append, List.cons.injEq] at h
    obtain ⟨rfl, _⟩ := h
    have h1 := ha.1
    have h2 := hb.1
    omega
  | .two x a b, .leaf y, ha, hb, p, q, h => by
    simp only [Ex.flat, List.cons_append, List.cons.injEq] at h
    obtain ⟨rfl, _⟩ := h
    have h1 : kidsE x.op = 0 := hb
    have h2 := ha.1
    omega
  | .two x a b, .one y c, ha, hb, p, q, h => by
    simp only [Ex.flat, List.cons_append, List.cons.injEq] at h
    obtain ⟨rfl, _⟩ := h
    have h1 := ha.1
    have h2 := hb.1
    omega
  | .two x a b, .two y c d, ha, hb, p, q, h => by
    simp only [Ex.flat, List.cons_append, List.cons.injEq, List.append_assoc] at h
    obtain ⟨rfl, h⟩ := h
    obtain ⟨rfl, h2⟩ := Ex.flat_inj a c ha.2.1 hb.2.1 _ _ h
    obtain ⟨rfl, rfl⟩ := Ex.flat_inj b d ha.2.2 hb.2.2 _ _ h2
    exact ⟨rfl, rfl⟩
open Classical in
noncomputable def treeE (l:List Nod):Option Ex:=if h:∃ e:Ex,e.ok∧l=e.flat then some h.choose else none
theorem treeE_flat (e:Ex) (h:e.ok):treeE e.flat=some e:=by
 have hx:∃ a:Ex,a.ok∧e.flat=a.flat:=⟨e,h,rfl⟩
 unfold treeE
 rw [dif_pos hx]
 have:=hx.choose_spec
 rw [(Ex.flat_inj _ _ h this.1 [] [] (by rw [List.append_nil,List.append_nil];exact this.2)).1.symm]
theorem treeE_some {l:List Nod} {e:Ex} (h:treeE l=some e):e.ok∧l=e.flat:=by
 unfold treeE at h
 split at h
 ·rename_i hx
  cases h
  exact hx.choose_spec
 ·cases h
theorem treeE_none {l:List Nod} (h:endE l 0≠(l.length:Int)):treeE l=none:=by
 cases ht:treeE l with
 | none=>rfl
 | some e =>
   obtain ⟨h1,rfl⟩:=treeE_some ht
   exact absurd (endE_whole e h1) h
theorem treeE_of_end {l:List Nod} (h:endE l 0=(l.length:Int)):∃ e:Ex,e.ok∧l=e.flat∧treeE l=some e:=by
 obtain ⟨e,h1,rfl⟩:=Ex.of_whole h
 exact ⟨e,h1,rfl,treeE_flat e h1⟩
def mayE (x:Nod):Bool :=
 if (decide (x.pos < 0) || decide (4000 < x.pos))=true then false
 else if x.op=1 then decide (0≤x.n) && decide (x.n≤4294967296) && (x.name == [])
 else if x.op=2 then (x.n == 0) && nameE x.name
 else (x.n == 0) && (x.name == [])
noncomputable def rightE (l : List Nod) : Bool := match treeE l with
  | some e => decide (l.length ≤ 40) && l.all mayE && decide (e.deep ≤ 12)
  | none => false
theorem rightE_flat (e:Ex) (h:e.ok):rightE e.flat=(decide (e.flat.length≤40) && e.flat.all mayE && decide (e.deep≤12)):=by
 unfold rightE;rw [treeE_flat e h]
theorem rightE_some {l:List Nod} (h:rightE l=true):∃ e:Ex,e.ok∧l=e.flat∧treeE l=some e∧l.length≤40∧(∀ x∈l,mayE x=true)∧e.deep≤12:=by
 unfold rightE at h
 cases ht:treeE l with
 | none=>rw [ht] at h;cases h
 | some e =>
   rw [ht] at h
   obtain ⟨h1,h2⟩:=treeE_some ht
   simp only [Bool.and_eq_true,decide_eq_true_eq,List.all_eq_true] at h
   exact ⟨e,h1,h2,rfl,h.1.1,h.1.2,h.2⟩
theorem rightE_end {l:List Nod} (h:endE l 0≠(l.length:Int)):rightE l=false:=by unfold rightE;rw [treeE_none h]
theorem rightE_big {l:List Nod} (h:40 < l.length):rightE l=false:=by
 unfold rightE
 cases treeE l with
 | none=>rfl
 | some e=>simp only;rw [decide_eq_false (by omega)];rfl
theorem rightE_may {l:List Nod} (h:l.all mayE=false):rightE l=false:=by
 unfold rightE
 cases treeE l with
 | none=>rfl
 | some e=>simp only;rw [h];simp
noncomputable def depthE (l:List Nod):Nat:=if rightE l=true then (match treeE l with | some e=>e.deep | none=>0) else 0
def Ex.brk (e : Ex) (s : List UInt8) : List UInt8 := match e with
  | .two _ _ _ => 40 :: (s ++ [41])
  | _ => s
def Ex.show:Ex→List UInt8
 | .leaf x=>if x.op=1 then Lib.itoa x.n else x.name
 | .one x a=>sg x.op.toNat++a.brk a.show
 | .two x a b=>a.brk a.show++[32]++sg x.op.toNat++[32]++b.brk b.show
noncomputable def showE (l:List Nod):List UInt8:=if rightE l=true then (match treeE l with | some e=>e.show | none=>[]) else []
def addN (out:List (List UInt8)) (x:Nod):List (List UInt8):=if x.op=2 then (if out.contains x.name=true then out else out++[x.name]) else out
def namsE (l:List Nod):List (List UInt8):=l.foldl addN []
noncomputable def namesE (l:List Nod):List (List UInt8):=if rightE l=true then namsE l else []
end Go.Proofs.YtaoeaaebafcegaaGreatDoor
namespace Go.Proofs.YtaoeaaebafcegaaGreatDoor
open Go Go.RowKit
set_option linter.unusedVariables false
theorem mayE_leaf1 {x:Nod} (h:mayE x=true) (h1:x.op=1):x.name = []∧0≤x.n∧x.n≤4294967296:=by
 unfold mayE at h
 split at h
 ·cases h
 ·simp only [Bool.and_eq_true,decide_eq_true_eq,beq_iff_eq] at h
  exact ⟨h.2,h.1.1,h.1.2⟩
theorem mayE_leaf2 {x:Nod} (h:mayE x=true) (h1:x.op=2):x.n=0∧nameE x.name=true:=by
 by_cases h0:(decide (x.pos < 0) || decide (4000 < x.pos))=true
 ·unfold mayE at h;rw [if_pos h0] at h;cases h
 ·unfold mayE at h
  rw [if_neg h0,if_neg (by omega),if_pos h1] at h
  simpa using h
theorem kids_op {op:Int}:(kidsE op=0→op=1∨op=2)∧(kidsE op=1→op=3∨op=4)∧(kidsE op=2→5≤op∧op≤15):=by
 unfold kidsE
 split
 ·refine ⟨fun _=>by omega,fun h=>by omega,fun h=>by omega⟩
 ·split
  ·refine ⟨fun h=>by omega,fun _=>by omega,fun h=>by omega⟩
  ·split
   ·refine ⟨fun h=>by omega,fun h=>by omega,fun _=>by omega⟩
   ·refine ⟨fun h=>by omega,fun h=>by omega,fun h=>by omega⟩
def Ex.may (e:Ex):Prop:=∀ x∈e.flat,mayE x=true
theorem Ex.may_one {x:Nod} {a:Ex} (h:(Ex.one x a).may):mayE x=true∧a.may:=⟨h x (by simp [Ex.flat]),fun y hy=>h y (by simp [Ex.flat,hy])⟩
theorem Ex.may_two {x:Nod} {a b:Ex} (h:(Ex.two x a b).may):mayE x=true∧a.may∧b.may:=⟨h x (by simp [Ex.flat]),fun y hy=>h y (by simp [Ex.flat,hy]),fun y hy=>h y (by simp [Ex.flat,hy])⟩
end Go.Proofs.YtaoeaaebafcegaaGreatDoor
namespace Go.Proofs.YtaoeaaebafcegaaGreatDoor
open Go Go.RowKit
set_option linter.unusedVariables false
theorem dig_of {k:Nat} (h:k < 10):digitE (UInt8.ofNat (48+k))=true∧(UInt8.ofNat (48+k)).toNat=48+k:=by
 have h1:(UInt8.ofNat (48+k)).toNat=48+k:=by simp [UInt8.toNat_ofNat'];omega
 refine ⟨?_,h1⟩
 unfold digitE
 rw [h1];simp;omega
theorem dec_dig : ∀ (k u : Nat), u ≤ k → (Lib.decDigits u).all digitE = true ∧ valD (Lib.decDigits u) = u ∧ Lib.decDigits u ≠ []
  | 0, u, h => by
    obtain rfl : u = 0 := by omega
    rw [Lib.decDigits, dif_pos (by omega)]
    exact ⟨rfl, rfl, by simp⟩
  | k + 1, u, h => by
    rw [Lib.decDigits]
    split
    · rename_i h1
      obtain ⟨d1, d2⟩ := dig_of h1
      refine ⟨by simp only [List.all_cons, d1, List.all_nil, Bool.and_self], ?_, by simp⟩
      show 10 * 0 + ((UInt8.ofNat (48 + u)).toNat - 48) = u
      rw [d2]; omega
    · rename_i h1
      obtain ⟨i1, i2, i3⟩ := dec_dig k (u / 10) (by omega)
      obtain ⟨d1, d2⟩ := dig_of (show u % 10 < 10 by omega)
      refine ⟨by rw [List.all_append, i1]; simp only [List.all_cons, d1, List.all_nil, Bool.and_self], ?_, by simp⟩
      unfold valD at i2 ⊢
      rw [List.foldl_append, i2]
      show 10 * (u / 10) + ((UInt8.ofNat (48 + u % 10)).toNat - 48) = u
      rw [d2]; omega
theorem dec_len : ∀ (k u : Nat), u < 10 ^ (k + 1) → (Lib.decDigits u).length ≤ k + 1
  | 0, u, h => by rw [Lib.decDigits, dif_pos (by omega)]; simp
  | k + 1, u, h => by
    rw [Lib.decDigits]
    split
    · simp
    · have := dec_len k (u / 10) (by rw [Nat.pow_succ] at h; omega)
      rw [List.length_append]; simp only [List.length_cons, List.length_nil]; omega
theorem itoa_pos {n:Int} (h:0≤n):Lib.itoa n=Lib.decDigits n.toNat:=by unfold Lib.itoa;rw [if_neg (by omega)]
def okC (c:UInt8):Prop:=blankE c=false∧c.toNat≠47∧c≠61
theorem okC_letter {c:UInt8} (h:letterE c=true):okC c:=by
 have h':(97≤c.toNat∧c.toNat≤122)∨c.toNat=95:=by simpa [letterE] using h
 refine ⟨?_,by omega,fun e=>by subst e;revert h;decide⟩
 unfold blankE
 simp;omega
theorem okC_digit {c:UInt8} (h:digitE c=true):okC c:=by
 have h':48≤c.toNat∧c.toNat≤57:=by simpa [digitE] using h
 refine ⟨?_,by omega,fun e=>by subst e;revert h;decide⟩
 unfold blankE
 simp;omega
theorem name_head {s:List UInt8} (h:nameE s=true):∃ c r,s=c :: r∧okC c∧s.length≤16:=by
 cases s with
 | nil=>cases h
 | cons c r =>
   unfold nameE at h
   simp only [Bool.and_eq_true,decide_eq_true_eq] at h
   exact ⟨c,r,rfl,okC_letter h.1.1.2,h.1.1.1⟩
theorem num_head {n:Int} (h0:0≤n) (h1:n≤4294967296):∃ c r,Lib.itoa n=c :: r∧digitE c=true∧(Lib.itoa n).length≤10:=by
 rw [itoa_pos h0]
 obtain ⟨d1,d2,d3⟩:=dec_dig _ n.toNat (Nat.le_refl _)
 have hl:=dec_len 9 n.toNat (by show n.toNat < 10000000000;omega)
 cases h:Lib.decDigits n.toNat with
 | nil=>exact absurd h d3
 | cons c r =>
   rw [h] at d1 hl
   simp only [List.all_cons,Bool.and_eq_true] at d1
   exact ⟨c,r,rfl,d1.1,hl⟩
theorem pc_sign (q : List UInt8) (pos : Int) : ∀ op : Nat, 5 ≤ op → op ≤ 15 → tokE (sg op ++ 32 :: q) pos = .inl (⟨3, sg op, 0, pos⟩, (sg op).length) ∧ pastA false (sg op ++ 32 :: q) = 0 ∧ sg op ≠ [] ∧ (sg op).length ≤ 2
  | 5, _, _ => ⟨rfl, rfl, by decide, by decide⟩
  | 6, _, _ => ⟨rfl, rfl, by decide, by decide⟩
  | 7, _, _ => ⟨rfl, rfl, by decide, by decide⟩
  | 8, _, _ => ⟨rfl, rfl, by decide, by decide⟩
  | 9, _, _ => ⟨rfl, rfl, by decide, by decide⟩
  | 10, _, _ => ⟨rfl, rfl, by decide, by decide⟩
  | 11, _, _ => ⟨rfl, rfl, by decide, by decide⟩
  | 12, _, _ => ⟨rfl, rfl, by decide, by decide⟩
  | 13, _, _ => ⟨rfl, rfl, by decide, by decide⟩
  | 14, _, _ => ⟨rfl, rfl, by decide, by decide⟩
  | 15, _, _ => ⟨rfl, rfl, by decide, by decide⟩
  | 0, h, _ => absurd h (by omega)
  | 1, h, _ => absurd h (by omega)
  | 2, h, _ => absurd h (by omega)
  | 3, h, _ => absurd h (by omega)
  | 4, h, _ => absurd h (by omega)
  | n + 16, _, h => absurd h (by omega)
theorem part_head:∀ a:Ex,a.ok→a.may→∃ c r,a.brk a.show=c :: r∧okC c
 | .leaf x,ho,hm=>by
   have hx:=hm x (by simp [Ex.flat])
   have hop:=kids_op.1 (show kidsE x.op=0 from ho)
   show ∃ c r,(if x.op=1 then Lib.itoa x.n else x.name)=c :: r∧okC c
   rcases hop with h1 | h1
   ·rw [if_pos h1]
    obtain ⟨_,g1,g2⟩:=mayE_leaf1 hx h1
    obtain ⟨c,r,hc,hd,_⟩:=num_head g1 g2
    exact ⟨c,r,hc,okC_digit hd⟩
   ·rw [if_neg (by omega)]
    obtain ⟨c,r,hc,hd,_⟩:=name_head (mayE_leaf2 hx h1).2
    exact ⟨c,r,hc,hd⟩
 | .one x a,ho,hm=>by
   have hop:=kids_op.2.1 ho.1
   show ∃ c r,sg x.op.toNat++a.brk a.show=c :: r∧okC c
   rcases hop with h | h
   ·rw [h];exact ⟨45,a.brk a.show,rfl,by decide,by decide,by decide⟩
   ·rw [h];exact ⟨33,a.brk a.show,rfl,by decide,by decide,by decide⟩
 | .two x a b,ho,hm=>⟨40,_,rfl,by decide,by decide,by decide⟩
theorem brk_len (a:Ex) (s:List UInt8):(a.brk s).length≤s.length+2:=by
 cases a <;> simp [Ex.brk]
theorem show_len:∀ e:Ex,e.ok→e.may→e.show.length+2≤20*e.flat.length
 | .leaf x,ho,hm=>by
   have hx:=hm x (by simp [Ex.flat])
   have hop:=kids_op.1 (show kidsE x.op=0 from ho)
   show (if x.op=1 then Lib.itoa x.n else x.name).length+2≤20*1
   rcases hop with h1 | h1
   ·rw [if_pos h1]
    obtain ⟨_,g1,g2⟩:=mayE_leaf1 hx h1
    obtain ⟨c,r,hc,hd,hl⟩:=num_head g1 g2
    omega
   ·rw [if_neg (by omega)]
    obtain ⟨c,r,hc,hd,hl⟩:=name_head (mayE_leaf2 hx h1).2
    omega
 | .one x a,ho,hm=>by
   obtain ⟨hx,hma⟩:=Ex.may_one hm
   have ih:=show_len a ho.2 hma
   have hb:=brk_len a a.show
   have hop:=kids_op.2.1 ho.1
   have hs:(sg x.op.toNat).length=1:=by rcases hop with h | h <;> rw [h] <;> rfl
   simp only [Ex.show,Ex.flat,List.length_append,List.length_cons]
   omega
 | .two x a b,ho,hm=>by
   obtain ⟨hx,hma,hmb⟩:=Ex.may_two hm
   have iha:=show_len a ho.2.1 hma
   have ihb:=show_len b ho.2.2 hmb
   have hba:=brk_len a a.show
   have hbb:=brk_len b b.show
   have hop:=kids_op.2.2 ho.1
   have hs:=(pc_sign [] 0 x.op.toNat (by omega) (by omega)).2.2.2
   simp only [Ex.show,Ex.flat,List.length_append,List.length_cons,List.length_nil]
   omega
end Go.Proofs.YtaoeaaebafcegaaGreatDoor
namespace Go.Proofs.YtaoeaaebafcegaaGreatDoor
open Go Go.RowKit
set_option linter.unusedVariables false
structure TokIn (n:Nat) (t:Tok):Prop where
 pos0:0≤t.pos
 pos1:t.pos+t.text.length≤n
 num0:0≤t.n
 num1:t.n≤4294967296
theorem tokE_in {l:List UInt8} {pos:Nat} {t:Tok} {n:Nat} (h:tokE l pos = .inl (t,n)):TokIn (pos+l.length) t:=by
 have hl:=tokE_len h
 have htl:t.text.length=n:=by rw [hl.2.2.1,List.length_take];omega
 have hn:0≤t.n∧t.n≤4294967296:=by
  cases l with
  | nil=>simp [tokE] at h
  | cons c r =>
    unfold tokE at h
    simp only at h
    split at h
    ·split at h
     ·cases h;exact ⟨Int.le_refl _,by show (0:Int)≤4294967296;decide⟩
     ·cases h
    ·split at h
     ·split at h
      ·cases h;constructor <;> simp only <;> omega
      ·cases h
     ·split at h
      ·cases h
      ·cases h;exact ⟨Int.le_refl _,by show (0:Int)≤4294967296;decide⟩
 exact ⟨by rw [hl.2.2.2];omega,by rw [hl.2.2.2,htl];omega,hn.1,hn.2⟩
theorem TokIn.mono {a b:Nat} {t:Tok} (h:TokIn a t) (hab:a≤b):TokIn b t:=⟨h.pos0,by have:=h.pos1;omega,h.num0,h.num1⟩
theorem scanF_facts : ∀ (f pos : Nat) (l : List UInt8), (scanF f pos l).1.length ≤ l.length ∧ (∀ t ∈ (scanF f pos l).1, TokIn (pos + l.length) t) ∧ ((scanF f pos l).2.1 ≠ 0 → 0 ≤ (scanF f pos l).2.2 ∧ (scanF f pos l).2.2 ≤ pos + l.length)
  | 0, pos, l => by unfold scanF; exact ⟨Nat.zero_le _, by simp, fun h => absurd rfl h⟩
  | f + 1, pos, [] => by unfold scanF; exact ⟨Nat.zero_le _, by simp, fun h => absurd rfl h⟩
  | f + 1, pos, c :: r => by
    unfold scanF
    cases h : tokE (c :: r) pos with
    | inr e =>
      refine ⟨Nat.zero_le _, by simp, fun _ => ?_⟩
      simp only [List.length_cons]
      constructor <;> omega
    | inl x =>
      obtain ⟨t, n⟩ := x
      have hl := tokE_len h
      have hin := tokE_in h
      simp only
      have hp := pastA_le false ((c :: r).drop n)
      have ih := scanF_facts f (pos + n + pastA false ((c :: r).drop n)) (((c :: r).drop n).drop (pastA false ((c :: r).drop n)))
      have hlen : (((c :: r).drop n).drop (pastA false ((c :: r).drop n))).length = (c :: r).length - n - pastA false ((c :: r).drop n) := by simp only [List.length_drop]
      have hp2 : pastA false ((c :: r).drop n) ≤ (c :: r).length - n := by rw [List.length_drop] at hp; exact hp
      generalize (scanF f (pos + n + pastA false ((c :: r).drop n)) (((c :: r).drop n).drop (pastA false ((c :: r).drop n)))) = z at ih
      obtain ⟨zl, ze, zp⟩ := z
      rw [hlen] at ih
      obtain ⟨i1, i2, i3⟩ := ih
      simp only at i1 i2 i3 ⊢
      split
      · refine ⟨?_, ?_, fun h => absurd rfl h⟩
        · simp only [List.length_cons] at *; omega
        · intro t2 ht2
          rcases List.mem_cons.1 ht2 with rfl | ht2
          · exact hin
          · exact (i2 t2 ht2).mono (by omega)
      · rename_i hze
        refine ⟨Nat.zero_le _, by simp, fun _ => ?_⟩
        have := i3 hze
        simp only
        constructor <;> omega
theorem scanE_facts (l:List UInt8):(scanE l).1.length≤l.length∧∀ t∈(scanE l).1,TokIn l.length t:=by
 unfold scanE
 split
 ·have hp:=pastA_le false l
  have h:=scanF_facts ((l.drop (pastA false l)).length+1) (pastA false l) (l.drop (pastA false l))
  unfold comb scanS
  rw [List.length_drop] at h ⊢
  split
  ·refine ⟨by simp only [List.nil_append];omega,fun t ht=>?_⟩
   simp only [List.nil_append] at ht
   exact (h.2.1 t ht).mono (by omega)
  ·exact ⟨Nat.zero_le _,by simp⟩
 ·exact ⟨Nat.zero_le _,by simp⟩
theorem scanE_text (l:List UInt8):∀ t∈(scanE l).1,t.text.length≤l.length:=fun t ht=>by
 have h:=(scanE_facts l).2 t ht
 have:=h.pos0;have:=h.pos1;omega
structure St where
 kind:Int
 reg:List UInt8
 name:List UInt8
 e:List Nod
 f:List Nod
 n:Int
 body:Int
 els:Int
 pos:Int
def zeroS:St:=⟨0,[],[],[],[],0,0,0,0⟩
def hasL:List (List UInt8):=[[],[114,101],[114,110],[110,101],[114,110,101,102],[110],[110],[],[],[110],[110],[101,98],[107,98],[],[101]]
def hasS (k:Nat):List UInt8:=hasL.getD k []
def wordL:List (List UInt8):=[[],[],[108,111,97,100],[115,116,111,114,101],[99,97,115],[102,108,117,115,104],[111,112,116],[115,102,101,110,99,101],[109,102,101,110,99,101],[116,97,107,101],[103,105,118,101],[105,102],[108,111,111,112],[98,114,101,97,107],[99,104,101,99,107]]
def wordS (k:Nat):List UInt8:=wordL.getD k []
def wElse:List UInt8:=[101,108,115,101]
def lettS (k:Nat):List UInt8:=(hasS k).filter (fun c=>c != 98)
abbrev RS (α:Type):=(α × Nat) ⊕ (Int × Int)
def badR (l:List Tok) (i:Nat) (e:Int):Int × Int:=(if l.length≤i then 6 else e,placeE l i)
def signR (l:List Tok) (s:List UInt8) (i:Nat):RS Unit:=if isE l i s=true then .inl ((),i+1) else .inr (badR l i 5)
def nameR (l:List Tok) (i:Nat):RS (List UInt8):=if i < l.length∧(tk l i).kind=1∧nameE (tk l i).text=true then .inl ((tk l i).text,i+1) else .inr (badR l i 5)
def exprR (l:List Tok) (i:Nat):RS (List Nod):=if (parE l i).2.2.1=0 then .inl ((parE l i).1,(parE l i).2.1.toNat) else .inr ((parE l i).2.2.1,(parE l i).2.2.2)
def roundsR (l:List Tok) (i:Nat):RS Int:=if i < l.length∧(tk l i).kind=2 then (if 1≤(tk l i).n∧(tk l i).n≤8 then .inl ((tk l i).n,i+1) else .inr (badR l i 11)) else .inr (badR l i 5)
def kindAt (l:List Tok) (i:Nat):Nat:=((List.range' 2 13).find? (fun k=>isE l i (wordS k))).getD 1
def partR (l:List Tok) (c:UInt8) (x:St) (i:Nat):RS St :=
 if c=114 then (match nameR l i with | .inr e=>.inr e | .inl (s,j)=>.inl ({ x with reg:=s },j))
 else if c=110 then (match nameR l i with | .inr e=>.inr e | .inl (s,j)=>.inl ({ x with name:=s },j))
 else if c=101 then (match exprR l i with | .inr e=>.inr e | .inl (s,j)=>.inl ({ x with e:=s },j))
 else if c=102 then (match exprR l i with | .inr e=>.inr e | .inl (s,j)=>.inl ({ x with f:=s },j))
 else (match roundsR l i with | .inr e=>.inr e | .inl (s,j)=>.inl ({ x with n:=s },j))
def aheadR (l:List Tok) (n:Nat) (i:Nat):RS Unit:=if n=0 then .inl ((),i) else signR l (if n=1 then [61] else [44]) i
def partsR (l : List Tok) : List UInt8 → Nat → St → Nat → RS St
  | [], n, x, i => .inl (x, i)
  | c :: r, n, x, i => match aheadR l n i with
    | .inr e => .inr e
    | .inl (_, j) => match partR l c x j with
      | .inr e => .inr e
      | .inl (y, j2) => partsR l r (n + 1) y j2
def posAt (l:List Tok) (i:Nat):Int:=if i < l.length then (tk l i).pos else 0
def oneR (blk : Bool → Nat → RS (List St)) (b : Bool) (l : List Tok) (i : Nat) : RS (List St) :=
  if kindAt l i = 13 ∧ b = false then .inr (badR l i 5)
  else match partsR l (lettS (kindAt l i)) 0 { zeroS with kind := kindAt l i, pos := posAt l i } (if kindAt l i = 1 then i else i + 1) with
    | .inr e => .inr e
    | .inl (x, j) =>
      if kindAt l i = 11 then match blk b j with
        | .inr e => .inr e
        | .inl (y, j2) => if isE l j2 wElse = true then match blk b (j2 + 1) with
            | .inr e => .inr e
            | .inl (z, j3) => .inl ({ x with body := y.length, els := z.length } :: (y ++ z), j3)
          else .inl ({ x with body := y.length } :: y, j2)
      else if kindAt l i = 12 then match blk true j with
        | .inr e => .inr e
        | .inl (y, j2) => .inl ({ x with body := y.length } :: y, j2)
      else match signR l [59] j with
        | .inr e => .inr e
        | .inl (_, j2) => .inl ([x], j2)
def stsR (one : Nat → RS (List St)) (l : List Tok) : Nat → Nat → RS (List St)
  | 0, i => .inl ([], i)
  | g + 1, i => if isE l i [125] = true then .inl ([], i) else match one i with
    | .inr e => .inr e
    | .inl (x, j) => match stsR one l g j with
      | .inr e => .inr e
      | .inl (y, j2) => .inl (x ++ y, j2)
def blkR (l : List Tok) : Nat → Bool → Nat → RS (List St)
  | 0, b, i => if isE l i [123] = true then .inr (7, placeE l i) else .inr (badR l i 5)
  | d + 1, b, i => match signR l [123] i with
    | .inr e => .inr e
    | .inl (_, j) => match stsR (oneR (blkR l d) b l) l (l.length + 1 - j) j with
      | .inr e => .inr e
      | .inl (x, j2) => match signR l [125] j2 with
        | .inr e => .inr e
        | .inl (_, j3) => .inl (x, j3)
def parS (l : List Tok) (i : Int) : List St × Int × Int × Int :=
  if i < 0 then ([], 0, 1, 0) else match blkR l 13 false i.toNat with
    | .inr (e, p) => ([], 0, e, p)
    | .inl (x, t) => if 40 < x.length then ([], 0, 2, (tk l i.toNat).pos) else (x, t, 0, 0)
theorem badR_bad (l:List Tok) (i:Nat) (e:Int) (h:1≤e):1≤(badR l i e).1:=by
 unfold badR;split <;> simp_all
theorem signR_good {l:List Tok} {s:List UInt8} {i:Nat} {u:Unit} {j:Nat} (h:signR l s i = .inl (u,j)):isE l i s=true∧j=i+1∧i < l.length:=by
 unfold signR at h
 by_cases hs:isE l i s=true
 ·rw [if_pos hs] at h
  cases h
  exact ⟨hs,rfl,isE_lt hs⟩
 ·rw [if_neg hs] at h;cases h
theorem nameR_good {l:List Tok} {i:Nat} {s:List UInt8} {j:Nat} (h:nameR l i = .inl (s,j)):i < l.length∧(tk l i).kind=1∧nameE (tk l i).text=true∧s=(tk l i).text∧j=i+1:=by
 unfold nameR at h
 split at h
 ·rename_i hc
  cases h
  exact ⟨hc.1,hc.2.1,hc.2.2,rfl,rfl⟩
 ·cases h
theorem roundsR_good {l:List Tok} {i:Nat} {n:Int} {j:Nat} (h:roundsR l i = .inl (n,j)):i < l.length∧(tk l i).kind=2∧n=(tk l i).n∧1≤n∧n≤8∧j=i+1:=by
 unfold roundsR at h
 split at h
 ·rename_i hc
  split at h
  ·rename_i hn
   cases h
   exact ⟨hc.1,hc.2,rfl,hn.1,hn.2,rfl⟩
  ·cases h
 ·cases h
theorem kindAt_range (l:List Tok) (i:Nat):1≤kindAt l i∧kindAt l i≤14:=by
 unfold kindAt
 cases h:(List.range' 2 13).find? (fun k=>isE l i (wordS k)) with
 | none=>exact ⟨Nat.le_refl _,by decide⟩
 | some k =>
   have:=List.mem_of_find?_eq_some h
   rw [List.mem_range'_1] at this
   simp only [Option.getD_some]
   omega
theorem kindAt_is {l:List Tok} {i:Nat} (h:kindAt l i≠1):isE l i (wordS (kindAt l i))=true:=by
 unfold kindAt at h ⊢
 cases hf:(List.range' 2 13).find? (fun k=>isE l i (wordS k)) with
 | none=>rw [hf] at h;exact absurd rfl h
 | some k=>simpa using List.find?_some hf
theorem kindAt_none {l:List Tok} {i:Nat} (h:kindAt l i=1):∀ k,2≤k→k≤14→isE l i (wordS k)=false:=by
 unfold kindAt at h
 cases hf:(List.range' 2 13).find? (fun k=>isE l i (wordS k)) with
 | none =>
   intro k h2 h14
   have:=List.find?_eq_none.1 hf k (by rw [List.mem_range'_1];omega)
   simpa using this
 | some k =>
   have:=List.mem_of_find?_eq_some hf
   rw [List.mem_range'_1] at this
   rw [hf] at h
   simp only [Option.getD_some] at h
   omega
theorem wordS_inj:∀ a,2≤a→a≤14→∀ b,2≤b→b≤14→wordS a=wordS b→a=b:=by
 have h:∀ a∈List.range' 2 13,∀ b∈List.range' 2 13,wordS a=wordS b→a=b:=by decide
 intro a h1 h2 b h3 h4
 exact h a (by rw [List.mem_range'_1];omega) b (by rw [List.mem_range'_1];omega)
theorem kindAt_of {l:List Tok} {i k:Nat} (h2:2≤k) (h14:k≤14) (h:isE l i (wordS k)=true):kindAt l i=k:=by
 by_cases h1:kindAt l i=1
 ·have:=kindAt_none h1 k h2 h14
  rw [h] at this;cases this
 ·have hr:=kindAt_range l i
  have e1:=(isE_text h).1
  have e2:=(isE_text (kindAt_is h1)).1
  exact wordS_inj _ (by omega) hr.2 _ h2 h14 (e2.symm.trans e1)
theorem exprR_good {l : List Tok} {i : Nat} {x : List Nod} {j : Nat} (h : exprR l i = .inl (x, j)) : i < j ∧ j ≤ l.length ∧ ∃ e : Ex, e.ok ∧ x = e.flat ∧ flR (prR l 12) l 5 i = .inl (e, j) ∧ e.deep ≤ 12 ∧ e.flat.length ≤ 40 := by
  have hP : parE l i = match flR (prR l 12) l 5 i with
      | .inr (e, p) => ([], 0, e, p)
      | .inl (x, t) => if 12 < x.deep then ([], 0, 7, (tk l i).pos) else if 40 < x.flat.length then ([], 0, 2, (tk l i).pos) else (x.flat, (t : Int), 0, 0) := by
    unfold parE; rw [if_neg (by omega)]; rfl
  unfold exprR at h
  rw [hP] at h
  have hf := flR_fwd (prR_fwd l 12) 5
  cases hr : flR (prR l 12) l 5 i with
  | inr ep =>
    obtain ⟨e, p⟩ := ep
    rw [hr] at h
    have he := (hf.bad _ _ _ hr).1
    simp only at h
    rw [if_neg (by omega)] at h
    cases h
  | inl xt =>
    obtain ⟨e, t⟩ := xt
    rw [hr] at h
    obtain ⟨g1, g2, g3, g4⟩ := hf.good _ _ _ hr
    simp only at h
    by_cases h1 : 12 < e.deep
    · rw [if_pos h1] at h; simp at h
    · rw [if_neg h1] at h
      by_cases h2 : 40 < e.flat.length
      · rw [if_pos h2] at h; simp at h
      · rw [if_neg h2] at h
        simp only [if_pos, Int.toNat_natCast] at h
        cases h
        exact ⟨g1, g2, e, g4, rfl, rfl, by omega, by omega⟩
theorem exprR_bad {l:List Tok} {i:Nat} {e p:Int} (h:exprR l i = .inr (e,p)):¬ e=0∧(parE l i).2.2.1=e∧(parE l i).2.2.2=p:=by
 unfold exprR at h
 by_cases h0:(parE l i).2.2.1=0
 ·rw [if_pos h0] at h;cases h
 ·rw [if_neg h0] at h
  cases h
  exact ⟨h0,rfl,rfl⟩
structure Hd (x y:St):Prop where
 kind:y.kind=x.kind
 body:y.body=x.body
 els:y.els=x.els
 pos:y.pos=x.pos
theorem Hd.refl (x:St):Hd x x:=⟨rfl,rfl,rfl,rfl⟩
theorem Hd.trans {x y z:St} (h:Hd x y) (g:Hd y z):Hd x z:=⟨g.kind.trans h.kind,g.body.trans h.body,g.els.trans h.els,g.pos.trans h.pos⟩
theorem partR_good {l:List Tok} {c:UInt8} {x y:St} {i j:Nat} (h:partR l c x i = .inl (y,j)):i < j∧j≤l.length∧Hd x y:=by
 unfold partR at h
 split at h
 ·cases hn:nameR l i with
  | inr e=>rw [hn] at h;cases h
  | inl r =>
    obtain ⟨s,k⟩:=r
    rw [hn] at h;cases h
    obtain ⟨h1,_,_,_,rfl⟩:=nameR_good hn
    exact ⟨Nat.lt_succ_self _,h1,⟨rfl,rfl,rfl,rfl⟩⟩
 ·split at h
  ·cases hn:nameR l i with
   | inr e=>rw [hn] at h;cases h
   | inl r =>
     obtain ⟨s,k⟩:=r
     rw [hn] at h;cases h
     obtain ⟨h1,_,_,_,rfl⟩:=nameR_good hn
     exact ⟨Nat.lt_succ_self _,h1,⟨rfl,rfl,rfl,rfl⟩⟩
  ·split at h
   ·cases hn:exprR l i with
    | inr e=>rw [hn] at h;cases h
    | inl r =>
      obtain ⟨s,k⟩:=r
      rw [hn] at h;cases h
      obtain ⟨h1,h2,_⟩:=exprR_good hn
      exact ⟨h1,h2,⟨rfl,rfl,rfl,rfl⟩⟩
   ·split at h
    ·cases hn:exprR l i with
     | inr e=>rw [hn] at h;cases h
     | inl r =>
       obtain ⟨s,k⟩:=r
       rw [hn] at h;cases h
       obtain ⟨h1,h2,_⟩:=exprR_good hn
       exact ⟨h1,h2,⟨rfl,rfl,rfl,rfl⟩⟩
    ·cases hn:roundsR l i with
     | inr e=>rw [hn] at h;cases h
     | inl r =>
       obtain ⟨s,k⟩:=r
       rw [hn] at h;cases h
       obtain ⟨h1,_,_,_,_,rfl⟩:=roundsR_good hn
       exact ⟨Nat.lt_succ_self _,h1,⟨rfl,rfl,rfl,rfl⟩⟩
theorem aheadR_good {l:List Tok} {n i j:Nat} {u:Unit} (h:aheadR l n i = .inl (u,j)):i≤j∧(i≤l.length→j≤l.length):=by
 unfold aheadR at h
 split at h
 ·cases h;exact ⟨Nat.le_refl _,fun h=>h⟩
 ·obtain ⟨_,rfl,h3⟩:=signR_good h
  exact ⟨by omega,fun _=>h3⟩
theorem partsR_good {l : List Tok} : ∀ {cs : List UInt8} {n : Nat} {x y : St} {i j : Nat}, partsR l cs n x i = .inl (y, j) → i ≤ j ∧ (i ≤ l.length → j ≤ l.length) ∧ Hd x y ∧ (cs ≠ [] → i < j)
  | [], n, x, y, i, j, h => by
    unfold partsR at h; cases h
    exact ⟨Nat.le_refl _, fun h => h, Hd.refl _, fun h => absurd rfl h⟩
  | c :: r, n, x, y, i, j, h => by
    unfold partsR at h
    cases ha : aheadR l n i with
    | inr e => rw [ha] at h; cases h
    | inl q =>
      obtain ⟨u, k⟩ := q
      rw [ha] at h
      simp only at h
      cases hp : partR l c x k with
      | inr e => rw [hp] at h; cases h
      | inl q2 =>
        obtain ⟨z, k2⟩ := q2
        rw [hp] at h
        simp only at h
        have g1 := aheadR_good ha
        have g2 := partR_good hp
        have g3 := partsR_good h
        exact ⟨by omega, fun _ => g3.2.1 g2.2.1, g2.2.2.trans g3.2.2.1, fun _ => by omega⟩
def BlkOk (l:List Tok) (f:Nat→RS (List St)):Prop:=∀ i x j,f i = .inl (x,j)→i < j∧j≤l.length
theorem oneR_good {l:List Tok} {blk:Bool→Nat→RS (List St)} (hb:∀ b,BlkOk l (blk b)) (b:Bool):BlkOk l (oneR blk b l):=by
 intro i x j h
 unfold oneR at h
 have hr:=kindAt_range l i
 split at h
 ·cases h
 ·cases hp:partsR l (lettS (kindAt l i)) 0 { zeroS with kind:=kindAt l i,pos:=posAt l i } (if kindAt l i=1 then i else i+1) with
  | inr e=>rw [hp] at h;cases h
  | inl q =>
    obtain ⟨y,k⟩:=q
    rw [hp] at h
    simp only at h
    have hk0:i < k:=by
     have g:=partsR_good hp
     by_cases h1:kindAt l i=1
     ·rw [if_pos h1,h1] at g
      exact g.2.2.2 (by decide)
     ·rw [if_neg h1] at g
      omega
    split at h
    ·cases h1:blk b k with
     | inr e=>rw [h1] at h;cases h
     | inl q1 =>
       obtain ⟨y1,k1⟩:=q1
       rw [h1] at h
       simp only at h
       have g1:=hb b _ _ _ h1
       split at h
       ·cases h2:blk b (k1+1) with
        | inr e=>rw [h2] at h;cases h
        | inl q2 =>
          obtain ⟨y2,k2⟩:=q2
          rw [h2] at h
          have g2:=hb b _ _ _ h2
          cases h
          exact ⟨by omega,g2.2⟩
       ·cases h
        exact ⟨by omega,g1.2⟩
    ·split at h
     ·cases h1:blk true k with
      | inr e=>rw [h1] at h;cases h
      | inl q1 =>
        obtain ⟨y1,k1⟩:=q1
        rw [h1] at h
        have g1:=hb true _ _ _ h1
        cases h
        exact ⟨by omega,g1.2⟩
     ·cases h1:signR l [59] k with
      | inr e=>rw [h1] at h;cases h
      | inl q1 =>
        obtain ⟨u,k1⟩:=q1
        rw [h1] at h
        obtain ⟨_,rfl,g⟩:=signR_good h1
        cases h
        exact ⟨by omega,g⟩
theorem stsR_good {l : List Tok} {one : Nat → RS (List St)} (ho : BlkOk l one) : ∀ (g : Nat) (i : Nat) (x : List St) (j : Nat), stsR one l g i = .inl (x, j) → i ≤ j ∧ (i ≤ l.length → j ≤ l.length)
  | 0, i, x, j, h => by unfold stsR at h; cases h; exact ⟨Nat.le_refl _, fun h => h⟩
  | g + 1, i, x, j, h => by
    unfold stsR at h
    split at h
    · cases h; exact ⟨Nat.le_refl _, fun h => h⟩
    · cases h1 : one i with
      | inr e => rw [h1] at h; cases h
      | inl q =>
        obtain ⟨y, k⟩ := q
        rw [h1] at h
        simp only at h
        cases h2 : stsR one l g k with
        | inr e => rw [h2] at h; cases h
        | inl q2 =>
          obtain ⟨z, k2⟩ := q2
          rw [h2] at h
          cases h
          have g1 := ho _ _ _ h1
          have g2 := stsR_good ho g k z j h2
          exact ⟨by omega, fun _ => g2.2 g1.2⟩
theorem stsR_fuel {l : List Tok} {one : Nat → RS (List St)} (ho : BlkOk l one) : ∀ (g g2 : Nat) (i : Nat), i ≤ l.length → l.length + 1 - i ≤ g → l.length + 1 - i ≤ g2 → stsR one l g i = stsR one l g2 i
  | 0, g2, i, hi, h, _ => absurd h (by omega)
  | g + 1, 0, i, hi, _, h => absurd h (by omega)
  | g + 1, g2 + 1, i, hi, h1, h2 => by
    unfold stsR
    split
    · rfl
    · cases hy : one i with
      | inr e => rfl
      | inl q =>
        obtain ⟨y, k⟩ := q
        have g1 := ho _ _ _ hy
        simp only
        rw [stsR_fuel ho g g2 k g1.2 (by omega) (by omega)]
theorem blkR_good (l : List Tok) : ∀ (d : Nat) (b : Bool), BlkOk l (blkR l d b)
  | 0, b, i, x, j, h => by
    unfold blkR at h
    split at h <;> cases h
  | d + 1, b, i, x, j, h => by
    unfold blkR at h
    cases h1 : signR l [123] i with
    | inr e => rw [h1] at h; cases h
    | inl q =>
      obtain ⟨u, k⟩ := q
      rw [h1] at h
      simp only at h
      obtain ⟨_, rfl, hl⟩ := signR_good h1
      cases h2 : stsR (oneR (blkR l d) b l) l (l.length + 1 - (i + 1)) (i + 1) with
      | inr e => rw [h2] at h; cases h
      | inl q2 =>
        obtain ⟨z, k2⟩ := q2
        rw [h2] at h
        simp only at h
        have g2 := stsR_good (oneR_good (fun b => blkR_good l d b) b) _ _ _ _ h2
        cases h3 : signR l [125] k2 with
        | inr e => rw [h3] at h; cases h
        | inl q3 =>
          obtain ⟨u3, k3⟩ := q3
          rw [h3] at h
          cases h
          obtain ⟨_, rfl, g3⟩ := signR_good h3
          exact ⟨by omega, g3⟩
inductive Rd:Bool→List St→Nat→Prop where
 | nil {b:Bool}:Rd b [] 0
 | leaf {b:Bool} {x:St} {r:List St} {d:Nat} (h11:x.kind≠11) (h12:x.kind≠12) (hb:x.body=0) (he:x.els=0) (h13:x.kind=13→b=true) (hr:Rd b r d):Rd b (x :: r) d
 | ifs {b:Bool} {x:St} {y z r:List St} {d1 d2 d:Nat} (h11:x.kind=11) (hb:x.body=(y.length:Nat)) (he:x.els=(z.length:Nat)) (hy:Rd b y d1) (hz:Rd b z d2) (hr:Rd b r d):Rd b (x :: (y++(z++r))) (max d (max (d1+1) (d2+1)))
 | loop {b:Bool} {x:St} {y r:List St} {d1 d:Nat} (h12:x.kind=12) (hb:x.body=(y.length:Nat)) (he:x.els=0) (hy:Rd true y d1) (hr:Rd b r d):Rd b (x :: (y++r)) (max d (d1+1))
theorem Rd.app {b:Bool} {l:List St} {d:Nat} (h:Rd b l d):∀ {m:List St} {d2:Nat},Rd b m d2→Rd b (l++m) (max d d2):=by
 induction h with
 | nil=>intro m d2 hm;simpa using hm
 | leaf h11 h12 hb he h13 hr ih=>intro m d2 hm;exact .leaf h11 h12 hb he h13 (ih hm)
 | @ifs b x y z r d1 d2 d h11 hb he hy hz hr _ _ ih =>
   intro m d3 hm
   have:=Rd.ifs h11 hb he hy hz (ih hm)
   have e1:x :: (y++(z++r))++m=x :: (y++(z++(r++m))):=by simp
   have e2:max (max d (max (d1+1) (d2+1))) d3=max (max d d3) (max (d1+1) (d2+1)):=by omega
   rw [e1,e2];exact this
 | @loop b x y r d1 d h12 hb he hy hr _ ih =>
   intro m d3 hm
   have:=Rd.loop h12 hb he hy (ih hm)
   have e1:x :: (y++r)++m=x :: (y++(r++m)):=by simp
   have e2:max (max d (d1+1)) d3=max (max d d3) (d1+1):=by omega
   rw [e1,e2];exact this
theorem Rd.weak {b:Bool} {l:List St} {d:Nat} (h:Rd b l d):Rd true l d:=by
 induction h with
 | nil=>exact .nil
 | leaf h11 h12 hb he h13 hr ih=>exact .leaf h11 h12 hb he (fun _=>rfl) ih
 | ifs h11 hb he hy hz hr i1 i2 i3=>exact .ifs h11 hb he i1 i2 i3
 | loop h12 hb he hy hr i1 i2=>exact .loop h12 hb he i1 i2
def deepF:Nat→Bool→List St→Int
 | _,_,[]=>0
 | 0,_,_ :: _=>-1
 | f+1,b,x :: r =>
   if x.body < 0∨x.els < 0∨(r.length:Int) < x.body+x.els then -1
   else if (x.kind≠11∧x.kind≠12∧0 < x.body)∨(x.kind≠11∧0 < x.els)∨(x.kind=13∧b=false) then -1
   else if x.kind=11∨x.kind=12 then
    if deepF f (b || decide (x.kind=12)) (r.take x.body.toNat) < 0∨deepF f (b || decide (x.kind=12)) ((r.drop x.body.toNat).take x.els.toNat) < 0 then -1
    else if deepF f b (r.drop (x.body.toNat+x.els.toNat)) < 0 then -1
    else max (deepF f b (r.drop (x.body.toNat+x.els.toNat))) (max (deepF f (b || decide (x.kind=12)) (r.take x.body.toNat)+1) (deepF f (b || decide (x.kind=12)) ((r.drop x.body.toNat).take x.els.toNat)+1))
   else deepF f b r
theorem rd_deepF {b:Bool} {l:List St} {d:Nat} (h:Rd b l d):∀ f,l.length≤f→deepF f b l=(d:Int):=by
 induction h with
 | nil=>intro f _;unfold deepF;cases f <;> rfl
 | @leaf b x r d h11 h12 hb he h13 hr ih =>
   intro f hf
   cases f with
   | zero=>simp at hf
   | succ f =>
     unfold deepF
     rw [if_neg (by omega),if_neg (by
      rintro (h | h | h)
      ·omega
      ·omega
      ·rw [h13 h.1] at h;exact absurd h.2 (by decide)),if_neg (by omega)]
     exact ih f (by simpa using hf)
 | @ifs b x y z r d1 d2 d h11 hb he hy hz hr i1 i2 i3 =>
   intro f hf
   cases f with
   | zero=>simp at hf
   | succ f =>
     simp only [List.length_cons,List.length_append] at hf
     have e1:(y++(z++r)).take x.body.toNat=y:=by rw [hb,Int.toNat_natCast];simp
     have e2:((y++(z++r)).drop x.body.toNat).take x.els.toNat=z:=by rw [hb,he,Int.toNat_natCast,Int.toNat_natCast];simp
     have e3:(y++(z++r)).drop (x.body.toNat+x.els.toNat)=r:=by rw [hb,he,Int.toNat_natCast,Int.toNat_natCast,← List.append_assoc,← List.length_append];simp
     have e4:(b || decide (x.kind=12))=b:=by rw [h11];simp
     unfold deepF
     rw [if_neg (by simp only [List.length_append];omega),if_neg (by omega),if_pos (.inl h11),e1,e2,e3,e4,i1 f (by omega),i2 f (by omega),i3 f (by omega),if_neg (by omega),if_neg (by omega)]
     omega
 | @loop b x y r d1 d h12 hb he hy hr i1 i2 =>
   intro f hf
   cases f with
   | zero=>simp at hf
   | succ f =>
     simp only [List.length_cons,List.length_append] at hf
     have e1:(y++r).take x.body.toNat=y:=by rw [hb,Int.toNat_natCast];simp
     have e2:((y++r).drop x.body.toNat).take x.els.toNat = []:=by rw [he];simp
     have e3:(y++r).drop (x.body.toNat+x.els.toNat)=r:=by rw [hb,he,Int.toNat_natCast];simp
     have e4:(b || decide (x.kind=12))=true:=by rw [h12];simp
     have e5:deepF f true [] = 0:=by unfold deepF;cases f <;> rfl
     unfold deepF
     rw [if_neg (by simp only [List.length_append];omega),if_neg (by omega),if_pos (.inr h12),e1,e2,e3,e4,i1 f (by omega),i2 f (by omega),e5,if_neg (by omega),if_neg (by omega)]
     omega
theorem deepF_rd : ∀ (f : Nat) (b : Bool) (l : List St), l.length ≤ f → 0 ≤ deepF f b l → Rd b l (deepF f b l).toNat
  | f, b, [], _, _ => by
    have : deepF f b [] = 0 := by unfold deepF; cases f <;> rfl
    rw [this]; exact .nil
  | 0, b, x :: r, h, _ => by simp at h
  | f + 1, b, x :: r, hf, h => by
    simp only [List.length_cons] at hf
    unfold deepF at h ⊢
    by_cases c1 : x.body < 0 ∨ x.els < 0 ∨ (r.length : Int) < x.body + x.els
    · rw [if_pos c1] at h; omega
    · rw [if_neg c1] at h ⊢
      by_cases c2 : (x.kind ≠ 11 ∧ x.kind ≠ 12 ∧ 0 < x.body) ∨ (x.kind ≠ 11 ∧ 0 < x.els) ∨ (x.kind = 13 ∧ b = false)
      · rw [if_pos c2] at h; omega
      · rw [if_neg c2] at h ⊢
        by_cases c3 : x.kind = 11 ∨ x.kind = 12
        · rw [if_pos c3] at h ⊢
          by_cases c4 : deepF f (b || decide (x.kind = 12)) (r.take x.body.toNat) < 0 ∨ deepF f (b || decide (x.kind = 12)) ((r.drop x.body.toNat).take x.els.toNat) < 0
          · rw [if_pos c4] at h; omega
          · rw [if_neg c4] at h ⊢
            by_cases c5 : deepF f b (r.drop (x.body.toNat + x.els.toNat)) < 0
            · rw [if_pos c5] at h; omega
            · rw [if_neg c5]
              have l1 : (r.take x.body.toNat).length = x.body.toNat := by rw [List.length_take]; omega
              have l2 : ((r.drop x.body.toNat).take x.els.toNat).length = x.els.toNat := by rw [List.length_take, List.length_drop]; omega
              have i1 := deepF_rd f (b || decide (x.kind = 12)) (r.take x.body.toNat) (by omega) (by omega)
              have i2 := deepF_rd f (b || decide (x.kind = 12)) ((r.drop x.body.toNat).take x.els.toNat) (by omega) (by omega)
              have i3 := deepF_rd f b (r.drop (x.body.toNat + x.els.toNat)) (by rw [List.length_drop]; omega) (by omega)
              have hr : r = r.take x.body.toNat ++ ((r.drop x.body.toNat).take x.els.toNat ++ r.drop (x.body.toNat + x.els.toNat)) := by
                rw [← List.drop_drop, List.take_append_drop, List.take_append_drop]
              rcases c3 with h11 | h12
              · have e4 : (b || decide (x.kind = 12)) = b := by rw [h11]; simp
                rw [e4] at i1 i2 c4 ⊢
                have := Rd.ifs (x := x) h11 (by rw [l1]; omega) (by rw [l2]; omega) i1 i2 i3
                rw [← hr] at this
                have e : (max (deepF f b (r.drop (x.body.toNat + x.els.toNat))) (max (deepF f b (r.take x.body.toNat) + 1) (deepF f b ((r.drop x.body.toNat).take x.els.toNat) + 1))).toNat = max (deepF f b (r.drop (x.body.toNat + x.els.toNat))).toNat (max ((deepF f b (r.take x.body.toNat)).toNat + 1) ((deepF f b ((r.drop x.body.toNat).take x.els.toNat)).toNat + 1)) := by omega
                rw [e]; exact this
              · have e4 : (b || decide (x.kind = 12)) = true := by rw [h12]; simp
                have h0 : x.els = 0 := by omega
                rw [e4] at i1 i2 c4 ⊢
                have e0 : (r.drop x.body.toNat).take x.els.toNat = [] := by rw [h0]; simp
                have e5 : deepF f true [] = 0 := by unfold deepF; cases f <;> rfl
                have e6 : x.body.toNat + x.els.toNat = x.body.toNat := by omega
                rw [e0, List.nil_append, e6] at hr
                rw [e0, e5] at c4
                rw [e0, e5, e6]
                rw [e6] at i3 c5
                have := Rd.loop (x := x) h12 (by rw [l1]; omega) h0 i1 i3
                rw [← hr] at this
                have e : (max (deepF f b (r.drop x.body.toNat)) (max (deepF f true (r.take x.body.toNat) + 1) (0 + 1))).toNat = max (deepF f b (r.drop x.body.toNat)).toNat ((deepF f true (r.take x.body.toNat)).toNat + 1) := by omega
                rw [e]; exact this
        · rw [if_neg c3] at h ⊢
          have i3 := deepF_rd f b r (by omega) h
          exact .leaf (fun e => c3 (.inl e)) (fun e => c3 (.inr e)) (by omega) (by omega) (fun e => by
            cases b with
            | true => rfl
            | false => exact absurd (.inr (.inr ⟨e, rfl⟩)) c2) i3
theorem deepF_neg : ∀ (f : Nat) (b : Bool) (l : List St), -1 ≤ deepF f b l
  | f, b, [] => by have : deepF f b [] = 0 := by unfold deepF; cases f <;> rfl
                   omega
  | 0, b, x :: r => by unfold deepF; exact Int.le_refl _
  | f + 1, b, x :: r => by
    have i1 := deepF_neg f (b || decide (x.kind = 12)) (r.take x.body.toNat)
    have i2 := deepF_neg f (b || decide (x.kind = 12)) ((r.drop x.body.toNat).take x.els.toNat)
    have i3 := deepF_neg f b (r.drop (x.body.toNat + x.els.toNat))
    have i4 := deepF_neg f b r
    unfold deepF
    repeat' split
    all_goals omega
end Go.Proofs.YtaoeaaebafcegaaGreatDoor

/- What an expression is, right or not; its text and names: plain. -/
import Derived.Test.YtknfimagjkndnaaDoorNodPlain
import Derived.Test.YtknfimagjkndnaaDoorParPlain
import Derived.Lib.ItoaLen
import Derived.Test.YtknfimagjkndnaaDoorRScanPlain
namespace Go.Proofs.YtknfimagjkndnaaDoor
open Go Go.RowKit
set_option linter.unusedVariables false
theorem Ex.flat_inj : ∀ (a b : Ex), a.ok → b.ok → ∀ p q, a.flat ++ p = b.flat ++ q → a = b ∧ p = q
  | .leaf x, .leaf y, ha, hb, p, q, h => by
    simp only [Ex.flat, List.cons_append, List.nil_append, List.cons.injEq] at h
    exact ⟨by rw [h.1], h.2⟩
  | .leaf x, .one y c, ha, hb, p, q, h => by
    simp only [Ex.flat, List.cons_append, List.cons.injEq] at h
    obtain ⟨rfl, _⟩ := h
    have h1 : kidsE x.op = 0 := ha
    have h2 := hb.1
    omega
  | .leaf x, .two y c d, ha, hb, p, q, h => by
    simp only [Ex.flat, List.cons_append, List.cons.injEq] at h
    obtain ⟨rfl, _⟩ := h
    have h1 : kidsE x.op = 0 := ha
    have h2 := hb.1
    omega
  | .one x a, .leaf y, ha, hb, p, q, h => by
    simp only [Ex.flat, List.cons_append, List.cons.injEq] at h
    obtain ⟨rfl, _⟩ := h
    have h1 : kidsE x.op = 0 := hb
    have h2 := ha.1
    omega
  | .one x a, .one y c, ha, hb, p, q, h => by
    simp only [Ex.flat, List.cons_append, List.cons.injEq] at h
    obtain ⟨rfl, h⟩ := h
    obtain ⟨rfl, rfl⟩ := Ex.flat_inj a c ha.2 hb.2 p q h
    exact ⟨rfl, rfl⟩
  | .one x a, .two y c d, ha, hb, p, q, h => by
    simp only [Ex.flat, List.cons_append, List.cons.injEq] at h
    obtain ⟨rfl, _⟩ := h
    have h1 := ha.1
    have h2 := hb.1
    omega
  | .two x a b, .leaf y, ha, hb, p, q, h => by
    simp only [Ex.flat, List.cons_append, List.cons.injEq] at h
    obtain ⟨rfl, _⟩ := h
    have h1 : kidsE x.op = 0 := hb
    have h2 := ha.1
    omega
  | .two x a b, .one y c, ha, hb, p, q, h => by
    simp only [Ex.flat, List.cons_append, List.cons.injEq] at h
    obtain ⟨rfl, _⟩ := h
    have h1 := ha.1
    have h2 := hb.1
    omega
  | .two x a b, .two y c d, ha, hb, p, q, h => by
    simp only [Ex.flat, List.cons_append, List.cons.injEq, List.append_assoc] at h
    obtain ⟨rfl, h⟩ := h
    obtain ⟨rfl, h2⟩ := Ex.flat_inj a c ha.2.1 hb.2.1 _ _ h
    obtain ⟨rfl, rfl⟩ := Ex.flat_inj b d ha.2.2 hb.2.2 _ _ h2
    exact ⟨rfl, rfl⟩
open Classical in
/-- the expression that some nodes are -/
noncomputable def treeE (l : List Nod) : Option Ex := if h : ∃ e : Ex, e.ok ∧ l = e.flat then some h.choose else none
theorem treeE_flat (e : Ex) (h : e.ok) : treeE e.flat = some e := by
  have hx : ∃ a : Ex, a.ok ∧ e.flat = a.flat := ⟨e, h, rfl⟩
  unfold treeE
  rw [dif_pos hx]
  have := hx.choose_spec
  rw [(Ex.flat_inj _ _ h this.1 [] [] (by rw [List.append_nil, List.append_nil]; exact this.2)).1.symm]
theorem treeE_some {l : List Nod} {e : Ex} (h : treeE l = some e) : e.ok ∧ l = e.flat := by
  unfold treeE at h
  split at h
  · rename_i hx
    cases h
    exact hx.choose_spec
  · cases h
theorem treeE_none {l : List Nod} (h : endE l 0 ≠ (l.length : Int)) : treeE l = none := by
  cases ht : treeE l with
  | none => rfl
  | some e =>
    obtain ⟨h1, rfl⟩ := treeE_some ht
    exact absurd (endE_whole e h1) h
theorem treeE_of_end {l : List Nod} (h : endE l 0 = (l.length : Int)) : ∃ e : Ex, e.ok ∧ l = e.flat ∧ treeE l = some e := by
  obtain ⟨e, h1, rfl⟩ := Ex.of_whole h
  exact ⟨e, h1, rfl, treeE_flat e h1⟩
/-- may a node be -/
def mayE (x : Nod) : Bool :=
  if (decide (x.pos < 0) || decide (4000 < x.pos)) = true then false
  else if x.op = 1 then decide (0 ≤ x.n) && decide (x.n ≤ 4294967296) && (x.name == [])
  else if x.op = 2 then (x.n == 0) && nameE x.name
  else (x.n == 0) && (x.name == [])
noncomputable def rightE (l : List Nod) : Bool := match treeE l with
  | some e => decide (l.length ≤ 40) && l.all mayE && decide (e.deep ≤ 12)
  | none => false
theorem rightE_flat (e : Ex) (h : e.ok) : rightE e.flat = (decide (e.flat.length ≤ 40) && e.flat.all mayE && decide (e.deep ≤ 12)) := by
  unfold rightE; rw [treeE_flat e h]
theorem rightE_some {l : List Nod} (h : rightE l = true) : ∃ e : Ex, e.ok ∧ l = e.flat ∧ treeE l = some e ∧ l.length ≤ 40 ∧ (∀ x ∈ l, mayE x = true) ∧ e.deep ≤ 12 := by
  unfold rightE at h
  cases ht : treeE l with
  | none => rw [ht] at h; cases h
  | some e =>
    rw [ht] at h
    obtain ⟨h1, h2⟩ := treeE_some ht
    simp only [Bool.and_eq_true, decide_eq_true_eq, List.all_eq_true] at h
    exact ⟨e, h1, h2, rfl, h.1.1, h.1.2, h.2⟩
theorem rightE_end {l : List Nod} (h : endE l 0 ≠ (l.length : Int)) : rightE l = false := by unfold rightE; rw [treeE_none h]
theorem rightE_big {l : List Nod} (h : 40 < l.length) : rightE l = false := by
  unfold rightE
  cases treeE l with
  | none => rfl
  | some e => simp only; rw [decide_eq_false (by omega)]; rfl
theorem rightE_may {l : List Nod} (h : l.all mayE = false) : rightE l = false := by
  unfold rightE
  cases treeE l with
  | none => rfl
  | some e => simp only; rw [h]; simp
noncomputable def depthE (l : List Nod) : Nat := if rightE l = true then (match treeE l with | some e => e.deep | none => 0) else 0
/-- a part of a text: an operator of two operands stands in brackets -/
def Ex.brk (e : Ex) (s : List UInt8) : List UInt8 := match e with
  | .two _ _ _ => 40 :: (s ++ [41])
  | _ => s
def Ex.show : Ex → List UInt8
  | .leaf x => if x.op = 1 then Lib.itoa x.n else x.name
  | .one x a => sg x.op.toNat ++ a.brk a.show
  | .two x a b => a.brk a.show ++ [32] ++ sg x.op.toNat ++ [32] ++ b.brk b.show
noncomputable def showE (l : List Nod) : List UInt8 := if rightE l = true then (match treeE l with | some e => e.show | none => []) else []
def addN (out : List (List UInt8)) (x : Nod) : List (List UInt8) := if x.op = 2 then (if out.contains x.name = true then out else out ++ [x.name]) else out
def namsE (l : List Nod) : List (List UInt8) := l.foldl addN []
noncomputable def namesE (l : List Nod) : List (List UInt8) := if rightE l = true then namsE l else []
end Go.Proofs.YtknfimagjkndnaaDoor
/- The tokens of what is shown of an expression, and what is read of them: plain. No program in this text. -/
namespace Go.Proofs.YtknfimagjkndnaaDoor
open Go Go.RowKit
set_option linter.unusedVariables false
/-- a node, a token without their places -/
def bareN (x : Nod) : Nod := ⟨x.op, x.n, x.name, 0⟩
def strip (t : Tok) : Int × List UInt8 × Int := (t.kind, t.text, t.n)
def Ex.bare : Ex → Ex
  | .leaf x => .leaf (bareN x)
  | .one x a => .one (bareN x) a.bare
  | .two x a b => .two (bareN x) a.bare b.bare
theorem Ex.bare_flat : ∀ e : Ex, e.bare.flat = e.flat.map bareN
  | .leaf x => rfl
  | .one x a => by simp [Ex.bare, Ex.flat, a.bare_flat]
  | .two x a b => by simp [Ex.bare, Ex.flat, a.bare_flat, b.bare_flat]
theorem Ex.bare_deep : ∀ e : Ex, e.bare.deep = e.deep
  | .leaf x => rfl
  | .one x a => by simp [Ex.bare, Ex.deep, a.bare_deep]
  | .two x a b => by simp [Ex.bare, Ex.deep, a.bare_deep, b.bare_deep]
theorem Ex.bare_len (e : Ex) : e.bare.flat.length = e.flat.length := by rw [e.bare_flat, List.length_map]
theorem Ex.brk_bare (e : Ex) (s : List UInt8) : e.bare.brk s = e.brk s := by cases e <;> rfl
theorem Ex.bare_show : ∀ e : Ex, e.bare.show = e.show
  | .leaf x => rfl
  | .one x a => by simp only [Ex.bare, Ex.show, a.bare_show, Ex.brk_bare]; rfl
  | .two x a b => by simp only [Ex.bare, Ex.show, a.bare_show, b.bare_show, Ex.brk_bare]; rfl
abbrev T3 := Int × List UInt8 × Int
def Ex.brkT (e : Ex) (s : List T3) : List T3 := match e with
  | .two _ _ _ => (3, [40], 0) :: (s ++ [(3, [41], 0)])
  | _ => s
def Ex.toks : Ex → List T3
  | .leaf x => if x.op = 1 then [(2, Lib.itoa x.n, x.n)] else [(1, x.name, 0)]
  | .one x a => (3, sg x.op.toNat, 0) :: a.brkT a.toks
  | .two x a b => a.brkT a.toks ++ ((3, sg x.op.toNat, 0) :: b.brkT b.toks)
/-- these tokens stand from a place on -/
def AtT (l : List Tok) (i : Nat) (T : List T3) : Prop := ∃ pre mid post, l = pre ++ (mid ++ post) ∧ pre.length = i ∧ mid.map strip = T
theorem AtT.left {l : List Tok} {i : Nat} {T U : List T3} (h : AtT l i (T ++ U)) : AtT l i T := by
  obtain ⟨pre, mid, post, rfl, rfl, hm⟩ := h
  obtain ⟨m1, m2, rfl, h1, h2⟩ := List.map_eq_append_iff.1 hm
  exact ⟨pre, m1, m2 ++ post, by simp, rfl, h1⟩
theorem AtT.right {l : List Tok} {i : Nat} {T U : List T3} (h : AtT l i (T ++ U)) : AtT l (i + T.length) U := by
  obtain ⟨pre, mid, post, rfl, rfl, hm⟩ := h
  obtain ⟨m1, m2, rfl, h1, h2⟩ := List.map_eq_append_iff.1 hm
  exact ⟨pre ++ m1, m2, post, by simp, by rw [← h1]; simp, h2⟩
theorem AtT.tail {l : List Tok} {i : Nat} {t : T3} {U : List T3} (h : AtT l i (t :: U)) : AtT l (i + 1) U := by
  have : AtT l (i + [t].length) U := AtT.right (T := [t]) h
  exact this
theorem AtT.head {l : List Tok} {i : Nat} {t : T3} {U : List T3} (h : AtT l i (t :: U)) : i < l.length ∧ (tk l i).kind = t.1 ∧ (tk l i).text = t.2.1 ∧ (tk l i).n = t.2.2 := by
  obtain ⟨pre, mid, post, rfl, rfl, hm⟩ := h
  obtain ⟨m, ms, rfl, h1, h2⟩ := List.map_eq_cons_iff.1 hm
  have hlt : pre.length < (pre ++ (m :: ms ++ post)).length := by simp
  refine ⟨hlt, ?_⟩
  rw [tk_at hlt]
  have : (pre ++ (m :: ms ++ post))[pre.length]'hlt = m := by simp
  rw [this, ← h1]
  exact ⟨rfl, rfl, rfl⟩
theorem AtT.le {l : List Tok} {i : Nat} {T : List T3} (h : AtT l i T) : i + T.length ≤ l.length := by
  obtain ⟨pre, mid, post, rfl, rfl, hm⟩ := h
  rw [← hm]; simp
theorem isE_tk {l : List Tok} {i : Nat} (hi : i < l.length) (s : List UInt8) : isE l i s = ((decide ((tk l i).kind = 1) || decide ((tk l i).kind = 3)) && decide ((tk l i).text = s)) := by
  rw [isE_at hi, tk_at hi, Bool.and_comm, Bool.eq_iff_iff]
  simp
theorem isE_yes {l : List Tok} {i : Nat} {s : List UInt8} {U : List T3} (h : AtT l i ((3, s, 0) :: U)) : isE l i s = true := by
  obtain ⟨h1, h2, h3, h4⟩ := h.head
  rw [isE_tk h1, h2, h3]; simp
theorem isE_no {l : List Tok} {i : Nat} {t : T3} {s : List UInt8} {U : List T3} (h : AtT l i (t :: U)) (hs : t.2.1 ≠ s) : isE l i s = false := by
  obtain ⟨h1, h2, h3, h4⟩ := h.head
  rw [isE_tk h1, h3]; simp [hs]
theorem isE_num {l : List Tok} {i : Nat} {t : T3} {s : List UInt8} {U : List T3} (h : AtT l i (t :: U)) (hs : t.1 = 2) : isE l i s = false := by
  obtain ⟨h1, h2, h3, h4⟩ := h.head
  rw [isE_tk h1, h2, hs]; simp
/-- no operator of two operands stands there -/
def Free (l : List Tok) (i : Nat) : Prop := ∀ n, n < 5 → opAt n l i = 0
theorem sg_free : ∀ n, n < 5 → ∀ op ∈ opsOf n, sg op ≠ [41] := by decide
theorem free_out {l : List Tok} {i : Nat} (h : l.length ≤ i) : Free l i := fun n _ => opAt_out h
theorem free_close {l : List Tok} {i : Nat} {U : List T3} (h : AtT l i ((3, [41], 0) :: U)) : Free l i := fun n hn => by
  by_cases h0 : opAt n l i = 0
  · exact h0
  · have h2 := opAt_some h0
    have := isE_no (s := sg (opAt n l i)) h (fun e => sg_free n hn _ h2.1 e.symm)
    rw [h2.2] at this; cases this
def flE (op : Nat) : Nat := if op = 15 then 0 else if op = 14 then 1 else if 10 ≤ op then 2 else if 7 ≤ op then 4 else 3
theorem flE_le : ∀ op, 5 ≤ op → op ≤ 15 → flE op ≤ 4 ∧ op ∈ opsOf (flE op) ∧ ∀ n, n < 5 → n ≠ flE op → ∀ q ∈ opsOf n, sg q ≠ sg op := by
  intro op h1 h2
  have : ∀ k : Fin 11, flE (k.val + 5) ≤ 4 ∧ (k.val + 5) ∈ opsOf (flE (k.val + 5)) ∧ ∀ n, n < 5 → n ≠ flE (k.val + 5) → ∀ q ∈ opsOf n, sg q ≠ sg (k.val + 5) := by decide +kernel
  have := this ⟨op - 5, by omega⟩
  simp only at this
  rw [show op - 5 + 5 = op by omega] at this
  exact this
theorem opAt_here {l : List Tok} {i op : Nat} {U : List T3} (h1 : 5 ≤ op) (h2 : op ≤ 15) (h : AtT l i ((3, sg op, 0) :: U)) : opAt (flE op) l i = op ∧ ∀ n, n < 5 → n ≠ flE op → opAt n l i = 0 := by
  obtain ⟨g1, g2, g3⟩ := flE_le op h1 h2
  refine ⟨opAt_of g2 (isE_yes h), fun n hn hne => ?_⟩
  by_cases h0 : opAt n l i = 0
  · exact h0
  · have h2 := opAt_some h0
    have := isE_no (s := sg (opAt n l i)) h (fun e => g3 n hn hne _ h2.1 e.symm)
    rw [h2.2] at this; cases this
theorem flR_up {pr : Nat → Res} {l : List Tok} {i to : Nat} {x : Ex} : ∀ (d m : Nat), m + d ≤ 5 → flR pr l m i = .inl (x, to) → (∀ n, n < 5 - m → 5 - (m + d) ≤ n → opAt n l to = 0) → flR pr l (m + d) i = .inl (x, to)
  | 0, m, _, h, _ => h
  | d + 1, m, hm, h, hf => by
    have ih := flR_up d m (by omega) h (fun n h1 h2 => hf n h1 (by omega))
    rw [show m + (d + 1) = (m + d) + 1 by omega]
    unfold flR
    rw [ih]
    simp only
    exact lpS_stop (hf _ (by omega) (by omega))
theorem mayE_leaf1 {x : Nod} (h : mayE x = true) (h1 : x.op = 1) : x.name = [] ∧ 0 ≤ x.n ∧ x.n ≤ 4294967296 := by
  unfold mayE at h
  split at h
  · cases h
  · simp only [Bool.and_eq_true, decide_eq_true_eq, beq_iff_eq] at h
    exact ⟨h.2, h.1.1, h.1.2⟩
theorem mayE_leaf2 {x : Nod} (h : mayE x = true) (h1 : x.op = 2) : x.n = 0 ∧ nameE x.name = true := by
  by_cases h0 : (decide (x.pos < 0) || decide (4000 < x.pos)) = true
  · unfold mayE at h; rw [if_pos h0] at h; cases h
  · unfold mayE at h
    rw [if_neg h0, if_neg (by omega), if_pos h1] at h
    simpa using h
theorem mayE_op {x : Nod} (h : mayE x = true) (h1 : x.op ≠ 1) (h2 : x.op ≠ 2) : x.n = 0 ∧ x.name = [] := by
  unfold mayE at h
  split at h
  · cases h
  · simp only [Bool.and_eq_true, beq_iff_eq] at h
    exact h
theorem nameE_not {s : List UInt8} (h : nameE s = true) (t : List UInt8) (ht : ∀ c r, t = c :: r → letterE c = false) : s ≠ t := by
  intro e
  subst e
  cases s with
  | nil => cases h
  | cons c r =>
    have := ht c r rfl
    unfold nameE at h
    simp only [this, Bool.and_eq_true] at h
    simp at h
theorem kids_op {op : Int} : (kidsE op = 0 → op = 1 ∨ op = 2) ∧ (kidsE op = 1 → op = 3 ∨ op = 4) ∧ (kidsE op = 2 → 5 ≤ op ∧ op ≤ 15) := by
  unfold kidsE
  split
  · refine ⟨fun _ => by omega, fun h => by omega, fun h => by omega⟩
  · split
    · refine ⟨fun h => by omega, fun _ => by omega, fun h => by omega⟩
    · split
      · refine ⟨fun h => by omega, fun h => by omega, fun _ => by omega⟩
      · refine ⟨fun h => by omega, fun h => by omega, fun h => by omega⟩
/-- all nodes of an expression may be -/
def Ex.may (e : Ex) : Prop := ∀ x ∈ e.flat, mayE x = true
theorem Ex.may_one {x : Nod} {a : Ex} (h : (Ex.one x a).may) : mayE x = true ∧ a.may := ⟨h x (by simp [Ex.flat]), fun y hy => h y (by simp [Ex.flat, hy])⟩
theorem Ex.may_two {x : Nod} {a b : Ex} (h : (Ex.two x a b).may) : mayE x = true ∧ a.may ∧ b.may := ⟨h x (by simp [Ex.flat]), fun y hy => h y (by simp [Ex.flat, hy]), fun y hy => h y (by simp [Ex.flat, hy])⟩
theorem unE_no {l : List Tok} {i : Nat} (h1 : isE l i [33] = false) (h2 : isE l i [45] = false) : unE l i = false := by unfold unE; rw [h1, h2]; rfl
theorem prR_base {l : List Tok} {i k : Nat} (hi : i < l.length) (h1 : unE l i = false) (h2 : opE l i = false) : prR l k i = baseR l i := by
  cases k with
  | zero => unfold prR; rw [if_neg (by omega), if_neg (by rw [h1, h2]; simp)]
  | succ k => unfold prR; rw [if_neg (by omega), if_neg (by rw [h1]; simp), if_neg (by rw [h2]; simp)]
theorem read_two (l : List Tok) (x : Nod) (a b : Ex) (i k : Nat) (ho : (Ex.two x a b).ok) (hm : (Ex.two x a b).may) (hd : (Ex.two x a b).deep ≤ k + 2)
    (HA : ∀ j, AtT l j (a.brkT a.toks) → ∃ e' : Ex, prR l k j = .inl (e', j + (a.brkT a.toks).length) ∧ e'.bare = a.bare) (HB : ∀ j, AtT l j (b.brkT b.toks) → ∃ e' : Ex, prR l k j = .inl (e', j + (b.brkT b.toks).length) ∧ e'.bare = b.bare)
    (ha : AtT l i (Ex.two x a b).toks) (hf : Free l (i + (Ex.two x a b).toks.length)) : ∃ e' : Ex, flR (prR l k) l 5 i = .inl (e', i + (Ex.two x a b).toks.length) ∧ e'.bare = (Ex.two x a b).bare := by
    obtain ⟨hx, hma, hmb⟩ := Ex.may_two hm
    have ha' : AtT l i (a.brkT a.toks ++ ((3, sg x.op.toNat, 0) :: b.brkT b.toks)) := ha
    obtain ⟨a', h1, h2⟩ := HA i ha'.left
    have hr := ha'.right
    obtain ⟨b', h3, h4⟩ := HB _ hr.tail
    have hop := kids_op.2.2 ho.1
    obtain ⟨o1, o2⟩ := opAt_here (op := x.op.toNat) (by omega) (by omega) hr
    obtain ⟨f1, f2, f3⟩ := flE_le x.op.toNat (by omega) (by omega)
    obtain ⟨hn, hnm⟩ := mayE_op hx (by omega) (by omega)
    have hlen : (Ex.two x a b).toks.length = (a.brkT a.toks).length + 1 + (b.brkT b.toks).length := by
      show (a.brkT a.toks ++ ((3, sg x.op.toNat, 0) :: b.brkT b.toks)).length = _
      simp; omega
    have hend : i + (a.brkT a.toks).length + 1 + (b.brkT b.toks).length = i + (Ex.two x a b).toks.length := by omega
    rw [hend] at h3
    generalize i + (Ex.two x a b).toks.length = to2 at *
    generalize i + (a.brkT a.toks).length = to1 at *
    generalize hfl : flE x.op.toNat = f at *
    generalize hopn : x.op.toNat = op at *
    have w1 : flR (prR l k) l (4 - f) i = .inl (a', to1) := by
      have := flR_up (pr := prR l k) (l := l) (i := i) (to := to1) (x := a') (4 - f) 0 (by omega) h1 (fun n g1 g2 => o2 n (by omega) (by omega))
      rw [Nat.zero_add] at this; exact this
    have w2 : flR (prR l k) l (4 - f) (to1 + 1) = .inl (b', to2) := by
      have := flR_up (pr := prR l k) (l := l) (i := to1 + 1) (to := to2) (x := b') (4 - f) 0 (by omega) h3 (fun n g1 g2 => hf n (by omega))
      rw [Nat.zero_add] at this; exact this
    have hfw := flR_fwd (prR_fwd l k) (4 - f)
    have w3 : flR (prR l k) l (4 - f + 1) i = .inl (.two ⟨op, 0, [], (tk l to1).pos⟩ a' b', to2) := by
      unfold flR
      rw [w1]
      simp only
      rw [show 4 - (4 - f) = f by omega]
      have hne : opAt f l to1 ≠ 0 := by rw [o1]; omega
      rw [lpS_step hfw hne w2, o1]
      split
      · rfl
      · exact lpS_stop (hf f (by omega))
    refine ⟨.two ⟨op, 0, [], (tk l to1).pos⟩ a' b', ?_, ?_⟩
    · have := flR_up (pr := prR l k) (l := l) (i := i) (to := to2) f (4 - f + 1) (by omega) w3 (fun n g1 g2 => hf n (by omega))
      rw [show 4 - f + 1 + f = 5 by omega] at this
      exact this
    · have hop2 : ((op : Nat) : Int) = x.op := by omega
      simp only [Ex.bare, bareN, h2, h4, hop2, hn, hnm]
theorem read_part (l : List Tok) : ∀ (e : Ex) (i k : Nat), e.ok → e.may → e.deep ≤ k + 1 → AtT l i (e.brkT e.toks) → ∃ e' : Ex, prR l k i = .inl (e', i + (e.brkT e.toks).length) ∧ e'.bare = e.bare
  | .leaf x, i, k, ho, hm, hd, ha => by
    have hx := hm x (by simp [Ex.flat])
    have hop := kids_op.1 (show kidsE x.op = 0 from ho)
    rcases hop with h1 | h1
    · have ht : (Ex.leaf x).brkT (Ex.leaf x).toks = [(2, Lib.itoa x.n, x.n)] := by show (Ex.leaf x).toks = _; unfold Ex.toks; rw [if_pos h1]
      rw [ht] at ha ⊢
      obtain ⟨hn, _⟩ := mayE_leaf1 hx h1
      obtain ⟨g1, g2, g3, g4⟩ := ha.head
      refine ⟨_, by rw [prR_base g1 (unE_no (isE_num ha rfl) (isE_num ha rfl)) (isE_num ha rfl)]; unfold baseR; rw [if_pos g2]; rfl, ?_⟩
      simp only [Ex.bare, bareN, g4]
      rw [h1, hn]
    · have ht : (Ex.leaf x).brkT (Ex.leaf x).toks = [(1, x.name, 0)] := by show (Ex.leaf x).toks = _; unfold Ex.toks; rw [if_neg (by omega)]
      rw [ht] at ha ⊢
      obtain ⟨hn, hnm⟩ := mayE_leaf2 hx h1
      obtain ⟨g1, g2, g3, g4⟩ := ha.head
      have q1 : isE l i [33] = false := isE_no ha (nameE_not hnm _ (fun c r e => by cases e; rfl))
      have q2 : isE l i [45] = false := isE_no ha (nameE_not hnm _ (fun c r e => by cases e; rfl))
      have q3 : opE l i = false := isE_no ha (nameE_not hnm _ (fun c r e => by cases e; rfl))
      simp only at g2 g3
      refine ⟨_, by rw [prR_base g1 (unE_no q1 q2) q3]; unfold baseR; rw [if_neg (by rw [g2]; decide), if_pos ⟨g2, by rw [g3]; exact hnm⟩]; rfl, ?_⟩
      simp only [Ex.bare, bareN, g3]
      rw [h1, hn]
  | .one x a, i, k, ho, hm, hd, ha => by
    obtain ⟨hx, hma⟩ := Ex.may_one hm
    have ha' : AtT l i ((3, sg x.op.toNat, 0) :: a.brkT a.toks) := ha
    have hk : 1 ≤ k := by have := a.deep_pos; simp only [Ex.deep] at hd; omega
    obtain ⟨k, rfl⟩ : ∃ j, k = j + 1 := ⟨k - 1, by omega⟩
    obtain ⟨a', h1, h2⟩ := read_part l a (i + 1) k ho.2 hma (by simp only [Ex.deep] at hd; omega) ha'.tail
    obtain ⟨g1, g2, g3, g4⟩ := ha'.head
    have hop := kids_op.2.1 ho.1
    have hu : unE l i = true := by
      unfold unE
      rcases hop with h | h
      · have : isE l i [45] = true := isE_yes (s := [45]) (U := a.brkT a.toks) (by rw [h] at ha'; exact ha')
        rw [this]; simp
      · have : isE l i [33] = true := isE_yes (s := [33]) (U := a.brkT a.toks) (by rw [h] at ha'; exact ha')
        rw [this]; simp
    obtain ⟨hn, hnm⟩ := mayE_op hx (by omega) (by omega)
    refine ⟨.one ⟨if (tk l i).text = [45] then 3 else 4, 0, [], (tk l i).pos⟩ a', ?_, ?_⟩
    · unfold prR
      rw [if_neg (by omega), if_pos hu, h1]
      show Sum.inl _ = Sum.inl _
      rw [show i + 1 + (a.brkT a.toks).length = i + ((Ex.one x a).brkT (Ex.one x a).toks).length by show _ = i + (a.brkT a.toks).length.succ; omega]
    · have hh : (if (tk l i).text = [45] then (3 : Int) else 4) = x.op := by
        simp only at g3
        rw [g3]
        rcases hop with h | h <;> rw [h] <;> decide
      simp only [Ex.bare, bareN, h2, hh, hn, hnm]
  | .two x a b, i, k, ho, hm, hd, ha => by
    have ha' : AtT l i ((3, [40], 0) :: ((Ex.two x a b).toks ++ [(3, [41], 0)])) := ha
    have hk : 1 ≤ k := by have := a.deep_pos; simp only [Ex.deep] at hd; omega
    obtain ⟨k, rfl⟩ : ∃ j, k = j + 1 := ⟨k - 1, by omega⟩
    have hc := ha'.tail.right
    obtain ⟨e', h1, h2⟩ := read_two l x a b (i + 1) k ho hm (by omega) (fun j hj => read_part l a j k ho.2.1 (Ex.may_two hm).2.1 (by simp only [Ex.deep] at hd; omega) hj) (fun j hj => read_part l b j k ho.2.2 (Ex.may_two hm).2.2 (by simp only [Ex.deep] at hd; omega) hj) ha'.tail.left (free_close hc)
    obtain ⟨g1, g2, g3, g4⟩ := ha'.head
    refine ⟨e', ?_, h2⟩
    unfold prR
    have q3 : opE l i = true := isE_yes ha'
    have q2 : unE l i = false := unE_no (isE_no ha' (by decide)) (isE_no ha' (by decide))
    have hcl : isE l ((i + 1 + (Ex.two x a b).toks.length : Nat) : Int) [41] = true := isE_yes hc
    rw [if_neg (by omega), if_neg (by rw [q2]; decide), if_pos q3, h1]
    simp only
    rw [if_pos hcl]
    rw [show i + 1 + (Ex.two x a b).toks.length + 1 = i + ((Ex.two x a b).brkT (Ex.two x a b).toks).length by
      have : ((Ex.two x a b).brkT (Ex.two x a b).toks).length = (Ex.two x a b).toks.length + 2 := by show ((3, [40], 0) :: ((Ex.two x a b).toks ++ [(3, [41], 0)]) : List T3).length = _; simp
      omega]
theorem read_whole (l : List Tok) (e : Ex) (k : Nat) (ho : e.ok) (hm : e.may) (hd : e.deep ≤ k + 1) (i : Nat) (ha : AtT l i e.toks) (hf : Free l (i + e.toks.length)) :
    ∃ e' : Ex, flR (prR l k) l 5 i = .inl (e', i + e.toks.length) ∧ e'.bare = e.bare := by
  match e, ho, hm, hd, ha, hf with
  | .leaf x, ho, hm, hd, ha, hf =>
    obtain ⟨e', h1, h2⟩ := read_part l (.leaf x) i k ho hm hd ha
    refine ⟨e', ?_, h2⟩
    have := flR_up (pr := prR l k) (l := l) (i := i) (x := e') 5 0 (by omega) h1 (fun n g1 g2 => hf n (by omega))
    exact this
  | .one x a, ho, hm, hd, ha, hf =>
    obtain ⟨e', h1, h2⟩ := read_part l (.one x a) i k ho hm hd ha
    refine ⟨e', ?_, h2⟩
    have := flR_up (pr := prR l k) (l := l) (i := i) (x := e') 5 0 (by omega) h1 (fun n g1 g2 => hf n (by omega))
    exact this
  | .two x a b, ho, hm, hd, ha, hf => exact read_two l x a b i k ho hm (by omega) (fun j hj => read_part l a j k ho.2.1 (Ex.may_two hm).2.1 (by simp only [Ex.deep] at hd; omega) hj) (fun j hj => read_part l b j k ho.2.2 (Ex.may_two hm).2.2 (by simp only [Ex.deep] at hd; omega) hj) ha hf
/-- the tokens of what is shown are read as it was, but for places -/
theorem par_show (l : List Tok) (e : Ex) (ho : e.ok) (hm : e.may) (hd : e.deep ≤ 12) (h40 : e.flat.length ≤ 40) (hl : l.map strip = e.toks) :
    ∃ e' : Ex, parE l 0 = (e'.flat, (l.length : Int), 0, 0) ∧ e'.bare = e.bare ∧ e'.ok := by
  have hlen : e.toks.length = l.length := by rw [← hl, List.length_map]
  obtain ⟨e', h1, h2⟩ := read_whole l e 12 ho hm (by omega) 0 ⟨[], l, [], by simp, rfl, hl⟩ (free_out (by omega))
  have hok := ((flR_fwd (prR_fwd l 12) 5).good _ _ _ h1).2.2.2
  have hd' : e'.deep = e.deep := by rw [← e'.bare_deep, h2, e.bare_deep]
  have hl' : e'.flat.length = e.flat.length := by rw [← e'.bare_len, h2, e.bare_len]
  refine ⟨e', ?_, h2, hok⟩
  unfold parE
  rw [if_neg (by omega)]
  rw [show (0 : Int).toNat = 0 by rfl, h1]
  simp only
  rw [if_neg (by omega), if_neg (by omega), hlen, Nat.zero_add]
end Go.Proofs.YtknfimagjkndnaaDoor
/- The tokens of what is shown of an expression: the scanner at these texts, plain. No program in this text. -/
namespace Go.Proofs.YtknfimagjkndnaaDoor
open Go Go.RowKit
set_option linter.unusedVariables false
theorem dig_of {k : Nat} (h : k < 10) : digitE (UInt8.ofNat (48 + k)) = true ∧ (UInt8.ofNat (48 + k)).toNat = 48 + k := by
  have h1 : (UInt8.ofNat (48 + k)).toNat = 48 + k := by simp [UInt8.toNat_ofNat']; omega
  refine ⟨?_, h1⟩
  unfold digitE
  rw [h1]; simp; omega
theorem dec_dig : ∀ (k u : Nat), u ≤ k → (Lib.decDigits u).all digitE = true ∧ valD (Lib.decDigits u) = u ∧ Lib.decDigits u ≠ []
  | 0, u, h => by
    obtain rfl : u = 0 := by omega
    rw [Lib.decDigits, dif_pos (by omega)]
    exact ⟨rfl, rfl, by simp⟩
  | k + 1, u, h => by
    rw [Lib.decDigits]
    split
    · rename_i h1
      obtain ⟨d1, d2⟩ := dig_of h1
      refine ⟨by simp only [List.all_cons, d1, List.all_nil, Bool.and_self], ?_, by simp⟩
      show 10 * 0 + ((UInt8.ofNat (48 + u)).toNat - 48) = u
      rw [d2]; omega
    · rename_i h1
      obtain ⟨i1, i2, i3⟩ := dec_dig k (u / 10) (by omega)
      obtain ⟨d1, d2⟩ := dig_of (show u % 10 < 10 by omega)
      refine ⟨by rw [List.all_append, i1]; simp only [List.all_cons, d1, List.all_nil, Bool.and_self], ?_, by simp⟩
      unfold valD at i2 ⊢
      rw [List.foldl_append, i2]
      show 10 * (u / 10) + ((UInt8.ofNat (48 + u % 10)).toNat - 48) = u
      rw [d2]; omega
theorem dec_len : ∀ (k u : Nat), u < 10 ^ (k + 1) → (Lib.decDigits u).length ≤ k + 1
  | 0, u, h => by rw [Lib.decDigits, dif_pos (by omega)]; simp
  | k + 1, u, h => by
    rw [Lib.decDigits]
    split
    · simp
    · have := dec_len k (u / 10) (by rw [Nat.pow_succ] at h; omega)
      rw [List.length_append]; simp only [List.length_cons, List.length_nil]; omega
theorem itoa_pos {n : Int} (h : 0 ≤ n) : Lib.itoa n = Lib.decDigits n.toNat := by unfold Lib.itoa; rw [if_neg (by omega)]
theorem tw_app {p : UInt8 → Bool} : ∀ (s q : List UInt8), s.all p = true → (∀ c r, q = c :: r → p c = false) → (s ++ q).takeWhile p = s
  | [], [], _, _ => rfl
  | [], c :: r, _, h => by rw [List.nil_append, List.takeWhile_cons, h c r rfl]; rfl
  | x :: s, q, hs, h => by
    simp only [List.all_cons, Bool.and_eq_true] at hs
    rw [List.cons_append, List.takeWhile_cons, hs.1]
    simp only [if_true]
    rw [tw_app s q hs.2 h]
/-- tokens of a text from a place on -/
def scanB (pos : Nat) (l : List UInt8) : List Tok × Int × Int := scanS (pos + pastA false l) (l.drop (pastA false l))
theorem scanB_nil (pos : Nat) : scanB pos [] = ([], 0, 0) := rfl
theorem scanE_B {l : List UInt8} (h : l.length ≤ 4000) : scanE l = comb [] (scanB 0 l) := by unfold scanE; rw [if_pos h]; unfold scanB; rw [Nat.zero_add]
theorem scanB_blank (pos : Nat) (l : List UInt8) : scanB pos (32 :: l) = scanB (pos + 1) l := by
  have : pastA false (32 :: l) = pastA false l + 1 := rfl
  unfold scanB
  rw [this, List.drop_succ_cons, show pos + (pastA false l + 1) = pos + 1 + pastA false l by omega]
theorem scan_pc {s q : List UInt8} {k n : Int} (hs : s ≠ []) (h0 : pastA false (s ++ q) = 0) (h : ∀ pos : Int, tokE (s ++ q) pos = .inl (⟨k, s, n, pos⟩, s.length)) (pos : Nat) :
    scanB pos (s ++ q) = comb [⟨k, s, n, pos⟩] (scanB (pos + s.length) q) := by
  unfold scanB
  rw [h0]
  obtain ⟨c, r, rfl⟩ : ∃ c r, s = c :: r := by cases s with | nil => exact absurd rfl hs | cons c r => exact ⟨c, r, rfl⟩
  have e := scanS_tok (pos := pos) (c := c) (r := r ++ q) (h pos)
  have hd : (c :: (r ++ q)).drop (c :: r).length = q := by rw [← List.cons_append]; exact List.drop_left
  rw [hd] at e
  rw [List.drop_zero, Nat.add_zero]
  exact e
/-- what may follow what is shown -/
def Fol (q : List UInt8) : Prop := ∀ c r, q = c :: r → ldE c = false
theorem fol_nil : Fol [] := fun c r h => by cases h
theorem fol_blank (q : List UInt8) : Fol (32 :: q) := fun c r h => by cases h; rfl
theorem fol_close (q : List UInt8) : Fol (41 :: q) := fun c r h => by cases h; rfl
/-- a text begins with no blank, and with no sign that another one goes on with -/
def okC (c : UInt8) : Prop := blankE c = false ∧ c.toNat ≠ 47 ∧ c ≠ 61
theorem past_okC {c : UInt8} {r : List UInt8} (h : okC c) : pastA false (c :: r) = 0 := by
  unfold pastA
  rw [if_neg (by rw [h.1]; decide), if_neg (fun g => h.2.1 g.1)]
theorem okC_letter {c : UInt8} (h : letterE c = true) : okC c := by
  have h' : (97 ≤ c.toNat ∧ c.toNat ≤ 122) ∨ c.toNat = 95 := by simpa [letterE] using h
  refine ⟨?_, by omega, fun e => by subst e; revert h; decide⟩
  unfold blankE
  simp; omega
theorem okC_digit {c : UInt8} (h : digitE c = true) : okC c := by
  have h' : 48 ≤ c.toNat ∧ c.toNat ≤ 57 := by simpa [digitE] using h
  refine ⟨?_, by omega, fun e => by subst e; revert h; decide⟩
  unfold blankE
  simp; omega
theorem letter_not_digit {c : UInt8} (h : digitE c = true) : letterE c = false := by
  have h' : 48 ≤ c.toNat ∧ c.toNat ≤ 57 := by simpa [digitE] using h
  unfold letterE
  simp; omega
theorem ldE_digit {c : UInt8} (h : ldE c = false) : digitE c = false := by unfold ldE at h; simp at h; exact h.2
theorem tok_name {s q : List UInt8} (h : nameE s = true) (hq : Fol q) (pos : Int) : tokE (s ++ q) pos = .inl (⟨1, s, 0, pos⟩, s.length) := by
  cases s with
  | nil => cases h
  | cons c r =>
    unfold nameE at h
    simp only [Bool.and_eq_true, decide_eq_true_eq] at h
    obtain ⟨⟨⟨h1, h2⟩, h3⟩, h4⟩ := h
    have ht := tw_app (p := ldE) (c :: r) q h4 hq
    rw [List.cons_append] at ht ⊢
    unfold tokE
    simp only
    rw [if_pos h2, ht, if_pos h1]
theorem name_head {s : List UInt8} (h : nameE s = true) : ∃ c r, s = c :: r ∧ okC c ∧ s.length ≤ 16 := by
  cases s with
  | nil => cases h
  | cons c r =>
    unfold nameE at h
    simp only [Bool.and_eq_true, decide_eq_true_eq] at h
    exact ⟨c, r, rfl, okC_letter h.1.1.2, h.1.1.1⟩
theorem num_head {n : Int} (h0 : 0 ≤ n) (h1 : n ≤ 4294967296) : ∃ c r, Lib.itoa n = c :: r ∧ digitE c = true ∧ (Lib.itoa n).length ≤ 10 := by
  rw [itoa_pos h0]
  obtain ⟨d1, d2, d3⟩ := dec_dig _ n.toNat (Nat.le_refl _)
  have hl := dec_len 9 n.toNat (by show n.toNat < 10000000000; omega)
  cases h : Lib.decDigits n.toNat with
  | nil => exact absurd h d3
  | cons c r =>
    rw [h] at d1 hl
    simp only [List.all_cons, Bool.and_eq_true] at d1
    exact ⟨c, r, rfl, d1.1, hl⟩
theorem tok_num {n : Int} {q : List UInt8} (h0 : 0 ≤ n) (h1 : n ≤ 4294967296) (hq : Fol q) (pos : Int) : tokE (Lib.itoa n ++ q) pos = .inl (⟨2, Lib.itoa n, n, pos⟩, (Lib.itoa n).length) := by
  obtain ⟨c, r, hc, hd, _⟩ := num_head h0 h1
  obtain ⟨d1, d2, d3⟩ := dec_dig _ n.toNat (Nat.le_refl _)
  rw [← itoa_pos h0] at d1 d2
  have ht := tw_app (p := digitE) (Lib.itoa n) q d1 (fun c r e => ldE_digit (hq c r e))
  rw [hc] at ht d2 ⊢
  rw [List.cons_append] at ht ⊢
  unfold tokE
  simp only
  rw [if_neg (by rw [letter_not_digit hd]; decide), if_pos hd, ht, d2, if_pos (by omega)]
  rw [show ((n.toNat : Nat) : Int) = n by omega]
theorem pc_sign (q : List UInt8) (pos : Int) : ∀ op : Nat, 5 ≤ op → op ≤ 15 → tokE (sg op ++ 32 :: q) pos = .inl (⟨3, sg op, 0, pos⟩, (sg op).length) ∧ pastA false (sg op ++ 32 :: q) = 0 ∧ sg op ≠ [] ∧ (sg op).length ≤ 2
  | 5, _, _ => ⟨rfl, rfl, by decide, by decide⟩
  | 6, _, _ => ⟨rfl, rfl, by decide, by decide⟩
  | 7, _, _ => ⟨rfl, rfl, by decide, by decide⟩
  | 8, _, _ => ⟨rfl, rfl, by decide, by decide⟩
  | 9, _, _ => ⟨rfl, rfl, by decide, by decide⟩
  | 10, _, _ => ⟨rfl, rfl, by decide, by decide⟩
  | 11, _, _ => ⟨rfl, rfl, by decide, by decide⟩
  | 12, _, _ => ⟨rfl, rfl, by decide, by decide⟩
  | 13, _, _ => ⟨rfl, rfl, by decide, by decide⟩
  | 14, _, _ => ⟨rfl, rfl, by decide, by decide⟩
  | 15, _, _ => ⟨rfl, rfl, by decide, by decide⟩
  | 0, h, _ => absurd h (by omega)
  | 1, h, _ => absurd h (by omega)
  | 2, h, _ => absurd h (by omega)
  | 3, h, _ => absurd h (by omega)
  | 4, h, _ => absurd h (by omega)
  | n + 16, _, h => absurd h (by omega)
theorem tok_open (q : List UInt8) (pos : Int) : tokE ([40] ++ q) pos = .inl (⟨3, [40], 0, pos⟩, 1) := rfl
theorem tok_close (q : List UInt8) (pos : Int) : tokE ([41] ++ q) pos = .inl (⟨3, [41], 0, pos⟩, 1) := rfl
theorem tok_minus (q : List UInt8) (pos : Int) : tokE ([45] ++ q) pos = .inl (⟨3, [45], 0, pos⟩, 1) := rfl
theorem tok_not {c : UInt8} {q : List UInt8} (hc : c ≠ 61) (pos : Int) : tokE ([33] ++ c :: q) pos = .inl (⟨3, [33], 0, pos⟩, 1) := by
  have h : signE (33 :: c :: q) = 1 := by
    have hb : ((61 : UInt8) == c) = false := beq_eq_false_iff_ne.2 (fun e => hc e.symm)
    have h2 : twos.any (fun t => t.isPrefixOf (33 :: c :: q)) = false := by
      simp only [twos, List.any_cons, List.any_nil, List.isPrefixOf, hb]
      rfl
    unfold signE
    rw [h2]
    rfl
  show tokE (33 :: c :: q) pos = _
  unfold tokE
  simp only
  rw [h]
  rfl
/-- what is shown is scanned as its tokens, whatever follows that may -/
def ScanAs (s : List UInt8) (T : List T3) : Prop := ∀ (q : List UInt8) (pos : Nat), Fol q → ∃ ts : List Tok, ts.map strip = T ∧ scanB pos (s ++ q) = comb ts (scanB (pos + s.length) q)
theorem ScanAs.app {s t : List UInt8} {T U : List T3} (hs : ∀ (q : List UInt8) (pos : Nat), Fol q → ∃ ts : List Tok, ts.map strip = T ∧ scanB pos (s ++ (t ++ q)) = comb ts (scanB (pos + s.length) (t ++ q))) (ht : ScanAs t U) : ScanAs (s ++ t) (T ++ U) := by
  intro q pos hq
  obtain ⟨ts, h1, h2⟩ := hs q pos hq
  obtain ⟨us, h3, h4⟩ := ht q (pos + s.length) hq
  refine ⟨ts ++ us, by rw [List.map_append, h1, h3], ?_⟩
  rw [List.append_assoc, h2, h4, comb_comb, List.length_append, Nat.add_assoc]
theorem part_head : ∀ a : Ex, a.ok → a.may → ∃ c r, a.brk a.show = c :: r ∧ okC c
  | .leaf x, ho, hm => by
    have hx := hm x (by simp [Ex.flat])
    have hop := kids_op.1 (show kidsE x.op = 0 from ho)
    show ∃ c r, (if x.op = 1 then Lib.itoa x.n else x.name) = c :: r ∧ okC c
    rcases hop with h1 | h1
    · rw [if_pos h1]
      obtain ⟨_, g1, g2⟩ := mayE_leaf1 hx h1
      obtain ⟨c, r, hc, hd, _⟩ := num_head g1 g2
      exact ⟨c, r, hc, okC_digit hd⟩
    · rw [if_neg (by omega)]
      obtain ⟨c, r, hc, hd, _⟩ := name_head (mayE_leaf2 hx h1).2
      exact ⟨c, r, hc, hd⟩
  | .one x a, ho, hm => by
    have hop := kids_op.2.1 ho.1
    show ∃ c r, sg x.op.toNat ++ a.brk a.show = c :: r ∧ okC c
    rcases hop with h | h
    · rw [h]; exact ⟨45, a.brk a.show, rfl, by decide, by decide, by decide⟩
    · rw [h]; exact ⟨33, a.brk a.show, rfl, by decide, by decide, by decide⟩
  | .two x a b, ho, hm => ⟨40, _, rfl, by decide, by decide, by decide⟩
theorem scan_brk (a : Ex) (h : ScanAs a.show a.toks) : ScanAs (a.brk a.show) (a.brkT a.toks) := by
  cases a with
  | leaf x => exact h
  | one x a => exact h
  | two x a b =>
    intro q pos hq
    obtain ⟨ts, h1, h2⟩ := h (41 :: q) (pos + 1) (fol_close q)
    refine ⟨⟨3, [40], 0, pos⟩ :: (ts ++ [⟨3, [41], 0, (pos + 1 + (Ex.two x a b).show.length : Nat)⟩]), ?_, ?_⟩
    · show (3, [40], 0) :: (ts ++ [_]).map strip = (3, [40], 0) :: ((Ex.two x a b).toks ++ [(3, [41], 0)])
      rw [List.map_append, h1]; rfl
    · show scanB pos (40 :: ((Ex.two x a b).show ++ [41]) ++ q) = _
      have e1 := scan_pc (s := [40]) (q := (Ex.two x a b).show ++ 41 :: q) (by simp) rfl (tok_open _) pos
      have e2 := scan_pc (s := [41]) (q := q) (by simp) rfl (tok_close _) (pos + 1 + (Ex.two x a b).show.length)
      rw [show (40 :: ((Ex.two x a b).show ++ [41]) ++ q : List UInt8) = [40] ++ ((Ex.two x a b).show ++ 41 :: q) by simp, e1]
      rw [show pos + [(40 : UInt8)].length = pos + 1 by rfl, h2]
      rw [show (41 :: q : List UInt8) = [41] ++ q by rfl, e2, comb_comb, comb_comb]
      rw [show pos + 1 + (Ex.two x a b).show.length + [(41 : UInt8)].length = pos + ((Ex.two x a b).brk (Ex.two x a b).show).length by
        show _ = pos + (40 :: ((Ex.two x a b).show ++ [41]) : List UInt8).length
        simp only [List.length_cons, List.length_append, List.length_nil]; omega]
      rfl
theorem scan_show : ∀ e : Ex, e.ok → e.may → ScanAs e.show e.toks
  | .leaf x, ho, hm => by
    have hx := hm x (by simp [Ex.flat])
    have hop := kids_op.1 (show kidsE x.op = 0 from ho)
    intro q pos hq
    rcases hop with h1 | h1
    · obtain ⟨_, g1, g2⟩ := mayE_leaf1 hx h1
      obtain ⟨c, r, hc, hd, _⟩ := num_head g1 g2
      have hs : (Ex.leaf x).show = Lib.itoa x.n := by unfold Ex.show; rw [if_pos h1]
      have ht : (Ex.leaf x).toks = [(2, Lib.itoa x.n, x.n)] := by unfold Ex.toks; rw [if_pos h1]
      rw [hs, ht]
      refine ⟨[⟨2, Lib.itoa x.n, x.n, pos⟩], rfl, scan_pc (by rw [hc]; simp) (by rw [hc]; exact past_okC (okC_digit hd)) (tok_num g1 g2 hq) pos⟩
    · obtain ⟨_, g1⟩ := mayE_leaf2 hx h1
      obtain ⟨c, r, hc, hd, _⟩ := name_head g1
      have hs : (Ex.leaf x).show = x.name := by unfold Ex.show; rw [if_neg (by omega)]
      have ht : (Ex.leaf x).toks = [(1, x.name, 0)] := by unfold Ex.toks; rw [if_neg (by omega)]
      rw [hs, ht]
      refine ⟨[⟨1, x.name, 0, pos⟩], rfl, scan_pc (by rw [hc]; simp) (by rw [hc]; exact past_okC hd) (tok_name g1 hq) pos⟩
  | .one x a, ho, hm => by
    obtain ⟨hx, hma⟩ := Ex.may_one hm
    have hop := kids_op.2.1 ho.1
    obtain ⟨c, r, hc, hd⟩ := part_head a ho.2 hma
    have hp := scan_brk a (scan_show a ho.2 hma)
    show ScanAs (sg x.op.toNat ++ a.brk a.show) ([(3, sg x.op.toNat, 0)] ++ a.brkT a.toks)
    refine ScanAs.app (fun q pos hq => ?_) hp
    refine ⟨[⟨3, sg x.op.toNat, 0, pos⟩], rfl, ?_⟩
    rcases hop with h | h
    · rw [h]
      exact scan_pc (s := [45]) (by simp) rfl (tok_minus _) pos
    · rw [h, hc]
      exact scan_pc (s := [33]) (by simp) rfl (tok_not hd.2.2) pos
  | .two x a b, ho, hm => by
    obtain ⟨hx, hma, hmb⟩ := Ex.may_two hm
    have hop := kids_op.2.2 ho.1
    have hpa := scan_brk a (scan_show a ho.2.1 hma)
    have hpb := scan_brk b (scan_show b ho.2.2 hmb)
    have hsg := fun q pos => pc_sign q pos x.op.toNat (by omega) (by omega)
    intro q pos hq
    obtain ⟨ta, a1, a2⟩ := hpa (32 :: (sg x.op.toNat ++ 32 :: (b.brk b.show ++ q))) pos (fol_blank _)
    obtain ⟨tb, b1, b2⟩ := hpb q (pos + (a.brk a.show).length + 1 + (sg x.op.toNat).length + 1) hq
    refine ⟨ta ++ (⟨3, sg x.op.toNat, 0, (pos + (a.brk a.show).length + 1 : Nat)⟩ :: tb), ?_, ?_⟩
    · rw [List.map_append, a1, List.map_cons, b1]; rfl
    · have e1 := scan_pc (s := sg x.op.toNat) (q := 32 :: (b.brk b.show ++ q)) (hsg [] 0).2.2.1 (hsg _ 0).2.1 (fun p => (hsg _ p).1) (pos + (a.brk a.show).length + 1)
      rw [show (Ex.two x a b).show ++ q = a.brk a.show ++ (32 :: (sg x.op.toNat ++ 32 :: (b.brk b.show ++ q))) by simp [Ex.show], a2, scanB_blank, e1, scanB_blank, b2, comb_comb, comb_comb]
      rw [show pos + (a.brk a.show).length + 1 + (sg x.op.toNat).length + 1 + (b.brk b.show).length = pos + (Ex.two x a b).show.length by simp only [Ex.show, List.length_append, List.length_cons, List.length_nil]; omega]
      simp
theorem brk_len (a : Ex) (s : List UInt8) : (a.brk s).length ≤ s.length + 2 := by
  cases a <;> simp [Ex.brk]
theorem show_len : ∀ e : Ex, e.ok → e.may → e.show.length + 2 ≤ 20 * e.flat.length
  | .leaf x, ho, hm => by
    have hx := hm x (by simp [Ex.flat])
    have hop := kids_op.1 (show kidsE x.op = 0 from ho)
    show (if x.op = 1 then Lib.itoa x.n else x.name).length + 2 ≤ 20 * 1
    rcases hop with h1 | h1
    · rw [if_pos h1]
      obtain ⟨_, g1, g2⟩ := mayE_leaf1 hx h1
      obtain ⟨c, r, hc, hd, hl⟩ := num_head g1 g2
      omega
    · rw [if_neg (by omega)]
      obtain ⟨c, r, hc, hd, hl⟩ := name_head (mayE_leaf2 hx h1).2
      omega
  | .one x a, ho, hm => by
    obtain ⟨hx, hma⟩ := Ex.may_one hm
    have ih := show_len a ho.2 hma
    have hb := brk_len a a.show
    have hop := kids_op.2.1 ho.1
    have hs : (sg x.op.toNat).length = 1 := by rcases hop with h | h <;> rw [h] <;> rfl
    simp only [Ex.show, Ex.flat, List.length_append, List.length_cons]
    omega
  | .two x a b, ho, hm => by
    obtain ⟨hx, hma, hmb⟩ := Ex.may_two hm
    have iha := show_len a ho.2.1 hma
    have ihb := show_len b ho.2.2 hmb
    have hba := brk_len a a.show
    have hbb := brk_len b b.show
    have hop := kids_op.2.2 ho.1
    have hs := (pc_sign [] 0 x.op.toNat (by omega) (by omega)).2.2.2
    simp only [Ex.show, Ex.flat, List.length_append, List.length_cons, List.length_nil]
    omega
/-- what is shown of an expression is scanned without fault, and read as it was, but for places -/
theorem round_trip (e : Ex) (ho : e.ok) (hm : e.may) (hd : e.deep ≤ 12) (h40 : e.flat.length ≤ 40) :
    (scanE e.show).1.map strip = e.toks ∧ ∃ e' : Ex, parE (scanE e.show).1 0 = (e'.flat, ((scanE e.show).1.length : Int), 0, 0) ∧ e'.bare = e.bare ∧ e'.ok := by
  have hl := show_len e ho hm
  obtain ⟨ts, h1, h2⟩ := scan_show e ho hm [] 0 fol_nil
  rw [List.append_nil] at h2
  have hs : (scanE e.show).1 = ts := by
    rw [scanE_B (by omega), h2, scanB_nil, comb_comb]
    simp [comb]
  rw [hs]
  exact ⟨h1, par_show ts e ho hm hd h40 h1⟩
end Go.Proofs.YtknfimagjkndnaaDoor
/- What a scanned text's tokens are: plain. No program in this text. -/
namespace Go.Proofs.YtknfimagjkndnaaDoor
open Go Go.RowKit
set_option linter.unusedVariables false
structure TokIn (n : Nat) (t : Tok) : Prop where
  pos0 : 0 ≤ t.pos
  pos1 : t.pos + t.text.length ≤ n
  num0 : 0 ≤ t.n
  num1 : t.n ≤ 4294967296
theorem tokE_in {l : List UInt8} {pos : Nat} {t : Tok} {n : Nat} (h : tokE l pos = .inl (t, n)) : TokIn (pos + l.length) t := by
  have hl := tokE_len h
  have htl : t.text.length = n := by rw [hl.2.2.1, List.length_take]; omega
  have hn : 0 ≤ t.n ∧ t.n ≤ 4294967296 := by
    cases l with
    | nil => simp [tokE] at h
    | cons c r =>
      unfold tokE at h
      simp only at h
      split at h
      · split at h
        · cases h; exact ⟨Int.le_refl _, by show (0 : Int) ≤ 4294967296; decide⟩
        · cases h
      · split at h
        · split at h
          · cases h; constructor <;> simp only <;> omega
          · cases h
        · split at h
          · cases h
          · cases h; exact ⟨Int.le_refl _, by show (0 : Int) ≤ 4294967296; decide⟩
  exact ⟨by rw [hl.2.2.2]; omega, by rw [hl.2.2.2, htl]; omega, hn.1, hn.2⟩
theorem TokIn.mono {a b : Nat} {t : Tok} (h : TokIn a t) (hab : a ≤ b) : TokIn b t := ⟨h.pos0, by have := h.pos1; omega, h.num0, h.num1⟩
theorem scanF_facts : ∀ (f pos : Nat) (l : List UInt8), (scanF f pos l).1.length ≤ l.length ∧ (∀ t ∈ (scanF f pos l).1, TokIn (pos + l.length) t) ∧ ((scanF f pos l).2.1 ≠ 0 → 0 ≤ (scanF f pos l).2.2 ∧ (scanF f pos l).2.2 ≤ pos + l.length)
  | 0, pos, l => by unfold scanF; exact ⟨Nat.zero_le _, by simp, fun h => absurd rfl h⟩
  | f + 1, pos, [] => by unfold scanF; exact ⟨Nat.zero_le _, by simp, fun h => absurd rfl h⟩
  | f + 1, pos, c :: r => by
    unfold scanF
    cases h : tokE (c :: r) pos with
    | inr e =>
      refine ⟨Nat.zero_le _, by simp, fun _ => ?_⟩
      simp only [List.length_cons]
      constructor <;> omega
    | inl x =>
      obtain ⟨t, n⟩ := x
      have hl := tokE_len h
      have hin := tokE_in h
      simp only
      have hp := pastA_le false ((c :: r).drop n)
      have ih := scanF_facts f (pos + n + pastA false ((c :: r).drop n)) (((c :: r).drop n).drop (pastA false ((c :: r).drop n)))
      have hlen : (((c :: r).drop n).drop (pastA false ((c :: r).drop n))).length = (c :: r).length - n - pastA false ((c :: r).drop n) := by simp only [List.length_drop]
      have hp2 : pastA false ((c :: r).drop n) ≤ (c :: r).length - n := by rw [List.length_drop] at hp; exact hp
      generalize (scanF f (pos + n + pastA false ((c :: r).drop n)) (((c :: r).drop n).drop (pastA false ((c :: r).drop n)))) = z at ih
      obtain ⟨zl, ze, zp⟩ := z
      rw [hlen] at ih
      obtain ⟨i1, i2, i3⟩ := ih
      simp only at i1 i2 i3 ⊢
      split
      · refine ⟨?_, ?_, fun h => absurd rfl h⟩
        · simp only [List.length_cons] at *; omega
        · intro t2 ht2
          rcases List.mem_cons.1 ht2 with rfl | ht2
          · exact hin
          · exact (i2 t2 ht2).mono (by omega)
      · rename_i hze
        refine ⟨Nat.zero_le _, by simp, fun _ => ?_⟩
        have := i3 hze
        simp only
        constructor <;> omega
theorem scanE_facts (l : List UInt8) : (scanE l).1.length ≤ l.length ∧ ∀ t ∈ (scanE l).1, TokIn l.length t := by
  unfold scanE
  split
  · have hp := pastA_le false l
    have h := scanF_facts ((l.drop (pastA false l)).length + 1) (pastA false l) (l.drop (pastA false l))
    unfold comb scanS
    rw [List.length_drop] at h ⊢
    split
    · refine ⟨by simp only [List.nil_append]; omega, fun t ht => ?_⟩
      simp only [List.nil_append] at ht
      exact (h.2.1 t ht).mono (by omega)
    · exact ⟨Nat.zero_le _, by simp⟩
  · exact ⟨Nat.zero_le _, by simp⟩
theorem scanE_text (l : List UInt8) : ∀ t ∈ (scanE l).1, t.text.length ≤ l.length := fun t ht => by
  have h := (scanE_facts l).2 t ht
  have := h.pos0; have := h.pos1; omega
end Go.Proofs.YtknfimagjkndnaaDoor

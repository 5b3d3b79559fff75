/- Chapter 04 (statements), joined: StmF. -/
import Derived.Test.YtaoeaaebafcegaaGreatDoorPkA09
set_option maxRecDepth 100000
namespace Go.Proofs.YtaoeaaebafcegaaGreatDoor
open Go Go.RowKit
set_option linter.unusedVariables false
def After {α:Type} (e p:Int) (i:Nat) (r:RS α) (d:α):α × Nat × Int × Int:=if e=0 then (match r with | .inl (x,j)=>(x,j,0,p) | .inr (e',p')=>(d,i,e',p')) else (d,i,e,p)
theorem after_err {α:Type} {e p:Int} {i:Nat} {r:RS α} {d:α} (h:¬ e=0):After e p i r d=(d,i,e,p):=if_neg h
inductive OpS where
 | reg | name | nodes | more | times
 | sign (s:List UInt8)
structure Sg where
 x:St
 i:Nat
 e:Int
 p:Int
def stepS (l : List Tok) (σ : Sg) : OpS → Sg
  | .reg => let a := After σ.e σ.p σ.i (nameR l σ.i) []; ⟨{ σ.x with reg := a.1 }, a.2.1, a.2.2.1, a.2.2.2⟩
  | .name => let a := After σ.e σ.p σ.i (nameR l σ.i) []; ⟨{ σ.x with name := a.1 }, a.2.1, a.2.2.1, a.2.2.2⟩
  | .nodes => let a := After σ.e σ.p σ.i (exprR l σ.i) []; ⟨{ σ.x with e := a.1 }, a.2.1, a.2.2.1, a.2.2.2⟩
  | .more => let a := After σ.e σ.p σ.i (exprR l σ.i) []; ⟨{ σ.x with f := a.1 }, a.2.1, a.2.2.1, a.2.2.2⟩
  | .times => let a := After σ.e σ.p σ.i (roundsR l σ.i) 0; ⟨{ σ.x with n := a.1 }, a.2.1, a.2.2.1, a.2.2.2⟩
  | .sign s => let a := After σ.e σ.p σ.i (signR l s σ.i) (); ⟨σ.x, a.2.1, a.2.2.1, a.2.2.2⟩
def runS (l:List Tok) (σ:Sg) (ops:List OpS):Sg:=ops.foldl (stepS l) σ
theorem step_err {l:List Tok} {σ:Sg} (h:¬ σ.e=0) (o:OpS):(stepS l σ o).e=σ.e∧(stepS l σ o).p=σ.p∧(stepS l σ o).i=σ.i:=by
 cases o <;> simp [stepS,after_err h]
theorem run_err {l : List Tok} : ∀ (ops : List OpS) {σ : Sg}, ¬ σ.e = 0 → (runS l σ ops).e = σ.e ∧ (runS l σ ops).p = σ.p ∧ (runS l σ ops).i = σ.i
  | [], σ, h => ⟨rfl, rfl, rfl⟩
  | o :: r, σ, h => by
    have h1 := step_err (l := l) h o
    have h2 := run_err (l := l) r (σ := stepS l σ o) (by rw [h1.1]; exact h)
    exact ⟨h2.1.trans h1.1, h2.2.1.trans h1.2.1, h2.2.2.trans h1.2.2⟩
def opOf (c:UInt8):OpS:=if c=114 then .reg else if c=110 then .name else if c=101 then .nodes else if c=102 then .more else .times
def aheadS (n:Nat):List OpS:=if n=0 then [] else [.sign (if n=1 then [61] else [44])]
def opsOf2:List UInt8→Nat→List OpS
 | [],n=>[]
 | c :: r,n=>aheadS n++(opOf c :: opsOf2 r (n+1))
def opsS (k:Nat):List OpS:=opsOf2 (lettS k) 0
theorem badR_ne {l:List Tok} {i:Nat} {k:Int} (h:1≤k):¬ (badR l i k).1=0:=by
 have:=badR_bad l i k h;omega
theorem nameR_bad {l:List Tok} {i:Nat} {e p:Int} (h:nameR l i = .inr (e,p)):¬ e=0:=by
 unfold nameR at h
 split at h
 ·cases h
 ·injection h with h
  rw [show e=(badR l i 5).1 by rw [h]]
  exact badR_ne (by decide)
theorem signR_bad {l:List Tok} {s:List UInt8} {i:Nat} {e p:Int} (h:signR l s i = .inr (e,p)):¬ e=0:=by
 unfold signR at h
 split at h
 ·cases h
 ·injection h with h
  rw [show e=(badR l i 5).1 by rw [h]]
  exact badR_ne (by decide)
theorem roundsR_bad {l:List Tok} {i:Nat} {e p:Int} (h:roundsR l i = .inr (e,p)):¬ e=0:=by
 unfold roundsR at h
 split at h
 ·split at h
  ·cases h
  ·injection h with h
   rw [show e=(badR l i 11).1 by rw [h]]
   exact badR_ne (by decide)
 ·injection h with h
  rw [show e=(badR l i 5).1 by rw [h]]
  exact badR_ne (by decide)
theorem step_part (l : List Tok) (c : UInt8) (x : St) (i : Nat) (p : Int) : match partR l c x i with
    | .inl (y, j) => stepS l ⟨x, i, 0, p⟩ (opOf c) = ⟨y, j, 0, p⟩
    | .inr (a, b) => (stepS l ⟨x, i, 0, p⟩ (opOf c)).e = a ∧ (stepS l ⟨x, i, 0, p⟩ (opOf c)).p = b ∧ (stepS l ⟨x, i, 0, p⟩ (opOf c)).i = i ∧ ¬ a = 0 := by
  unfold partR opOf
  by_cases h1 : c = 114
  · rw [if_pos h1, if_pos h1]
    cases hr : nameR l i with
    | inl q => obtain ⟨s, j⟩ := q; simp only [stepS, hr, After, if_pos]
    | inr q => obtain ⟨a, b⟩ := q; simp only [stepS, hr, After, if_pos]; exact ⟨trivial, trivial, trivial, nameR_bad hr⟩
  · rw [if_neg h1, if_neg h1]
    by_cases h2 : c = 110
    · rw [if_pos h2, if_pos h2]
      cases hr : nameR l i with
      | inl q => obtain ⟨s, j⟩ := q; simp only [stepS, hr, After, if_pos]
      | inr q => obtain ⟨a, b⟩ := q; simp only [stepS, hr, After, if_pos]; exact ⟨trivial, trivial, trivial, nameR_bad hr⟩
    · rw [if_neg h2, if_neg h2]
      by_cases h3 : c = 101
      · rw [if_pos h3, if_pos h3]
        cases hr : exprR l i with
        | inl q => obtain ⟨s, j⟩ := q; simp only [stepS, hr, After, if_pos]
        | inr q => obtain ⟨a, b⟩ := q; simp only [stepS, hr, After, if_pos]; exact ⟨trivial, trivial, trivial, (exprR_bad hr).1⟩
      · rw [if_neg h3, if_neg h3]
        by_cases h4 : c = 102
        · rw [if_pos h4, if_pos h4]
          cases hr : exprR l i with
          | inl q => obtain ⟨s, j⟩ := q; simp only [stepS, hr, After, if_pos]
          | inr q => obtain ⟨a, b⟩ := q; simp only [stepS, hr, After, if_pos]; exact ⟨trivial, trivial, trivial, (exprR_bad hr).1⟩
        · rw [if_neg h4, if_neg h4]
          cases hr : roundsR l i with
          | inl q => obtain ⟨s, j⟩ := q; simp only [stepS, hr, After, if_pos]
          | inr q => obtain ⟨a, b⟩ := q; simp only [stepS, hr, After, if_pos]; exact ⟨trivial, trivial, trivial, roundsR_bad hr⟩
theorem run_ahead (l : List Tok) (n : Nat) (x : St) (i : Nat) (p : Int) : match aheadR l n i with
    | .inl (u, j) => runS l ⟨x, i, 0, p⟩ (aheadS n) = ⟨x, j, 0, p⟩
    | .inr (a, b) => (runS l ⟨x, i, 0, p⟩ (aheadS n)).e = a ∧ (runS l ⟨x, i, 0, p⟩ (aheadS n)).p = b ∧ (runS l ⟨x, i, 0, p⟩ (aheadS n)).i = i ∧ ¬ a = 0 := by
  unfold aheadR aheadS
  by_cases h : n = 0
  · rw [if_pos h, if_pos h]; rfl
  · rw [if_neg h, if_neg h]
    cases hr : signR l (if n = 1 then [61] else [44]) i with
    | inl q => obtain ⟨u, j⟩ := q; simp only [runS, List.foldl, stepS, hr, After, if_pos]
    | inr q => obtain ⟨a, b⟩ := q; simp only [runS, List.foldl, stepS, hr, After, if_pos]; exact ⟨trivial, trivial, trivial, signR_bad hr⟩
theorem run_parts (l : List Tok) : ∀ (cs : List UInt8) (n : Nat) (x : St) (i : Nat) (p : Int), match partsR l cs n x i with
    | .inl (y, j) => runS l ⟨x, i, 0, p⟩ (opsOf2 cs n) = ⟨y, j, 0, p⟩
    | .inr (a, b) => (runS l ⟨x, i, 0, p⟩ (opsOf2 cs n)).e = a ∧ (runS l ⟨x, i, 0, p⟩ (opsOf2 cs n)).p = b ∧ ¬ a = 0
  | [], n, x, i, p => by unfold partsR opsOf2; rfl
  | c :: r, n, x, i, p => by
    unfold partsR opsOf2
    have ha := run_ahead l n x i p
    have happ : ∀ σ, runS l σ (aheadS n ++ (opOf c :: opsOf2 r (n + 1))) = runS l (stepS l (runS l σ (aheadS n)) (opOf c)) (opsOf2 r (n + 1)) := fun σ => by
      unfold runS; rw [List.foldl_append]; rfl
    rw [happ]
    cases hr : aheadR l n i with
    | inr q =>
      obtain ⟨a, b⟩ := q
      rw [hr] at ha
      simp only at ha ⊢
      have h1 := step_err (l := l) (σ := runS l ⟨x, i, 0, p⟩ (aheadS n)) (by rw [ha.1]; exact ha.2.2.2) (opOf c)
      have h2 := run_err (l := l) (opsOf2 r (n + 1)) (σ := stepS l (runS l ⟨x, i, 0, p⟩ (aheadS n)) (opOf c)) (by rw [h1.1, ha.1]; exact ha.2.2.2)
      exact ⟨h2.1.trans (h1.1.trans ha.1), h2.2.1.trans (h1.2.1.trans ha.2.1), ha.2.2.2⟩
    | inl q =>
      obtain ⟨u, j⟩ := q
      rw [hr] at ha
      simp only at ha ⊢
      rw [ha]
      have hp := step_part l c x j p
      cases hq : partR l c x j with
      | inr q2 =>
        obtain ⟨a, b⟩ := q2
        rw [hq] at hp
        simp only at hp ⊢
        have h2 := run_err (l := l) (opsOf2 r (n + 1)) (σ := stepS l ⟨x, j, 0, p⟩ (opOf c)) (by rw [hp.1]; exact hp.2.2.2)
        exact ⟨h2.1.trans hp.1, h2.2.1.trans hp.2.1, hp.2.2.2⟩
      | inl q2 =>
        obtain ⟨y, j2⟩ := q2
        rw [hq] at hp
        simp only at hp ⊢
        rw [hp]
        exact run_parts l r (n + 1) y j2 p
end Go.Proofs.YtaoeaaebafcegaaGreatDoor

/- Memory held apart: what stands however the blocks that are named may turn. -/
import Derived.Test.YtcgcndmlgfnjbaaGreatDoorSchE
namespace Go.Proofs.YtcgcndmlgfnjbaaGreatDoor
open Go Go.RowKit
set_option linter.unusedVariables false
/-- Q holds of w, and of whatever comes of it while only blocks of S turn -/
def Off (S : Nat → Prop) (w : World) (Q : World → Prop) : Prop := ∀ w' : World, w.heap.size ≤ w'.heap.size → (∀ k, k < w.heap.size → ¬ S k → w'.heap[k]? = w.heap[k]?) → Q w'
theorem Off.now {S : Nat → Prop} {w : World} {Q : World → Prop} (h : Off S w Q) : Q w := h w (Nat.le_refl _) (fun _ _ _ => rfl)
theorem Off.step {S S' : Nat → Prop} {w w' : World} {Q : World → Prop} (h : Off S w Q) (hs : w.heap.size ≤ w'.heap.size) (hk : ∀ k, k < w.heap.size → ¬ S k → w'.heap[k]? = w.heap[k]?) (hS : ∀ k, k < w.heap.size → S' k → S k) : Off S' w' Q :=
  fun w'' h1 h2 => h w'' (Nat.le_trans hs h1) (fun k hlt hn => (h2 k (by omega) (fun e => hn (hS k hlt e))).trans (hk k hlt hn))
theorem Off.below {S : Nat → Prop} {w w' : World} {Q : World → Prop} (h : Off S w Q) (hb : Below w.heap.size w w') : Off S w' Q :=
  h.step hb.size (fun k hk _ => hb.block k hk) (fun _ _ e => e)
theorem Off.belowB {S : Nat → Prop} {B : Nat} {w w' : World} {Q : World → Prop} (h : Off S w Q) (hb : Below B w w') (hS : ∀ k, B ≤ k → k < w.heap.size → S k) : Off S w' Q :=
  h.step hb.size (fun k hk hn => hb.block k (by
    by_cases hB : k < B
    · exact hB
    · exact absurd (hS k (by omega) hk) hn)) (fun _ _ e => e)
theorem Off.mono {S S' : Nat → Prop} {w : World} {Q : World → Prop} (h : Off S w Q) (hS : ∀ k, k < w.heap.size → S' k → S k) : Off S' w Q :=
  h.step (Nat.le_refl _) (fun _ _ _ => rfl) hS
theorem Off.imp {S : Nat → Prop} {w : World} {Q Q' : World → Prop} (h : Off S w Q) (hi : ∀ u, Q u → Q' u) : Off S w Q' := fun w' h1 h2 => hi _ (h w' h1 h2)
theorem Off.setCell {S : Nat → Prop} {w : World} {Q : World → Prop} (h : Off S w Q) (p : Addr) (hp : S p.block) (u : Value) : Off S (w.setCell p u) Q :=
  h.step (by simp [World.setCell]) (fun k _ hn => Below.heap_setCell _ _ _ _ (fun e => hn (by rw [e]; exact hp))) (fun _ _ e => e)
theorem Off.drew {S : Nat → Prop} {w : World} {Q : World → Prop} (h : Off S w Q) : Off S w.drew Q := h.step (Nat.le_refl _) (fun _ _ _ => rfl) (fun _ _ e => e)
theorem Off.grown {S : Nat → Prop} {w w' : World} {Q : World → Prop} {row : Option Nat} (h : Off S w Q) (hg : w.grownBy w' row) (hr : ∀ k, row = some k → S k) : Off S w' Q :=
  h.step hg.size (fun k hk hn => hg.block k hk (fun e => hn (hr k e.symm))) (fun _ _ e => e)
theorem sl_blocks {w w' : World} {v : Value} {size n : Nat} {xs : List Value} (h : SlN w v size n xs) (hs : w.heap.size ≤ w'.heap.size) (hk : ∀ k, k < w.heap.size → w'.heap[k]? = w.heap[k]?) : SlN w' v size n xs := by
  obtain ⟨hl, A, c, hv, hc, hf⟩ := h
  refine ⟨hl, A, c, hv, hc, fun h0 => ?_⟩
  obtain ⟨b, off, hA, hlt, hcell⟩ := hf h0
  exact ⟨b, off, hA, Nat.lt_of_lt_of_le hlt hs, fun j u hj => (World.cell?_of_block (a := ⟨b, off + j, none⟩) (hk b hlt)).trans (hcell j u hj)⟩
/-- what lies in memory now stands while only later blocks turn -/
theorem off_sl {S : Nat → Prop} {w : World} {v : Value} {size n : Nat} {xs : List Value} (h : SlN w v size n xs) (hS : ∀ k, k < w.heap.size → ¬ S k) : Off S w (fun u => SlN u v size n xs) :=
  fun w' h1 h2 => sl_blocks h h1 (fun k hk => h2 k hk (hS k hk))
theorem off_nil (S : Nat → Prop) (w : World) (size : Nat) (c : Nat) : Off S w (fun u => SlN u (.slice none 0 c) size 0 []) := fun w' _ _ => ⟨by simp, none, c, rfl, Nat.zero_le _, fun h => absurd h (by omega)⟩
/-- a row of one's own stands while its block does not turn -/
theorem off_own {S : Nat → Prop} {w : World} {base : Nat} {e : TypeId} {v : Value} {size n : Nat} {xs : List Value} (h : w.ownsRow base e size v n xs) (hS : ∀ k, v.ownBlock = some k → ¬ S k) : Off S w (fun u => SlN u v size n xs) := fun w' h1 h2 => by
  have hs := sl_of_own h
  obtain ⟨hl, A, c, hv, hc, hf⟩ := hs
  refine ⟨hl, A, c, hv, hc, fun h0 => ?_⟩
  obtain ⟨b, off, hA, hlt, hcell⟩ := hf h0
  refine ⟨b, off, hA, Nat.lt_of_lt_of_le hlt h1, fun j u hj => ?_⟩
  have hb : v.ownBlock = some b := by rw [hv, hA]; rfl
  exact (World.cell?_of_block (a := ⟨b, off + j, none⟩) (h2 b hlt (hS b hb))).trans (hcell j u hj)
/-- the blocks that lay below n -/
def Old (n : Nat) : Nat → Prop := fun k => k < n
def ownS (v : Value) : Nat → Prop := fun k => v.ownBlock = some k
end Go.Proofs.YtcgcndmlgfnjbaaGreatDoor

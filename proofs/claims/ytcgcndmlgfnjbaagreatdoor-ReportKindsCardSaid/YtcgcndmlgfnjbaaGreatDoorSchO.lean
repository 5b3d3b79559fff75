/- A range over the lines of a text: one law for a body that leaves the iterator's variable alone. -/
import Derived.Test.YtcgcndmlgfnjbaaGreatDoorSchN
namespace Go.Proofs.YtcgcndmlgfnjbaaGreatDoor
open Go Go.RowKit Go.Shelf
set_option linter.unusedVariables false
attribute [local go_sem] Oper.semAt_some
/-- only blocks of X have turned -/
structure Turn (X : Nat → Prop) (W W' : World) : Prop where
  os : W'.os = W.os
  tape : W'.tape = W.tape
  output : W'.output = W.output
  size : W.heap.size ≤ W'.heap.size
  block : ∀ k, k < W.heap.size → ¬ X k → W'.heap[k]? = W.heap[k]?
theorem Turn.putObj {X : Nat → Prop} (W : World) {r : Nat} (h : X r) (o : Obj) : Turn X W (W.putObj r o) :=
  ⟨rfl, rfl, rfl, by simp, fun k _ hk => World.putObj_heap_other (fun e => hk (by rw [e]; exact h))⟩
theorem Turn.setCell {X : Nat → Prop} (W : World) {b o : Nat} (h : X b) (u : Value) : Turn X W (W.setCell ⟨b, o, none⟩ u) :=
  ⟨rfl, rfl, rfl, by simp [World.setCell], fun k _ hk => Below.heap_setCell _ _ _ _ (fun e => hk (by rw [e]; exact h))⟩
theorem Turn.drew {X : Nat → Prop} (W : World) : Turn X W W.drew := ⟨rfl, rfl, rfl, Nat.le_refl _, fun _ _ _ => rfl⟩
/-- the three blocks that the loop itself needs: the iterator's variable, the deferred calls' block, the record -/
def Three (Bs D : Nat) : Nat → Prop := fun k => k = Bs ∨ k = D ∨ k = D + 1
def linPost (Bs D : Nat) (I : List (List UInt8) → World → Prop) (Ix : World → Prop) (xs : List (List UInt8)) (W : World) : Exit → Act → World → Prop
  | .normal, _, W' => (∀ k, Three Bs D k → W'.heap[k]? = W.heap[k]?) ∧ I xs W'
  | .ret, _, W' => (∀ k, Three Bs D k → W'.heap[k]? = W.heap[k]?) ∧ Ix W'
  | _, _, _ => False
theorem range_lines {g : Operand} {ps : Array Tmp} {assign body : Code} {Q : Exit → Act → World → Prop} {a : Act} {w : World} (n : Nat) (hn : 2 ≤ n) (Bs : Nat)
    (hg : a.eval g = .func (.func 94) #[] #[.pointer (some ⟨Bs, 0, none⟩)]) (hps : ps.size = 1) (s : List UInt8) (hs : s.length ≤ 1000000)
    (hc : w.cell? ⟨Bs, 0, none⟩ = some (.string (str s))) (hf : w.frozen? ⟨Bs, 0, none⟩ = false) (hB : Bs < w.heap.size)
    (I : List (List UInt8) → World → Prop) (Ix : World → Prop)
    (hI : ∀ pre W W', I pre W → Turn (Three Bs w.heap.size) W W' → I pre W') (hIx : ∀ W W', Ix W → Turn (Three Bs w.heap.size) W W' → Ix W')
    (h0 : ∀ o1 o2, I [] ((w.alloc o1).alloc o2)) (a₁ : List UInt8 → Act)
    (hassign : ∀ (x : List UInt8) (W : World) (K : Act → World → Prop), K (a₁ x) W →
      assign.wpIn (Fence.wide.inRound (w.heap.size + 1)) (n - 1 - 1) Tryz.prog (Exit.then K (fun _ _ _ => False)) { tmps := (ps.zip #[.string (str x)]).foldl (fun t (p, v) => t.setIfInBounds p v) a.tmps, defers := [] } W)
    (hbody : ∀ (pre : List (List UInt8)) (x : List UInt8) (W : World), (pre ++ [x]) <+: linesK s → I pre W → w.heap.size + 1 < W.heap.size →
      body.wpIn (Fence.wide.inRound (w.heap.size + 1)) (n - 1 - 1) Tryz.prog (linPost Bs w.heap.size I Ix (pre ++ [x]) W) (a₁ x) W)
    (hdone : ∀ W, I (linesK s) W → W.heap[w.heap.size]? = some (.deferred (some [])) → w.heap.size + 1 < W.heap.size → Q .normal { a with defers := { target := .collected w.heap.size, args := #[] } :: a.defers } W)
    (hstop : ∀ W, Ix W → W.heap[w.heap.size]? = some (.deferred (some [])) → w.heap.size + 1 < W.heap.size → Code.ret.wpIn Fence.wide n Tryz.prog Q { a with defers := { target := .collected w.heap.size, args := #[] } :: a.defers } W) :
    (Code.rangeFunc g ps assign body).wpIn Fence.wide n Tryz.prog Q a w := by
  refine wpIn_rangeFunc fun fn _ => ?_
  show ∃ _, _
  obtain ⟨rec, hrec⟩ : ∃ rec : LoopState → Option Code → Loop, rec = fun st pe => { state := st, pending := pe, fn, tmps := a.tmps, params := ps, assign, body, defers := w.heap.size } := ⟨_, rfl⟩
  obtain ⟨W1, hW1⟩ : ∃ W1, (w.alloc (.deferred (some []))).alloc (.loop (rec .ready none)) = W1 := ⟨_, rfl⟩
  have hL1 : W1.heap[w.heap.size + 1]? = some (.loop (rec .ready none)) := by
    rw [← hW1]; have := World.alloc_heap_new (w.alloc (.deferred (some []))) (.loop (rec .ready none)); rwa [World.size_alloc] at this
  have hK1 : W1.heap[w.heap.size]? = some (.deferred (some [])) := by
    rw [← hW1]; exact (Below.heap_alloc _ _ _ (by simp)).trans (World.alloc_heap_new w _)
  have hb1 : Below w.heap.size w W1 := by rw [← hW1]; exact balloc (al w _) _
  have hD : ∀ st pe, (Obj.loop (rec st pe)).isCells = false := fun _ _ => rfl
  refine ⟨w.heap.size + 1, [{ target := .collected w.heap.size, args := #[] }], W1, { target := .fn (.func 94) #[.pointer (some ⟨Bs, 0, none⟩)], args := #[.func (.yield (w.heap.size + 1)) #[] #[]] }, W1, 94,
    #[.func (.yield (w.heap.size + 1)) #[] #[]] ++ #[.pointer (some ⟨Bs, 0, none⟩)], W1, ?_, ?_, ?_, ?_, fun _ => by omega, ?_⟩
  · rw [← hW1, hrec]; exact run_enterLoop_outer _ _ _ _ _
  · simp only [resolve, hg]
    simp [go_sem]
  · intro f' _; trivial
  · have eg : ∀ args w, (callFunc 94 args).run Tryz.prog w = .ok (.enter 94 args) w := enters_of Tryz.func94 (by kernel_rfl) rfl
    simp [invoke, go_sem, eg]
  · have hfin : ∀ (W : World) (st : LoopState) (pe : Option Code), st ≠ .busy → W.heap[w.heap.size + 1]? = some (.loop (rec st pe)) → W.heap[w.heap.size]? = some (.deferred (some [])) →
        ∃ o, (Instr.endLoop (w.heap.size + 1)).run Tryz.prog W = .ok pe (W.putObj (w.heap.size + 1) o) ∧ (W.putObj (w.heap.size + 1) o).heap[w.heap.size]? = some (.deferred (some [])) := fun W st pe hst hl hk => by
      have h := run_endLoop (P := Tryz.prog) hl (by rw [hrec]; exact hst)
      have e : (rec st pe).pending = pe := by rw [hrec]
      exact ⟨_, by rw [h, e], (World.putObj_heap_other (by omega)).trans hk⟩
    refine (lines1_in (n - 1) (by omega) (w.heap.size + 1) Bs s hs
      (fun pre W => I pre W ∧ W.heap[w.heap.size + 1]? = some (.loop (rec .ready none)) ∧ W.heap[w.heap.size]? = some (.deferred (some [])))
      (fun _ W => Ix W ∧ W.heap[w.heap.size + 1]? = some (.loop (rec .done (some .ret))) ∧ W.heap[w.heap.size]? = some (.deferred (some [])))
      (fun pre W u h => ⟨hI _ _ _ h.1 (Turn.setCell W (.inl rfl) u), (Below.heap_setCell _ _ _ _ (by show _ ≠ Bs; omega)).trans h.2.1, (Below.heap_setCell _ _ _ _ (by show _ ≠ Bs; omega)).trans h.2.2⟩)
      (fun pre W h => ⟨hI _ _ _ h.1 (Turn.drew W), h.2.1, h.2.2⟩)
      ?_ W1 ((hb1.cell (p := ⟨Bs, 0, none⟩) hB).trans hc) ((hb1.frozen (p := ⟨Bs, 0, none⟩) hB).trans hf) ⟨by rw [← hW1]; exact h0 _ _, hL1, hK1⟩).mono ?_
    · rintro pre x W hpre ⟨hi, hl, hk⟩
      have hlt : w.heap.size + 1 < W.heap.size := (Array.getElem?_eq_some_iff.1 hl).1
      have hy := run_yield (P := Tryz.prog) (args := #[.string (str x)]) hl (by rw [hrec]; exact hps.symm)
      rw [hrec] at hy
      refine ⟨fn, _, assign, body, hy, roundIn_of_wpIn trivial (hassign x W _ ⟨_, run_beginRound hl (by rw [hrec]), ?_⟩)⟩
      have hl2 : (W.putObj (w.heap.size + 1) (.loop { rec .ready none with state := .busy })).heap[w.heap.size + 1]? = some (.loop { rec .ready none with state := .busy }) := World.putObj_heap_same hlt
      have hk2 : (W.putObj (w.heap.size + 1) (.loop { rec .ready none with state := .busy })).heap[w.heap.size]? = some (.deferred (some [])) := (World.putObj_heap_other (by omega)).trans hk
      have hc2 : (W.putObj (w.heap.size + 1) (.loop { rec .ready none with state := .busy })).heap[Bs]? = W.heap[Bs]? := World.putObj_heap_other (by omega)
      refine wpIn_mono (hbody pre x _ hpre (hI _ _ _ hi (Turn.putObj W (.inr (.inr rfl)) _)) (by simpa using hlt)) ?_
      rintro e a3 W3 hp
      cases e with
      | normal =>
        obtain ⟨hk3, hi3⟩ := hp
        have hl3 := (hk3 _ (.inr (.inr rfl))).trans hl2
        have hr := run_endRound (P := Tryz.prog) none hl3
        refine ⟨_, _, hr, .inl ⟨rfl, ⟨hI _ _ _ hi3 (Turn.putObj W3 (.inr (.inr rfl)) _), ?_, (World.putObj_heap_other (by omega)).trans ((hk3 _ (.inr (.inl rfl))).trans hk2)⟩, ?_, ?_⟩⟩
        · rw [World.putObj_heap_same (Array.getElem?_eq_some_iff.1 hl3).1, hrec]; rfl
        · exact World.cell?_of_block (a := ⟨Bs, 0, none⟩) ((World.putObj_heap_other (by show Bs ≠ _; omega)).trans ((hk3 _ (.inl rfl)).trans hc2))
        · exact World.frozen?_of_block (a := ⟨Bs, 0, none⟩) ((World.putObj_heap_other (by show Bs ≠ _; omega)).trans ((hk3 _ (.inl rfl)).trans hc2))
      | ret =>
        obtain ⟨hk3, hi3⟩ := hp
        have hl3 := (hk3 _ (.inr (.inr rfl))).trans hl2
        have hr := run_endRound (P := Tryz.prog) (some .ret) hl3
        refine ⟨_, _, hr, .inr ⟨rfl, hIx _ _ hi3 (Turn.putObj W3 (.inr (.inr rfl)) _), ?_, (World.putObj_heap_other (by omega)).trans ((hk3 _ (.inr (.inl rfl))).trans hk2)⟩⟩
        rw [World.putObj_heap_same (Array.getElem?_eq_some_iff.1 hl3).1, hrec]; rfl
      | exit id => exact hp.elim
      | goto t => exact hp.elim
      | panic ch => exact hp.elim
      | outgrown => exact hp.elim
    · rintro e W2 ⟨⟨v, rfl⟩, (⟨hi, hl, hk⟩ | ⟨pre, hpre, hi, hl, hk⟩)⟩
      · obtain ⟨o, h1, h2⟩ := hfin W2 .ready none (by simp) hl hk
        exact ⟨none, _, h1, hdone _ (hI _ _ _ hi (Turn.putObj W2 (.inr (.inr rfl)) _)) h2 (by have := (Array.getElem?_eq_some_iff.1 hl).1; simpa using this)⟩
      · obtain ⟨o, h1, h2⟩ := hfin W2 .done (some .ret) (by simp) hl hk
        exact ⟨some .ret, _, h1, hstop _ (hIx _ _ hi (Turn.putObj W2 (.inr (.inr rfl)) _)) h2 (by have := (Array.getElem?_eq_some_iff.1 hl).1; simpa using this)⟩
end Go.Proofs.YtcgcndmlgfnjbaaGreatDoor

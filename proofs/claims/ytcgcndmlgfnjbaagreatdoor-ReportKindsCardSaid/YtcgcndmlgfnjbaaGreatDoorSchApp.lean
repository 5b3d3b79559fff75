/- Appends to rows of the call's own, and what lies beside them. -/
import Derived.Test.YtcgcndmlgfnjbaaGreatDoorSchOff
import Derived.Maps.AppendAt
namespace Go.Proofs.YtcgcndmlgfnjbaaGreatDoor
open Go Go.RowKit
set_option linter.unusedVariables false
/-- a row of the call's own grows: where it lies then -/
theorem wpl_appO {P : Program} {w : World} {ops : Array Oper} {rest : List Oper} {o : Oper} {a : Act} {Q : Exit → Act → World → Prop} (hgd : o.guard = none) (s x : Operand) (t : TypeId)
    (ho : o.op = .call { callee := .builtin .append, args := #[s, x], argTypes := #[t, t] })
    (base : Nat) (e : TypeId) (i : TypeInfo) (z : Value) (size bytes : Nat) (ht : P.underlying t = some (.slice e)) (hi : P.info? e = some i) (hz : i.zero = some z)
    (hsize : i.size = size) (hby : i.bytes = bytes) (hzs : z.cells.size = size) (hsz : 0 < size)
    (v : Value) (n : Nat) (xs : List Value) (hs : a.eval s = v) (hown : w.ownsRow base e size v n xs)
    (u : Value) (m : Nat) (news : List Value) (hx : a.eval x = u) (hu : SlN w u size m news) (h1 : ∀ u ∈ news, u.oneCell' = true)
    (h63 : n + m ≤ maxLen) (hbytes : (n + m) * bytes ≤ 140737488355328) (hbase : base ≤ w.heap.size)
    (h : ∀ v' w', w'.ownsRow base e size v' (n + m) (xs ++ news) → Below base w w' → w.grownBy w' v.ownBlock → (v'.ownBlock = v.ownBlock ∨ v'.ownBlock = some w.heap.size) → wpList P ops Q rest (a.put o.dst v') w') : wpList P ops Q (o :: rest) a w := by
  obtain ⟨hl, A, c, rfl, hc, hf⟩ := hu
  have hgo : ∀ (ad : Addr), A = some ad → (∀ j x, news[j]? = some x → w.cell? (ad.add j) = some x) → wpList P ops Q (o :: rest) a w := fun ad hA hnews => by
    subst hA
    refine wpList_append_own_at w hgd s x t ho base e i z size bytes ht hi hz hsize hby hzs hsz v n xs hs hown ad m c news hx hl hnews h1 h63 hbytes hbase ?_
    intro v' w' h2 h3 _ h5
    exact h v' w' h2 ((Below.refl _ _).grown h3 hbase (fun g hg => (hown.lt g hg).1)) h3 h5
  by_cases hm : 0 < m
  · obtain ⟨b, off, hA, hlt, hcell⟩ := hf hm
    refine hgo _ hA fun j x hj => ?_
    have := hcell j x hj
    have e : (⟨b, off, none⟩ : Addr).add j = ⟨b, off + j, none⟩ := by
      unfold Addr.add
      split
      · rename_i h0; subst h0; rfl
      · rfl
    rw [e]; exact this
  · obtain rfl : m = 0 := by omega
    obtain rfl : news = [] := List.eq_nil_of_length_eq_zero (by rw [hl]; omega)
    cases A with
    | some ad => exact hgo ad rfl (by simp)
    | none =>
      refine wpList_plain hgd fun K hK => ?_
      have hrun := run_app_none (P := P) w base t o.type e i size ht hi v n c xs hown
      unfold Oper.wp
      simp [execOp, ho, resolve, invoke, builtin, hs, hx, hrun, Result.andThen]
      refine hK _ _ (h v w ?_ (Below.refl _ _) ⟨rfl, rfl, rfl, Nat.le_refl _, fun _ _ _ => rfl⟩ (.inl rfl))
      simpa using hown
theorem Off.app {v v' : Value} {w w' : World} {Q : World → Prop} (h : Off (ownS v) w Q) (hg : w.grownBy w' v.ownBlock) (hat : v'.ownBlock = v.ownBlock ∨ v'.ownBlock = some w.heap.size) : Off (ownS v') w' Q :=
  h.step hg.size (fun k hk hn => hg.block k hk (fun e => hn e.symm)) (fun k hk (e : v'.ownBlock = some k) => by
    rcases hat with h1 | h1
    · exact h1.symm.trans e
    · rw [h1] at e; injection e with e; omega)
/-- the same beside other blocks -/
theorem Off.app2 {T : Nat → Prop} {v v' : Value} {w w' : World} {Q : World → Prop} (h : Off (fun k => v.ownBlock = some k ∨ T k) w Q) (hg : w.grownBy w' v.ownBlock) (hat : v'.ownBlock = v.ownBlock ∨ v'.ownBlock = some w.heap.size) : Off (fun k => v'.ownBlock = some k ∨ T k) w' Q :=
  h.step hg.size (fun k hk hn => hg.block k hk (fun e => hn (.inl e.symm))) (fun k hk e => by
    rcases e with e | e
    · rcases hat with h1 | h1
      · exact .inl (h1.symm.trans e)
      · rw [h1] at e; injection e with e; omega
    · exact .inr e)
end Go.Proofs.YtcgcndmlgfnjbaaGreatDoor

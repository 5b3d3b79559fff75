/- Parsing: rows that grow, the small functions of the reference. -/
import Derived.Test.YtahdfglelhdcnaaDoorParPlain
import Derived.Test.YtahdfglelhdcnaaDoorNodA
import Derived.Test.YtahdfglelhdcnaaDoorRScanC
import Derived.Maps.AppendAt
namespace Go.Proofs.YtahdfglelhdcnaaDoor
open Go Go.RowKit
set_option linter.unusedVariables false
theorem run_app_none {P : Program} (w : World) (base : Nat) (t ty e : TypeId) (i : TypeInfo) (size : Nat) (ht : P.underlying t = some (.slice e)) (hi : P.info? e = some i)
    (v : Value) (n c : Nat) (xs : List Value) (hown : w.ownsRow base e size v n xs) :
    (Builtin.append_ #[t, t] ty #[v, .slice none 0 c]).run P w = .ok v w := by
  rcases hown.2 with ⟨rfl, rfl⟩ | ⟨g, cap, cur, rfl, _, _, hnc, _⟩
  · simp [Builtin.append_, run_underlying ht, sizeOf, typeInfo, hi, Builtin.lenOf, Builtin.firstCells]
  · simp [Builtin.append_, run_underlying ht, sizeOf, typeInfo, hi, Builtin.lenOf, Builtin.firstCells, hnc, storeCells]
/-- a row of the call's own grows by what any readable slice holds -/
theorem wpl_app {P : Program} {w : World} {ops : Array Oper} {rest : List Oper} {o : Oper} {a : Act} {Q : Exit → Act → World → Prop} (hgd : o.guard = none) (s x : Operand) (t : TypeId)
    (ho : o.op = .call { callee := .builtin .append, args := #[s, x], argTypes := #[t, t] })
    (base : Nat) (e : TypeId) (i : TypeInfo) (z : Value) (size bytes : Nat) (ht : P.underlying t = some (.slice e)) (hi : P.info? e = some i) (hz : i.zero = some z)
    (hsize : i.size = size) (hby : i.bytes = bytes) (hzs : z.cells.size = size) (hsz : 0 < size)
    (v : Value) (n : Nat) (xs : List Value) (hs : a.eval s = v) (hown : w.ownsRow base e size v n xs)
    (u : Value) (m : Nat) (news : List Value) (hx : a.eval x = u) (hu : SlN w u size m news) (h1 : ∀ u ∈ news, u.oneCell' = true)
    (h63 : n + m ≤ maxLen) (hbytes : (n + m) * bytes ≤ 140737488355328) (hbase : base ≤ w.heap.size)
    (h : ∀ v' w', w'.ownsRow base e size v' (n + m) (xs ++ news) → Below base w w' → wpList P ops Q rest (a.put o.dst v') w') : wpList P ops Q (o :: rest) a w := by
  obtain ⟨hl, A, c, rfl, hc, hf⟩ := hu
  have hgo : ∀ (ad : Addr), A = some ad → (∀ j x, news[j]? = some x → w.cell? (ad.add j) = some x) → wpList P ops Q (o :: rest) a w := fun ad hA hnews => by
    subst hA
    refine wpList_append_own w hgd s x t ho base e i z size bytes ht hi hz hsize hby hzs hsz v n xs hs hown ad m c news hx hl hnews h1 h63 hbytes hbase ?_
    intro v' w' h2 h3 _
    exact h v' w' h2 ((Below.refl _ _).grown h3 hbase (fun g hg => (hown.lt g hg).1))
  by_cases hm : 0 < m
  · obtain ⟨b, off, hA, hlt, hcell⟩ := hf hm
    refine hgo _ hA fun j x hj => ?_
    have := hcell j x hj
    have e : (⟨b, off, none⟩ : Addr).add j = ⟨b, off + j, none⟩ := by
      unfold Addr.add
      split
      · rename_i h0; subst h0; rfl
      · rfl
    rw [e]; exact this
  · obtain rfl : m = 0 := by omega
    obtain rfl : news = [] := List.eq_nil_of_length_eq_zero (by rw [hl]; omega)
    cases A with
    | some ad => exact hgo ad rfl (by simp)
    | none =>
      refine wpList_plain hgd fun K hK => ?_
      have hrun := run_app_none (P := P) w base t o.type e i size ht hi v n c xs hown
      unfold Oper.wp
      simp [execOp, ho, resolve, invoke, builtin, hs, hx, hrun, Result.andThen]
      refine hK _ _ (h v w ?_ (Below.refl _ _))
      simpa using hown
theorem info_nod : (Tryd.prog.info? 30).map (fun i => (i.zero, i.size, i.bytes)) = some (some (.agg #[.int .i64 0, .int .i64 0, .string ByteArray.empty, .int .i64 0]), 4, 40) := by kernel_rfl
theorem nod_one (l : List Nod) : ∀ u ∈ l.flatMap Nod.cells, u.oneCell' = true := by
  intro u hu
  obtain ⟨x, _, hx⟩ := List.mem_flatMap.1 hu
  simp only [Nod.cells, List.mem_cons, List.not_mem_nil, or_false] at hx
  rcases hx with rfl | rfl | rfl | rfl <;> rfl
/-- a fresh row of one node -/
theorem own_nod (w : World) (base : Nat) (hb : base ≤ w.heap.size) (x : Nod) :
    (w.alloc (.cells #[.int .i64 x.op, .int .i64 x.n, .string (str x.name), .int .i64 x.pos] 30)).ownsRow base 30 4 (.slice (some ⟨w.heap.size, 0, none⟩) 1 1) 1 ([x].flatMap Nod.cells) :=
  World.ownsRow_lit w #[.int .i64 x.op, .int .i64 x.n, .string (str x.name), .int .i64 x.pos] 1 hb (by decide) rfl
/-- whole numbers in a slice -/
def intCell (n : Nat) : List Value := [.int .i64 (n : Int)]
abbrev Ints (w : World) (v : Value) (l : List Nat) : Prop := SlN w v 1 l.length (l.flatMap intCell)
theorem Ints.at_ {w : World} {v : Value} {l : List Nat} (h : Ints w v l) (h0 : 0 < l.length) :
    ∃ b off c, v = .slice (some ⟨b, off, none⟩) l.length c ∧ l.length ≤ c ∧ b < w.heap.size ∧ ∀ i (hi : i < l.length), w.cell? ⟨b, off + i, none⟩ = some (.int .i64 (l[i] : Int)) := by
  obtain ⟨_, A, c, hv, hc, hf⟩ := h
  obtain ⟨b, off, hA, hlt, hcell⟩ := hf h0
  subst hA
  refine ⟨b, off, c, hv, hc, hlt, fun i hi => ?_⟩
  have hg := flat_getElem intCell 1 (fun _ => rfl) l i 0 hi (by omega)
  have := hcell (i * 1 + 0) _ hg
  rw [show off + (i * 1 + 0) = off + i by omega] at this
  exact this
theorem Strs.at_ {w : World} {v : Value} {l : List (List UInt8)} (h : Strs w v l) (h0 : 0 < l.length) :
    ∃ b off c, v = .slice (some ⟨b, off, none⟩) l.length c ∧ l.length ≤ c ∧ b < w.heap.size ∧ ∀ i (hi : i < l.length), w.cell? ⟨b, off + i, none⟩ = some (.string (str l[i])) := by
  obtain ⟨_, A, c, hv, hc, hf⟩ := h
  obtain ⟨b, off, hA, hlt, hcell⟩ := hf h0
  subst hA
  refine ⟨b, off, c, hv, hc, hlt, fun i hi => ?_⟩
  have hg := flat_getElem strCell 1 (fun _ => rfl) l i 0 hi (by omega)
  have := hcell (i * 1 + 0) _ hg
  rw [show off + (i * 1 + 0) = off + i by omega] at this
  exact this
/-- the cells of a fresh block -/
theorem cells_new (w : World) (cs : Array Value) (t : TypeId) (j : Nat) (u : Value) (h : cs[j]? = some u) : (w.alloc (.cells cs t)).cell? ⟨w.heap.size, j, none⟩ = some u := by
  rw [World.cell?_alloc_new, h]
theorem sl_lit (w : World) (cs : List Value) (t : TypeId) (size n c : Nat) (hl : cs.length = n * size) (hc : n ≤ c) : SlN (w.alloc (.cells cs.toArray t)) (.slice (some ⟨w.heap.size, 0, none⟩) n c) size n cs := by
  refine ⟨hl, _, c, rfl, hc, fun _ => ⟨w.heap.size, 0, rfl, by rw [World.size_alloc]; omega, fun j u hj => ?_⟩⟩
  rw [Nat.zero_add]
  exact cells_new w cs.toArray t j u (by simpa using hj)
end Go.Proofs.YtahdfglelhdcnaaDoor

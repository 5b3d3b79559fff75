/- Helpers: appends, fresh blocks, what stands. -/
import Derived.Test.YtcgcndmlgfnjbaaGreatDoorMem
import Derived.Test.YtcgcndmlgfnjbaaGreatDoorEnv0
import Derived.OwnWalk
import Derived.Maps.AppendAt
import Derived.WalkKit
import Derived.WalkSpells
namespace Go.Proofs.YtcgcndmlgfnjbaaGreatDoor
open Go Go.RowKit
set_option linter.unusedVariables false
theorem run_app_none {P : Program} (w : World) (base : Nat) (t ty e : TypeId) (i : TypeInfo) (size : Nat) (ht : P.underlying t = some (.slice e)) (hi : P.info? e = some i)
    (v : Value) (n c : Nat) (xs : List Value) (hown : w.ownsRow base e size v n xs) :
    (Builtin.append_ #[t, t] ty #[v, .slice none 0 c]).run P w = .ok v w := by
  rcases hown.2 with ⟨rfl, rfl⟩ | ⟨g, cap, cur, rfl, _, _, hnc, _⟩
  · simp [Builtin.append_, run_underlying ht, sizeOf, typeInfo, hi, Builtin.lenOf, Builtin.firstCells]
  · simp [Builtin.append_, run_underlying ht, sizeOf, typeInfo, hi, Builtin.lenOf, Builtin.firstCells, hnc, storeCells]
/-- a row of the call's own grows by what any readable slice holds -/
theorem wpl_app {P : Program} {w : World} {ops : Array Oper} {rest : List Oper} {o : Oper} {a : Act} {Q : Exit → Act → World → Prop} (hgd : o.guard = none) (s x : Operand) (t : TypeId)
    (ho : o.op = .call { callee := .builtin .append, args := #[s, x], argTypes := #[t, t] })
    (base : Nat) (e : TypeId) (i : TypeInfo) (z : Value) (size bytes : Nat) (ht : P.underlying t = some (.slice e)) (hi : P.info? e = some i) (hz : i.zero = some z)
    (hsize : i.size = size) (hby : i.bytes = bytes) (hzs : z.cells.size = size) (hsz : 0 < size)
    (v : Value) (n : Nat) (xs : List Value) (hs : a.eval s = v) (hown : w.ownsRow base e size v n xs)
    (u : Value) (m : Nat) (news : List Value) (hx : a.eval x = u) (hu : SlN w u size m news) (h1 : ∀ u ∈ news, u.oneCell' = true)
    (h63 : n + m ≤ maxLen) (hbytes : (n + m) * bytes ≤ 140737488355328) (hbase : base ≤ w.heap.size)
    (h : ∀ v' w', w'.ownsRow base e size v' (n + m) (xs ++ news) → Below base w w' → wpList P ops Q rest (a.put o.dst v') w') : wpList P ops Q (o :: rest) a w := by
  obtain ⟨hl, A, c, rfl, hc, hf⟩ := hu
  have hgo : ∀ (ad : Addr), A = some ad → (∀ j x, news[j]? = some x → w.cell? (ad.add j) = some x) → wpList P ops Q (o :: rest) a w := fun ad hA hnews => by
    subst hA
    refine wpList_append_own w hgd s x t ho base e i z size bytes ht hi hz hsize hby hzs hsz v n xs hs hown ad m c news hx hl hnews h1 h63 hbytes hbase ?_
    intro v' w' h2 h3 _
    exact h v' w' h2 ((Below.refl _ _).grown h3 hbase (fun g hg => (hown.lt g hg).1))
  by_cases hm : 0 < m
  · obtain ⟨b, off, hA, hlt, hcell⟩ := hf hm
    refine hgo _ hA fun j x hj => ?_
    have := hcell j x hj
    have e : (⟨b, off, none⟩ : Addr).add j = ⟨b, off + j, none⟩ := by
      unfold Addr.add
      split
      · rename_i h0; subst h0; rfl
      · rfl
    rw [e]; exact this
  · obtain rfl : m = 0 := by omega
    obtain rfl : news = [] := List.eq_nil_of_length_eq_zero (by rw [hl]; omega)
    cases A with
    | some ad => exact hgo ad rfl (by simp)
    | none =>
      refine wpList_plain hgd fun K hK => ?_
      have hrun := run_app_none (P := P) w base t o.type e i size ht hi v n c xs hown
      unfold Oper.wp
      simp [execOp, ho, resolve, invoke, builtin, hs, hx, hrun, Result.andThen]
      refine hK _ _ (h v w ?_ (Below.refl _ _))
      simpa using hown
/-- the cells of a fresh block -/
theorem cells_new (w : World) (cs : Array Value) (t : TypeId) (j : Nat) (u : Value) (h : cs[j]? = some u) : (w.alloc (.cells cs t)).cell? ⟨w.heap.size, j, none⟩ = some u := by
  rw [World.cell?_alloc_new, h]
theorem sl_lit (w : World) (cs : List Value) (t : TypeId) (size n c : Nat) (hl : cs.length = n * size) (hc : n ≤ c) : SlN (w.alloc (.cells cs.toArray t)) (.slice (some ⟨w.heap.size, 0, none⟩) n c) size n cs := by
  refine ⟨hl, _, c, rfl, hc, fun _ => ⟨w.heap.size, 0, rfl, by rw [World.size_alloc]; omega, fun j u hj => ?_⟩⟩
  rw [Nat.zero_add]
  exact cells_new w cs.toArray t j u (by simpa using hj)
theorem al (w : World) (o : Obj) : Below w.heap.size w (w.alloc o) := (Below.refl _ _).alloc (Nat.le_refl _) _
theorem balloc {a b : World} (h : Below a.heap.size a b) (o : Obj) : Below a.heap.size a (b.alloc o) := h.alloc h.size o
theorem btB {B C : Nat} {a b c : World} (h : Below B a b) (k : Below C b c) (hle : B ≤ C) : Below B a c := h.trans (k.mono hle)
theorem own_shape {w : World} {base : Nat} {e : TypeId} {size : Nat} {v : Value} {n : Nat} {xs : List Value} (h : w.ownsRow base e size v n xs) : ∃ A c, v = .slice A n c := by
  rcases h.2 with ⟨rfl, rfl⟩ | ⟨g, cap, cur, rfl, _⟩
  · exact ⟨_, _, rfl⟩
  · exact ⟨_, _, rfl⟩
theorem own_empty (w : World) (t : TypeId) (size : Nat) (hs : 0 < size) : (w.alloc (.cells #[] t)).ownsRow w.heap.size t size (.slice (some ⟨w.heap.size, 0, none⟩) 0 0) 0 [] :=
  World.ownsRow_lit w #[] 0 (Nat.le_refl _) (Nat.zero_le _) (by simp)
def Yes (w : World) (e : Ending) (w' : World) : Prop := e = .returned (.bool true) ∧ Below w.heap.size w w'
theorem cut_size (s : ByteArray) (n : Nat) : (s.extract 0 (min (s.size : Int) n).toNat).size ≤ n := by
  rw [ByteArray.size_extract]; omega
theorem data_len (s : ByteArray) : s.data.toList.length = s.size := by rw [Array.length_toList]; rfl
theorem extract_toList (s : ByteArray) (a b : Nat) : (s.extract a b).toList = (s.data.toList.drop a).take (b - a) := by
  rw [ByteArray.toList_eq, ByteArray.data_extract, Array.toList_extract, List.extract_eq_take_drop]
theorem str_ext (s : ByteArray) (n : Nat) : s.extract 0 n = str (s.data.toList.take n) := by
  rw [← str_of (s.extract 0 n)]
  congr 1
  rw [← ByteArray.toList_eq, extract_toList]
  simp
end Go.Proofs.YtcgcndmlgfnjbaaGreatDoor

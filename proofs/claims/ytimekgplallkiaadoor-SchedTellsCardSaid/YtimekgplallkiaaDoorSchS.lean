/- The parts of a schedule between its crashes: memory, the reference's walk. -/
import Derived.Test.YtimekgplallkiaaDoorSchR
import Derived.Test.YtimekgplallkiaaDoorSchM
namespace Go.Proofs.YtimekgplallkiaaDoor
open Go Go.RowKit
set_option linter.unusedVariables false
theorem pushK_snoc (p : Pk) : ∀ (a : List (List Pk)) (b : List Pk), pushK p (a ++ [b]) = a ++ [b ++ [p]]
  | [], b => rfl
  | [x], b => rfl
  | x :: y :: r, b => by
    show x :: pushK p ((y :: r) ++ [b]) = _
    rw [pushK_snoc p (y :: r) b]; rfl
theorem cuts_take (l : List Pk) (j : Nat) (h : j < l.length) : cutsK (l.take (j + 1)) = if l[j].kind = 3 then cutsK (l.take j) ++ [[]] else pushK l[j] (cutsK (l.take j)) := by
  rw [List.take_succ_eq_append_getElem h, cuts_snoc]
theorem info_picks : (Tryd.prog.info? 22).map (fun i => (i.zero, i.size, i.bytes)) = some (some (.slice none 0 0), 1, 24) := by kernel_rfl
theorem own_some {w : World} {base : Nat} {e : TypeId} {size : Nat} {v : Value} {n : Nat} {xs : List Value} (h : w.ownsRow base e size v n xs) (h0 : 0 < n) : ∃ g c, v = .slice (some ⟨g, 0, none⟩) n c ∧ base ≤ g ∧ g < w.heap.size := by
  rcases h.2 with ⟨rfl, rfl⟩ | ⟨g, cap, cur, rfl, hg, _⟩
  · omega
  · exact ⟨g, cap, rfl, hg, (h.lt g rfl).2⟩
theorem off_pks {S : Nat → Prop} {w : World} {v : Value} {pl : List Pv} (h : Off S w (fun u => SlN u v 4 pl.length (pl.flatMap Pv.cells))) (hc : ∀ x ∈ pl, Off S w (fun u => Zs u x.v x.p.cut)) : Off S w (fun u => Pks u v (pl.map (·.p))) :=
  fun w' h1 h2 => ⟨pl, rfl, h w' h1 h2, fun x hx => hc x hx w' h1 h2⟩
/-- two rows of the call's own: rows of picks that are done, and the picks since -/
def Two (a b : Value) : Nat → Prop := fun k => a.ownBlock = some k ∨ b.ownBlock = some k
structure CutG (B : Nat) (w : World) (out last : Value) (n : Nat) (tail : List Value) (rl : List Rv) (pl : List Pv) : Prop where
  own : w.ownsRow B 22 1 out n (rl.flatMap Rv.cells ++ tail)
  lasts : w.ownsRow B 27 4 last pl.length (pl.flatMap Pv.cells)
  apart : ∀ k, last.ownBlock = some k → out.ownBlock ≠ some k
  rows : ∀ x ∈ rl, Off (Two out last) w (fun u => Pks u x.v x.l)
  cuts : ∀ x ∈ pl, Off (Two out last) w (fun u => Zs u x.v x.p.cut)
theorem CutG.below {B : Nat} {w w' : World} {out last : Value} {n : Nat} {tail : List Value} {rl : List Rv} {pl : List Pv} (h : CutG B w out last n tail rl pl) (hb : Below w.heap.size w w') : CutG B w' out last n tail rl pl :=
  ⟨own_below h.own hb, own_below h.lasts hb, h.apart, fun x hx => (h.rows x hx).below hb, fun x hx => (h.cuts x hx).below hb⟩
theorem CutG.offLast {B : Nat} {w : World} {out last : Value} {n : Nat} {tail : List Value} {rl : List Rv} {pl : List Pv} (h : CutG B w out last n tail rl pl) : Off (ownS out) w (fun u => Pks u last (pl.map (·.p))) :=
  off_pks (off_own h.lasts (fun k hk hS => h.apart k hk hS)) (fun x hx => (h.cuts x hx).mono (fun k _ hS => .inl hS))
/-- the picks since are a row that is done; other ones begin -/
theorem CutG.crash {B : Nat} {w w' : World} {out out' last last' : Value} {n : Nat} {tail tail' : List Value} {rl : List Rv} {pl : List Pv} (h : CutG B w out last n tail rl pl)
    (hown : w'.ownsRow B 22 1 out' (n + 1) ((rl ++ [(⟨last, pl.map (·.p)⟩ : Rv)]).flatMap Rv.cells ++ tail')) (hg : w.grownBy w' out.ownBlock) (hat : out'.ownBlock = out.ownBlock ∨ out'.ownBlock = some w.heap.size)
    (hl' : w'.ownsRow B 27 4 last' 0 []) (ha' : ∀ k, last'.ownBlock = some k → w.heap.size < k ∧ out'.ownBlock ≠ some k) : CutG B w' out' last' (n + 1) tail' (rl ++ [⟨last, pl.map (·.p)⟩]) [] := by
  have hS : ∀ k, k < w.heap.size → Two out' last' k → out.ownBlock = some k := fun k hk hT => by
    rcases hT with hT | hT
    · rcases hat with e | e
      · rw [← e]; exact hT
      · rw [e] at hT; injection hT with hT; omega
    · have := (ha' k hT).1; omega
  refine ⟨hown, hl', fun k hk => (ha' k hk).2, fun x hx => ?_, by simp⟩
  rcases List.mem_append.1 hx with hx | hx
  · exact (h.rows x hx).step hg.size (fun k hk hn => hg.block k hk (fun e => hn (.inl e.symm))) (fun k hk hT => .inl (hS k hk hT))
  · simp only [List.mem_cons, List.not_mem_nil, or_false] at hx
    subst hx
    exact h.offLast.step hg.size (fun k hk hn => hg.block k hk (fun e => hn e.symm)) hS
/-- one pick more -/
theorem CutG.push {B : Nat} {w w' : World} {out last last' : Value} {n : Nat} {tail : List Value} {rl : List Rv} {pl : List Pv} (h : CutG B w out last n tail rl pl) (x : Pv) (hx : Off (Two out last) w (fun u => Zs u x.v x.p.cut))
    (hown : w'.ownsRow B 27 4 last' (pl.length + 1) (pl.flatMap Pv.cells ++ [x].flatMap Pv.cells)) (hg : w.grownBy w' last.ownBlock) (hat : last'.ownBlock = last.ownBlock ∨ last'.ownBlock = some w.heap.size) : CutG B w' out last' n tail rl (pl ++ [x]) := by
  have hS : ∀ k, k < w.heap.size → Two out last' k → Two out last k := fun k hk hT => by
    rcases hT with hT | hT
    · exact .inl hT
    · rcases hat with e | e
      · exact .inr (e.symm.trans hT)
      · rw [e] at hT; injection hT with hT; omega
  refine ⟨h.own.kept hg ?_, by rw [List.length_append, List.flatMap_append]; exact hown, fun k hk => ?_, fun y hy => ?_, fun y hy => ?_⟩
  · cases ho : out.ownBlock with
    | none => exact .inl rfl
    | some k => exact .inr (fun e => h.apart k e.symm ho)
  · rcases hat with e | e
    · exact h.apart k (e.symm.trans hk)
    · rw [e] at hk; injection hk with hk; subst hk
      intro ho
      have := (h.own.lt _ ho).2
      omega
  · exact (h.rows y hy).step hg.size (fun k hk hn => hg.block k hk (fun e => hn (.inr e.symm))) hS
  · rcases List.mem_append.1 hy with hy | hy
    · exact (h.cuts y hy).step hg.size (fun k hk hn => hg.block k hk (fun e => hn (.inr e.symm))) hS
    · simp only [List.mem_cons, List.not_mem_nil, or_false] at hy
      subst hy
      exact hx.step hg.size (fun k hk hn => hg.block k hk (fun e => hn (.inr e.symm))) hS
/-- what is told -/
theorem CutG.fin {B : Nat} {w : World} {out last : Value} {n : Nat} {rl : List Rv} {pl : List Pv} (h : CutG B w out last n [] rl pl) (hn : n = rl.length) : PRs w out (rl.map (·.l)) := by
  subst hn
  refine ⟨rl, rfl, ?_, fun x hx => (h.rows x hx).now⟩
  have := sl_of_own h.own
  rwa [List.append_nil] at this
theorem row_one (l : List Rv) (h : ∀ x ∈ l, x.v.oneCell' = true) : ∀ u ∈ l.flatMap Rv.cells, u.oneCell' = true := by
  intro u hu
  obtain ⟨x, hx0, hx⟩ := List.mem_flatMap.1 hu
  simp only [Rv.cells, List.mem_cons, List.not_mem_nil, or_false] at hx
  subst hx; exact h x hx0
theorem own_one {w : World} {base : Nat} {e : TypeId} {size : Nat} {v : Value} {n : Nat} {xs : List Value} (h : w.ownsRow base e size v n xs) : v.oneCell' = true := by
  obtain ⟨A, c, rfl⟩ := own_shape h; rfl
theorem sl_row (w : World) (x : Rv) : SlN (w.alloc (.cells #[x.v] 22)) (.slice (some ⟨w.heap.size, 0, none⟩) 1 1) 1 1 ([x].flatMap Rv.cells) := by
  have := sl_lit w (Rv.cells x) 22 1 1 1 rfl (Nat.le_refl _)
  rw [show [x].flatMap Rv.cells = Rv.cells x by simp]
  exact this
/-- what Cuts tells -/
def CutPost (l : List Pk) (w : World) (e : Ending) (w' : World) : Prop := ∃ A c, e = .returned (.slice A (cutsK l).length c) ∧ PRs w' (.slice A (cutsK l).length c) (cutsK l) ∧ Below w.heap.size w w'
theorem cut_post {l : List Pk} {w w' : World} {v : Value} (h : PRs w' v (cutsK l)) (hb : Below w.heap.size w w') : CutPost l w (.returned v) w' := by
  obtain ⟨A, c, rfl, hc⟩ := h.shape
  exact ⟨A, c, rfl, h, hb⟩
end Go.Proofs.YtimekgplallkiaaDoor

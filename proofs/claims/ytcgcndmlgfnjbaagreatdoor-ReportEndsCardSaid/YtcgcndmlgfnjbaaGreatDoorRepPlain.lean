/- Verdicts in plain Lean: whether they may be, their text, read again. No program in this text. -/
import Derived.Test.YtcgcndmlgfnjbaaGreatDoorSchPlain
namespace Go.Proofs.YtcgcndmlgfnjbaaGreatDoor
open Go
set_option linter.unusedVariables false
structure En where
  kind : Int
  what : Int
  crashes : Int
  cells : List Int
deriving DecidableEq
structure Vd where
  kind : Int
  e : Int
  pos : Int
  paths : Int
  ends : Int
  bad : En
  sched : List Pk
deriving DecidableEq
def zeroE : En := ⟨0, 0, 0, []⟩
def zeroV : Vd := ⟨0, 0, 0, 0, 0, zeroE, []⟩
def between (n least most : Int) : Bool := decide (least ≤ n) && decide (n ≤ most)
def badE (e : En) : Bool := decide (e.kind = 2) || decide (e.kind = 3) || decide (e.kind = 4)
/-- what a verdict has, by its kind -/
def bareV (v : Vd) : Vd :=
  if v.kind = 1 then ⟨1, v.e, v.pos, 0, 0, zeroE, []⟩
  else if v.kind = 2 then ⟨2, 0, 0, v.paths, v.ends, zeroE, []⟩
  else if v.kind = 3 then ⟨3, 0, 0, 0, 0, v.bad, v.sched⟩
  else ⟨v.kind, 0, 0, 0, 0, zeroE, []⟩
/-- may a verdict be? -/
def rightV (v : Vd) : Bool :=
  if v.kind = 1 then decide (v = bareV v) && between v.e 1 99 && between v.pos 0 100000
  else if v.kind = 2 then decide (v = bareV v) && between v.paths 1 1099511627776 && between v.ends 1 1099511627776
  else if v.kind = 3 then decide (v = bareV v) && badE v.bad && between v.bad.what 0 99 && between v.bad.crashes 0 99 && decide (v.bad.cells.length ≤ 20) && v.sched.all rightK
  else if v.kind = 4 then decide (v = bareV v)
  else false
def nOpen : List UInt8 := [111, 112, 101, 110]
def nSafe : List UInt8 := [115, 97, 102, 101]
def nClaim : List UInt8 := [99, 108, 97, 105, 109]
def nFault : List UInt8 := [102, 97, 117, 108, 116]
def nStuck : List UInt8 := [115, 116, 117, 99, 107]
/-- the name of an end's kind -/
def nameK (k : Int) : List UInt8 := if k = 0 then nOpen else if k = 1 then nSafe else if k = 2 then nClaim else if k = 3 then nFault else if k = 4 then nStuck else []
def wError : List UInt8 := [101, 114, 114, 111, 114]
def wAt : List UInt8 := [97, 116]
def wSafe : List UInt8 := [115, 97, 102, 101]
def wViol : List UInt8 := [118, 105, 111, 108, 97, 116, 105, 111, 110]
def wBudget : List UInt8 := [98, 117, 100, 103, 101, 116]
/-- the words of a verdict's line -/
def wordsV (v : Vd) : List (List UInt8) :=
  if v.kind = 1 then [wError, Lib.itoa v.e, wAt, Lib.itoa v.pos]
  else if v.kind = 2 then [wSafe, Lib.itoa v.paths, Lib.itoa v.ends]
  else if v.kind = 3 then wViol :: nameK v.bad.kind :: Lib.itoa v.bad.what :: Lib.itoa v.bad.crashes :: v.bad.cells.map Lib.itoa
  else [wBudget]
def textV (v : Vd) : List UInt8 := joinB (wordsV v) ++ 10 :: (if v.kind = 3 then showK v.sched else [])
def showV (v : Vd) : List UInt8 := if rightV v then textV v else []
/-- up to the end of the first line, and behind it -/
def cutN : List UInt8 → List UInt8 × List UInt8
  | [] => ([], [])
  | c :: r => if c = 10 then ([], r) else (c :: (cutN r).1, (cutN r).2)
/-- a word, if there is one -/
def wordN (l : List (List UInt8)) (i : Nat) : List UInt8 := l.getD i []
def numN (l : List (List UInt8)) (i : Nat) : Int := (numE (wordN l i)).1
/-- the kind that has a name: the program's answer, and the document's -/
def kindP (x : List UInt8) : Int := if x = nOpen then 0 else if x = nSafe then 1 else if x = nClaim then 2 else if x = nFault then 3 else if x = nStuck then 4 else 0
def kindR (x : List UInt8) : Int := if x = nClaim then 2 else if x = nFault then 3 else if x = nStuck then 4 else 0
/-- the verdict that a text may be -/
def readV (f : List UInt8 → Int) (s : List UInt8) : Vd :=
  if wordN (splitK (cutN s).1) 0 = wError then ⟨1, numN (splitK (cutN s).1) 1, numN (splitK (cutN s).1) 3, 0, 0, zeroE, []⟩
  else if wordN (splitK (cutN s).1) 0 = wSafe then ⟨2, 0, 0, numN (splitK (cutN s).1) 1, numN (splitK (cutN s).1) 2, zeroE, []⟩
  else if wordN (splitK (cutN s).1) 0 = wViol then ⟨3, 0, 0, 0, 0, ⟨f (wordN (splitK (cutN s).1) 1), numN (splitK (cutN s).1) 2, numN (splitK (cutN s).1) 3, ((splitK (cutN s).1).drop 4).map fun x => (numE x).1⟩, (parseK (cutN s).2).1⟩
  else if wordN (splitK (cutN s).1) 0 = wBudget then ⟨4, 0, 0, 0, 0, zeroE, []⟩
  else zeroV
def accV (f : List UInt8 → Int) (s : List UInt8) : Bool := rightV (readV f s) && decide (showV (readV f s) = s)
def parseV (f : List UInt8 → Int) (s : List UInt8) : Vd × Int := if 200000 < s.length then (zeroV, 2) else if accV f s then (readV f s, 0) else (zeroV, 8)
theorem kind_bad (x : List UInt8) (h : kindP x = 2 ∨ kindP x = 3 ∨ kindP x = 4 ∨ kindR x = 2 ∨ kindR x = 3 ∨ kindR x = 4) : kindP x = kindR x := by
  unfold kindP kindR at *
  by_cases h0 : x = nOpen
  · subst h0; revert h; decide
  · by_cases h1 : x = nSafe
    · subst h1; revert h; decide
    · rw [if_neg h0, if_neg h1]
theorem badE_iff (e : En) : badE e = true ↔ e.kind = 2 ∨ e.kind = 3 ∨ e.kind = 4 := by
  unfold badE; simp [or_assoc]
/-- both readings agree where a verdict may be -/
theorem read_alike (s : List UInt8) (h : rightV (readV kindP s) = true ∨ rightV (readV kindR s) = true) : readV kindP s = readV kindR s := by
  unfold readV at *
  split at h
  · rename_i h1; rw [if_pos h1, if_pos h1]
  · split at h
    · rename_i h1 h2; rw [if_neg h1, if_pos h2, if_neg h1, if_pos h2]
    · split at h
      · rename_i h1 h2 h3
        rw [if_neg h1, if_neg h2, if_pos h3, if_neg h1, if_neg h2, if_pos h3]
        have hb : ∀ k w c l sc, rightV ⟨3, 0, 0, 0, 0, ⟨k, w, c, l⟩, sc⟩ = true → k = 2 ∨ k = 3 ∨ k = 4 := fun k w c l sc hr => by
          unfold rightV at hr
          rw [if_neg (show ¬ (3 : Int) = 1 by decide), if_neg (show ¬ (3 : Int) = 2 by decide), if_pos (show (3 : Int) = 3 from rfl)] at hr
          simp only [Bool.and_eq_true] at hr
          exact (badE_iff _).1 hr.1.1.1.1.2
        rw [kind_bad]
        rcases h with h | h
        · rcases hb _ _ _ _ _ h with h | h | h
          · exact .inl h
          · exact .inr (.inl h)
          · exact .inr (.inr (.inl h))
        · rcases hb _ _ _ _ _ h with h | h | h
          · exact .inr (.inr (.inr (.inl h)))
          · exact .inr (.inr (.inr (.inr (.inl h))))
          · exact .inr (.inr (.inr (.inr (.inr h))))
      · rename_i h1 h2 h3
        rw [if_neg h1, if_neg h2, if_neg h3, if_neg h1, if_neg h2, if_neg h3]
theorem acc_alike (s : List UInt8) : accV kindP s = accV kindR s := by
  by_cases h : rightV (readV kindP s) = true ∨ rightV (readV kindR s) = true
  · unfold accV; rw [read_alike s h]
  · have h1 : rightV (readV kindP s) = false := by cases hh : rightV (readV kindP s) <;> simp_all
    have h2 : rightV (readV kindR s) = false := by cases hh : rightV (readV kindR s) <;> simp_all
    unfold accV; rw [h1, h2]; rfl
theorem parse_alike (s : List UInt8) : parseV kindP s = parseV kindR s := by
  unfold parseV
  rw [acc_alike]
  split
  · rfl
  · split
    · rename_i h
      have h2 : rightV (readV kindR s) = true := by unfold accV at h; simp only [Bool.and_eq_true] at h; exact h.1
      rw [read_alike s (.inr h2)]
    · rfl
/-! ### what is shown is read as it was -/
theorem itoa_bareZ (n : Int) : Bare (Lib.itoa n) := by
  unfold Lib.itoa
  split
  · obtain ⟨h1, h2⟩ := dec_bare _ _ (Nat.le_refl n.natAbs)
    constructor
    · intro h; rcases List.mem_cons.1 h with h | h
      · cases h
      · exact h1 h
    · intro h; rcases List.mem_cons.1 h with h | h
      · cases h
      · exact h2 h
  · exact dec_bare _ _ (Nat.le_refl _)
theorem name_bare (k : Int) : Bare (nameK k) := by
  unfold nameK
  split
  · exact ⟨by decide, by decide⟩
  · split
    · exact ⟨by decide, by decide⟩
    · split
      · exact ⟨by decide, by decide⟩
      · split
        · exact ⟨by decide, by decide⟩
        · split
          · exact ⟨by decide, by decide⟩
          · exact ⟨by simp, by simp⟩
theorem cutN_line : ∀ (a r : List UInt8), 10 ∉ a → cutN (a ++ 10 :: r) = (a, r)
  | [], r, _ => by rw [List.nil_append, cutN, if_pos rfl]
  | c :: a, r, h => by
    have h1 : ¬ c = 10 := fun e => h (by simp [e])
    have h2 : 10 ∉ a := fun e => h (by simp [e])
    rw [List.cons_append, cutN, if_neg h1, cutN_line a r h2]
theorem wordsV_bare (v : Vd) : ∀ x ∈ wordsV v, Bare x := by
  intro x hx
  unfold wordsV at hx
  split at hx
  · simp only [List.mem_cons, List.not_mem_nil, or_false] at hx
    rcases hx with rfl | rfl | rfl | rfl
    · exact ⟨by decide, by decide⟩
    · exact itoa_bareZ _
    · exact ⟨by decide, by decide⟩
    · exact itoa_bareZ _
  · split at hx
    · simp only [List.mem_cons, List.not_mem_nil, or_false] at hx
      rcases hx with rfl | rfl | rfl
      · exact ⟨by decide, by decide⟩
      · exact itoa_bareZ _
      · exact itoa_bareZ _
    · split at hx
      · simp only [List.mem_cons] at hx
        rcases hx with rfl | rfl | rfl | rfl | hx
        · exact ⟨by decide, by decide⟩
        · exact name_bare _
        · exact itoa_bareZ _
        · exact itoa_bareZ _
        · obtain ⟨n, _, rfl⟩ := List.mem_map.1 hx
          exact itoa_bareZ _
      · simp only [List.mem_cons, List.not_mem_nil, or_false] at hx
        subst hx; exact ⟨by decide, by decide⟩
theorem wordsV_ne (v : Vd) : wordsV v ≠ [] := by
  unfold wordsV
  split
  · simp
  · split
    · simp
    · split <;> simp
theorem textV_cut (v : Vd) : cutN (textV v) = (joinB (wordsV v), if v.kind = 3 then showK v.sched else []) :=
  cutN_line _ _ (joinB_bare (wordsV_bare v))
theorem splitV (v : Vd) : splitK (joinB (wordsV v)) = wordsV v := by
  have hb := wordsV_bare v
  have hn := wordsV_ne v
  cases hw : wordsV v with
  | nil => exact absurd hw hn
  | cons x l =>
    rw [hw] at hb
    exact split_join x l (hb x (by simp)).1 (fun y hy => (hb y (by simp [hy])).1)
theorem right_kind {v : Vd} (h : rightV v = true) : v.kind = 1 ∨ v.kind = 2 ∨ v.kind = 3 ∨ v.kind = 4 := by
  unfold rightV at h
  by_cases h1 : v.kind = 1
  · exact .inl h1
  · by_cases h2 : v.kind = 2
    · exact .inr (.inl h2)
    · by_cases h3 : v.kind = 3
      · exact .inr (.inr (.inl h3))
      · by_cases h4 : v.kind = 4
        · exact .inr (.inr (.inr h4))
        · rw [if_neg h1, if_neg h2, if_neg h3, if_neg h4] at h; cases h
theorem bare_of {v : Vd} (h : rightV v = true) : v = bareV v := by
  unfold rightV at h
  split at h
  · simp only [Bool.and_eq_true, decide_eq_true_eq] at h; exact h.1.1
  · split at h
    · simp only [Bool.and_eq_true, decide_eq_true_eq] at h; exact h.1.1
    · split at h
      · simp only [Bool.and_eq_true, decide_eq_true_eq] at h; exact h.1.1.1.1.1
      · split at h
        · simpa using h
        · cases h
theorem between_I64 {n a b : Int} (h : between n a b = true) (ha : -9223372036854775808 ≤ a) (hb : b ≤ 9223372036854775807) : I64 n := by
  unfold between at h
  simp only [Bool.and_eq_true, decide_eq_true_eq] at h
  exact ⟨by omega, by omega⟩
theorem nums_back (l : List Int) (h : ∀ n ∈ l, I64 n) : (l.map Lib.itoa).map (fun x => (numE x).1) = l := by
  induction l with
  | nil => rfl
  | cons n l ih => rw [List.map_cons, List.map_cons, numE_itoa n (h n (by simp)), ih (fun m hm => h m (by simp [hm]))]
theorem show_parse (l : List Pk) (h : l.all rightK = true) (hl : (textK l).length ≤ 100000) : (parseK (showK l)).1 = l := by
  have e : showK l = textK l := by unfold showK; rw [if_pos h]
  rw [e]
  unfold parseK
  rw [if_pos hl, par_shown l h]; rfl
theorem names_P (k : Int) (h : k = 2 ∨ k = 3 ∨ k = 4) : kindP (nameK k) = k := by
  rcases h with rfl | rfl | rfl <;> decide
theorem names_R (k : Int) (h : k = 2 ∨ k = 3 ∨ k = 4) : kindR (nameK k) = k := by
  rcases h with rfl | rfl | rfl <;> decide
set_option maxRecDepth 10000 in
theorem read_back (f : List UInt8 → Int) (hf : ∀ k, k = 2 ∨ k = 3 ∨ k = 4 → f (nameK k) = k) (v : Vd) (h : rightV v = true) (hc : ∀ n ∈ v.bad.cells, I64 n) (hs : (textK v.sched).length ≤ 100000) : readV f (textV v) = v := by
  have hb := bare_of h
  unfold readV
  rw [textV_cut]
  simp only
  rw [splitV]
  rcases right_kind h with k | k | k | k
  · have hw : wordsV v = [wError, Lib.itoa v.e, wAt, Lib.itoa v.pos] := by unfold wordsV; rw [if_pos k]
    have hbv : bareV v = ⟨1, v.e, v.pos, 0, 0, zeroE, []⟩ := by unfold bareV; rw [if_pos k]
    unfold rightV at h
    rw [if_pos k] at h
    simp only [Bool.and_eq_true] at h
    rw [hw, if_pos (show wordN [wError, Lib.itoa v.e, wAt, Lib.itoa v.pos] 0 = wError from rfl)]
    show (⟨1, (numE (Lib.itoa v.e)).1, (numE (Lib.itoa v.pos)).1, 0, 0, zeroE, []⟩ : Vd) = v
    rw [numE_itoa _ (between_I64 h.1.2 (by decide) (by decide)), numE_itoa _ (between_I64 h.2 (by decide) (by decide))]
    exact (hb.trans hbv).symm
  · have hw : wordsV v = [wSafe, Lib.itoa v.paths, Lib.itoa v.ends] := by unfold wordsV; rw [if_neg (by omega), if_pos k]
    have hbv : bareV v = ⟨2, 0, 0, v.paths, v.ends, zeroE, []⟩ := by unfold bareV; rw [if_neg (by omega), if_pos k]
    unfold rightV at h
    rw [if_neg (by omega), if_pos k] at h
    simp only [Bool.and_eq_true] at h
    rw [hw, if_neg (by show ¬ wSafe = wError; decide), if_pos (show wordN [wSafe, Lib.itoa v.paths, Lib.itoa v.ends] 0 = wSafe from rfl)]
    show (⟨2, 0, 0, (numE (Lib.itoa v.paths)).1, (numE (Lib.itoa v.ends)).1, zeroE, []⟩ : Vd) = v
    rw [numE_itoa _ (between_I64 h.1.2 (by decide) (by decide)), numE_itoa _ (between_I64 h.2 (by decide) (by decide))]
    exact (hb.trans hbv).symm
  · have hw : wordsV v = wViol :: nameK v.bad.kind :: Lib.itoa v.bad.what :: Lib.itoa v.bad.crashes :: v.bad.cells.map Lib.itoa := by unfold wordsV; rw [if_neg (by omega), if_neg (by omega), if_pos k]
    have hbv : bareV v = ⟨3, 0, 0, 0, 0, v.bad, v.sched⟩ := by unfold bareV; rw [if_neg (by omega), if_neg (by omega), if_pos k]
    unfold rightV at h
    rw [if_neg (by omega), if_neg (by omega), if_pos k] at h
    simp only [Bool.and_eq_true] at h
    obtain ⟨⟨⟨⟨⟨h0, h1⟩, h2⟩, h3⟩, h4⟩, h5⟩ := h
    rw [hw, if_neg (by show ¬ wViol = wError; decide), if_neg (by show ¬ wViol = wSafe; decide), if_pos (show wordN (wViol :: nameK v.bad.kind :: Lib.itoa v.bad.what :: Lib.itoa v.bad.crashes :: v.bad.cells.map Lib.itoa) 0 = wViol from rfl), if_pos k, show_parse _ h5 hs]
    show (⟨3, 0, 0, 0, 0, ⟨f (nameK v.bad.kind), (numE (Lib.itoa v.bad.what)).1, (numE (Lib.itoa v.bad.crashes)).1, (v.bad.cells.map Lib.itoa).map (fun x => (numE x).1)⟩, v.sched⟩ : Vd) = v
    rw [hf _ ((badE_iff _).1 h1), numE_itoa _ (between_I64 h2 (by decide) (by decide)), numE_itoa _ (between_I64 h3 (by decide) (by decide)), nums_back _ hc]
    exact (hb.trans hbv).symm
  · have hw : wordsV v = [wBudget] := by unfold wordsV; rw [if_neg (by omega), if_neg (by omega), if_neg (by omega)]
    have hbv : bareV v = ⟨4, 0, 0, 0, 0, zeroE, []⟩ := by unfold bareV; rw [if_neg (by omega), if_neg (by omega), if_neg (by omega), k]
    rw [hw, if_neg (by show ¬ wBudget = wError; decide), if_neg (by show ¬ wBudget = wSafe; decide), if_neg (by show ¬ wBudget = wViol; decide), if_pos (show wordN [wBudget] 0 = wBudget from rfl)]
    exact (hb.trans hbv).symm
theorem showV_right {v : Vd} (h : rightV v = true) : showV v = textV v := by unfold showV; rw [if_pos h]
theorem showV_not {v : Vd} (h : rightV v = false) : showV v = [] := by unfold showV; rw [h]; rfl
/-- what is shown is parsed as it was -/
theorem parse_back (v : Vd) (h : rightV v = true) (hc : ∀ n ∈ v.bad.cells, I64 n) (hs : (textK v.sched).length ≤ 100000) (hl : (textV v).length ≤ 200000) : parseV kindP (showV v) = (v, 0) := by
  have hr := read_back kindP names_P v h hc hs
  rw [showV_right h]
  unfold parseV accV
  rw [hr, h, showV_right h, if_neg (by omega)]
  simp
end Go.Proofs.YtcgcndmlgfnjbaaGreatDoor

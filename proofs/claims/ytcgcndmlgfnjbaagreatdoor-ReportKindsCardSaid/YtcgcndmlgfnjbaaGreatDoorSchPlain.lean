/- Schedules in plain Lean: picks, their lines, their text, read again; the parts between crashes. No program in this text. -/
import Derived.Test.YtcgcndmlgfnjbaaGreatDoorWordsPlain
namespace Go.Proofs.YtcgcndmlgfnjbaaGreatDoor
open Go
set_option linter.unusedVariables false
structure Pk where
  kind : Int
  t : Int
  i : Int
  cut : List Int
deriving DecidableEq
def inE (n most : Int) : Bool := decide (0 ≤ n) && decide (n ≤ most)
/-- may a pick stand in a schedule? -/
def rightK (p : Pk) : Bool :=
  if p.kind = 1 then inE p.t 99 && decide (p.i = 0) && p.cut.isEmpty
  else if p.kind = 2 then inE p.t 99 && inE p.i 99 && p.cut.isEmpty
  else if p.kind = 3 then decide (p.t = 0) && decide (p.i = 0) && decide (p.cut.length ≤ 20) && p.cut.all (fun n => inE n 9999)
  else false
def wStep : List UInt8 := [115, 116, 101, 112]
def wOut : List UInt8 := [111, 117, 116]
def wCrash : List UInt8 := [99, 114, 97, 115, 104]
/-- words with blanks between them -/
def tailB (l : List (List UInt8)) : List UInt8 := l.flatMap fun x => 32 :: x
def joinB : List (List UInt8) → List UInt8
  | [] => []
  | x :: r => x ++ tailB r
/-- a pick's line without its end -/
def lineK (p : Pk) : List UInt8 :=
  if p.kind = 1 then joinB [wStep, Lib.itoa p.t]
  else if p.kind = 2 then joinB [wOut, Lib.itoa p.t, Lib.itoa p.i]
  else joinB (wCrash :: p.cut.map Lib.itoa)
def textK (l : List Pk) : List UInt8 := l.flatMap fun p => lineK p ++ [10]
def showK (l : List Pk) : List UInt8 := if l.all rightK then textK l else []
/-- a text cut at blanks -/
def splitK : List UInt8 → List (List UInt8)
  | [] => [[]]
  | c :: r => if c = 32 then [] :: splitK r else match splitK r with
    | [] => [[c]]
    | x :: xs => (c :: x) :: xs
theorem splitK_ne : ∀ s, splitK s ≠ []
  | [] => by simp [splitK]
  | c :: r => by
    unfold splitK
    split
    · simp
    · split <;> simp
theorem joinB_cons (c : UInt8) (x : List UInt8) (r : List (List UInt8)) : joinB ((c :: x) :: r) = c :: joinB (x :: r) := rfl
theorem join_split : ∀ s, joinB (splitK s) = s
  | [] => rfl
  | c :: r => by
    have ih := join_split r
    have hne := splitK_ne r
    unfold splitK
    split
    · rename_i h
      subst h
      cases hs : splitK r with
      | nil => exact absurd hs hne
      | cons x xs =>
        rw [hs] at ih
        show [] ++ tailB (x :: xs) = _
        have e : tailB (x :: xs) = 32 :: joinB (x :: xs) := by simp [tailB, joinB]
        rw [e, ih]; rfl
    · cases hs : splitK r with
      | nil => exact absurd hs hne
      | cons x xs =>
        rw [hs] at ih
        show joinB ((c :: x) :: xs) = _
        rw [joinB_cons, ih]
theorem split_app : ∀ (x s : List UInt8), 32 ∉ x → splitK (x ++ 32 :: s) = x :: splitK s
  | [], s, _ => by simp [splitK]
  | c :: x, s, h => by
    have h1 : ¬ c = 32 := fun e => h (by simp [e])
    have h2 : 32 ∉ x := fun e => h (by simp [e])
    rw [List.cons_append, splitK, if_neg h1, split_app x s h2]
theorem split_one : ∀ (x : List UInt8), 32 ∉ x → splitK x = [x]
  | [], _ => rfl
  | c :: x, h => by
    have h1 : ¬ c = 32 := fun e => h (by simp [e])
    have h2 : 32 ∉ x := fun e => h (by simp [e])
    rw [splitK, if_neg h1, split_one x h2]
theorem split_join : ∀ (x : List UInt8) (l : List (List UInt8)), 32 ∉ x → (∀ y ∈ l, 32 ∉ y) → splitK (joinB (x :: l)) = x :: l
  | x, [], hx, _ => by
    have : joinB [x] = x := by simp [joinB, tailB]
    rw [this, split_one x hx]
  | x, y :: l, hx, hl => by
    have e : joinB (x :: y :: l) = x ++ 32 :: joinB (y :: l) := by simp [joinB, tailB]
    rw [e, split_app _ _ hx, split_join y l (hl y (by simp)) (fun z hz => hl z (by simp [hz]))]
/-- the numbers of words; none: one of them has none -/
def numsK : List (List UInt8) → Option (List Int)
  | [] => some []
  | x :: r => if (numE x).2 = 0 then (numsK r).map ((numE x).1 :: ·) else none
def kindK (w : List UInt8) : Int := if w = wStep then 1 else if w = wOut then 2 else if w = wCrash then 3 else 0
def zeroK : Pk := ⟨0, 0, 0, []⟩
/-- what the program makes of a line's words -/
def progK (k : Int) (ns : List Int) : Pk :=
  if k = 1 ∧ ns.length = 1 then ⟨1, ns.getD 0 0, 0, []⟩
  else if k = 2 ∧ ns.length = 2 then ⟨2, ns.getD 0 0, ns.getD 1 0, []⟩
  else if k = 3 then ⟨3, 0, 0, ns⟩
  else ⟨k, 0, 0, []⟩
def pickP : List (List UInt8) → Pk
  | [] => zeroK
  | x :: r => match numsK r with
    | none => zeroK
    | some ns => progK (kindK x) ns
/-- what the document makes of them -/
def refK (k : Int) (ns : List Int) : Pk :=
  if k = 1 ∧ ns.length = 1 then ⟨1, ns.getD 0 0, 0, []⟩
  else if k = 2 ∧ ns.length = 2 then ⟨2, ns.getD 0 0, ns.getD 1 0, []⟩
  else if k = 3 then ⟨3, 0, 0, ns⟩
  else zeroK
def pickR : List (List UInt8) → Pk
  | [] => zeroK
  | x :: r => match numsK r with
    | none => zeroK
    | some ns => refK (kindK x) ns
theorem pickR_cons (x : List UInt8) (r : List (List UInt8)) : pickR (x :: r) = match numsK r with
    | none => zeroK
    | some ns => refK (kindK x) ns := rfl
theorem pickP_cons (x : List UInt8) (r : List (List UInt8)) : pickP (x :: r) = match numsK r with
    | none => zeroK
    | some ns => progK (kindK x) ns := rfl
theorem right_zero : rightK zeroK = false := rfl
theorem nums_itoa : ∀ (r : List (List UInt8)) (ns : List Int), numsK r = some ns → ns.map Lib.itoa = r
  | [], ns, h => by cases h; rfl
  | x :: r, ns, h => by
    unfold numsK at h
    split at h
    · rename_i h0
      cases hr : numsK r with
      | none => rw [hr] at h; cases h
      | some ms =>
        rw [hr] at h
        injection h with h
        subst h
        have hx : numE x = ((numE x).1, 0) := by rw [← h0]
        rw [List.map_cons, itoa_numE hx, nums_itoa r ms hr]
    · cases h
theorem itoa_nums : ∀ (ns : List Int), (∀ n ∈ ns, I64 n) → numsK (ns.map Lib.itoa) = some ns
  | [], _ => rfl
  | n :: ns, h => by
    have hn := numE_itoa n (h n (by simp))
    rw [List.map_cons, numsK, hn, itoa_nums ns (fun m hm => h m (by simp [hm]))]
    rfl
theorem kind_step {w : List UInt8} (h : kindK w = 1) : w = wStep := by
  unfold kindK at h
  split at h
  · assumption
  · split at h
    · cases h
    · split at h <;> cases h
theorem kind_out {w : List UInt8} (h : kindK w = 2) : w = wOut := by
  unfold kindK at h
  split at h
  · cases h
  · split at h
    · assumption
    · split at h <;> cases h
theorem kind_crash {w : List UInt8} (h : kindK w = 3) : w = wCrash := by
  unfold kindK at h
  split at h
  · cases h
  · split at h
    · cases h
    · split at h
      · assumption
      · cases h
theorem kind_some (w : List UInt8) : kindK w = 0 ∨ kindK w = 1 ∨ kindK w = 2 ∨ kindK w = 3 := by
  unfold kindK
  split
  · exact .inr (.inl rfl)
  · split
    · exact .inr (.inr (.inl rfl))
    · split
      · exact .inr (.inr (.inr rfl))
      · exact .inl rfl
theorem one_get : ∀ (ns : List Int), ns.length = 1 → ns = [ns.getD 0 0]
  | [a], _ => rfl
theorem two_get : ∀ (ns : List Int), ns.length = 2 → ns = [ns.getD 0 0, ns.getD 1 0]
  | [a, b], _ => rfl
/-- what the document makes of a line, if it may be, is the program's, and the line is its line -/
theorem ref_prog (ws : List (List UInt8)) (h : rightK (pickR ws) = true) : pickP ws = pickR ws ∧ lineK (pickR ws) = joinB ws := by
  match ws, h with
  | [], h => cases h
  | x :: r, h =>
    rw [pickR_cons] at h ⊢
    rw [pickP_cons]
    cases hr : numsK r with
    | none => rw [hr] at h; cases h
    | some ns =>
      rw [hr] at h
      have hm := nums_itoa r ns hr
      simp only at h ⊢
      by_cases k1 : kindK x = 1 ∧ ns.length = 1
      · have e1 : refK (kindK x) ns = ⟨1, ns.getD 0 0, 0, []⟩ := if_pos k1
        have e2 : progK (kindK x) ns = ⟨1, ns.getD 0 0, 0, []⟩ := if_pos k1
        rw [e1, e2]
        refine ⟨rfl, ?_⟩
        rw [kind_step k1.1, ← hm, one_get ns k1.2]
        rfl
      · by_cases k2 : kindK x = 2 ∧ ns.length = 2
        · have e1 : refK (kindK x) ns = ⟨2, ns.getD 0 0, ns.getD 1 0, []⟩ := (if_neg k1).trans (if_pos k2)
          have e2 : progK (kindK x) ns = ⟨2, ns.getD 0 0, ns.getD 1 0, []⟩ := (if_neg k1).trans (if_pos k2)
          rw [e1, e2]
          refine ⟨rfl, ?_⟩
          rw [kind_out k2.1, ← hm, two_get ns k2.2]
          rfl
        · by_cases k3 : kindK x = 3
          · have e1 : refK (kindK x) ns = ⟨3, 0, 0, ns⟩ := (if_neg k1).trans ((if_neg k2).trans (if_pos k3))
            have e2 : progK (kindK x) ns = ⟨3, 0, 0, ns⟩ := (if_neg k1).trans ((if_neg k2).trans (if_pos k3))
            rw [e1, e2]
            refine ⟨rfl, ?_⟩
            rw [kind_crash k3, ← hm]
            rfl
          · have e1 : refK (kindK x) ns = zeroK := (if_neg k1).trans ((if_neg k2).trans (if_neg k3))
            rw [e1] at h
            cases h
/-- no blank, no end of a line -/
def Bare (x : List UInt8) : Prop := 32 ∉ x ∧ 10 ∉ x
theorem dec_bare : ∀ (k u : Nat), u ≤ k → Bare (Lib.decDigits u) := by
  intro k u h
  have := decDigits_dig k u h
  rw [List.all_eq_true] at this
  constructor
  · intro hm
    have := this _ hm
    exact absurd this (by decide)
  · intro hm
    have := this _ hm
    exact absurd this (by decide)
theorem itoa_bare (n : Int) (h0 : 0 ≤ n) : Bare (Lib.itoa n) := by
  unfold Lib.itoa
  rw [if_neg (by omega)]
  exact dec_bare _ _ (Nat.le_refl _)
theorem in_I64 {n m : Int} (h : inE n m = true) (hm : m ≤ 9999) : I64 n ∧ 0 ≤ n ∧ n ≤ m := by
  unfold inE at h
  simp only [Bool.and_eq_true, decide_eq_true_eq] at h
  exact ⟨⟨by omega, by omega⟩, h.1, h.2⟩
/-- the words of a right pick's line -/
def wordsK (p : Pk) : List (List UInt8) :=
  if p.kind = 1 then [wStep, Lib.itoa p.t]
  else if p.kind = 2 then [wOut, Lib.itoa p.t, Lib.itoa p.i]
  else wCrash :: p.cut.map Lib.itoa
theorem line_words (p : Pk) : lineK p = joinB (wordsK p) := by
  unfold lineK wordsK
  split
  · rfl
  · split <;> rfl
theorem step_bare : Bare wStep := ⟨by decide, by decide⟩
theorem out_bare : Bare wOut := ⟨by decide, by decide⟩
theorem crash_bare : Bare wCrash := ⟨by decide, by decide⟩
theorem words_bare (p : Pk) (h : rightK p = true) : wordsK p ≠ [] ∧ ∀ x ∈ wordsK p, Bare x := by
  unfold rightK at h
  unfold wordsK
  split at h
  · rename_i hk
    rw [if_pos hk]
    simp only [Bool.and_eq_true] at h
    have ht := in_I64 h.1.1 (by decide)
    refine ⟨by simp, fun x hx => ?_⟩
    simp only [List.mem_cons, List.not_mem_nil, or_false] at hx
    rcases hx with rfl | rfl
    · exact step_bare
    · exact itoa_bare _ ht.2.1
  · rename_i hk
    rw [if_neg hk]
    split at h
    · rename_i hk2
      rw [if_pos hk2]
      simp only [Bool.and_eq_true] at h
      have ht := in_I64 h.1.1 (by decide)
      have hi := in_I64 h.1.2 (by decide)
      refine ⟨by simp, fun x hx => ?_⟩
      simp only [List.mem_cons, List.not_mem_nil, or_false] at hx
      rcases hx with rfl | rfl | rfl
      · exact out_bare
      · exact itoa_bare _ ht.2.1
      · exact itoa_bare _ hi.2.1
    · rename_i hk2
      rw [if_neg hk2]
      split at h
      · simp only [Bool.and_eq_true, List.all_eq_true] at h
        refine ⟨by simp, fun x hx => ?_⟩
        rcases List.mem_cons.1 hx with rfl | hx
        · exact crash_bare
        · obtain ⟨n, hn, rfl⟩ := List.mem_map.1 hx
          exact itoa_bare _ (in_I64 (h.2 n hn) (by decide)).2.1
      · cases h
theorem split_line (p : Pk) (h : rightK p = true) : splitK (lineK p) = wordsK p := by
  obtain ⟨hne, hb⟩ := words_bare p h
  rw [line_words]
  cases hw : wordsK p with
  | nil => exact absurd hw hne
  | cons x l =>
    rw [hw] at hb
    exact split_join x l (hb x (by simp)).1 (fun y hy => (hb y (by simp [hy])).1)
/-- a right pick's line is read as it was, by both -/
theorem read_line (p : Pk) (h : rightK p = true) : pickR (splitK (lineK p)) = p := by
  rw [split_line p h]
  have h0 := h
  unfold rightK at h
  obtain ⟨k, t, i, cut⟩ := p
  simp only at h
  split at h
  · rename_i hk
    subst hk
    simp only [Bool.and_eq_true, decide_eq_true_eq, List.isEmpty_iff] at h
    obtain ⟨⟨ht, rfl⟩, rfl⟩ := h
    have hn := itoa_nums [t] (fun n hn => by simp only [List.mem_cons, List.not_mem_nil, or_false] at hn; subst hn; exact (in_I64 ht (by decide)).1)
    show (match numsK ([t].map Lib.itoa) with | none => zeroK | some ns => refK (kindK wStep) ns) = _
    rw [hn]; rfl
  · rename_i hk
    split at h
    · rename_i hk2
      subst hk2
      simp only [Bool.and_eq_true, List.isEmpty_iff] at h
      obtain ⟨⟨ht, hi⟩, rfl⟩ := h
      have hn := itoa_nums [t, i] (fun n hn => by
        simp only [List.mem_cons, List.not_mem_nil, or_false] at hn
        rcases hn with rfl | rfl
        · exact (in_I64 ht (by decide)).1
        · exact (in_I64 hi (by decide)).1)
      show (match numsK ([t, i].map Lib.itoa) with | none => zeroK | some ns => refK (kindK wOut) ns) = _
      rw [hn]; rfl
    · rename_i hk2
      split at h
      · rename_i hk3
        subst hk3
        simp only [Bool.and_eq_true, decide_eq_true_eq, List.all_eq_true] at h
        obtain ⟨⟨⟨rfl, rfl⟩, hl⟩, hc⟩ := h
        have hn := itoa_nums cut (fun n hn => (in_I64 (hc n hn) (by decide)).1)
        show (match numsK (cut.map Lib.itoa) with | none => zeroK | some ns => refK (kindK wCrash) ns) = _
        rw [hn]; rfl
      · cases h
/-- a line that may be: its pick -/
def acceptK (y : List UInt8) : Option Pk := if rightK (pickR (splitK y)) = true then some (pickR (splitK y)) else none
theorem accept_line (p : Pk) (h : rightK p = true) : acceptK (lineK p) = some p := by
  unfold acceptK
  rw [read_line p h, if_pos h]
theorem accept_some {y : List UInt8} {p : Pk} (h : acceptK y = some p) : rightK p = true ∧ lineK p = y := by
  unfold acceptK at h
  split at h
  · rename_i hr
    injection h with h
    subst h
    exact ⟨hr, by rw [(ref_prog _ hr).2, join_split]⟩
  · cases h
/-- the same by what the program asks -/
theorem accept_prog (y : List UInt8) : acceptK y = if rightK (pickP (splitK y)) = true ∧ lineK (pickP (splitK y)) = y then some (pickP (splitK y)) else none := by
  by_cases hr : rightK (pickR (splitK y)) = true
  · obtain ⟨h1, h2⟩ := ref_prog _ hr
    rw [h1]
    unfold acceptK
    rw [if_pos hr, if_pos ⟨hr, by rw [h2, join_split]⟩]
  · have hn : acceptK y = none := by unfold acceptK; rw [if_neg hr]
    rw [hn]
    by_cases hp : rightK (pickP (splitK y)) = true ∧ lineK (pickP (splitK y)) = y
    · exfalso
      have := read_line _ hp.1
      rw [hp.2] at this
      rw [this] at hr
      exact hr hp.1
    · rw [if_neg hp]
/-! ### texts -/
/-- what is read: picks, or in which line something is wrong -/
def consR (p : Pk) : Except Nat (List Pk) → Except Nat (List Pk)
  | .ok l => .ok (p :: l)
  | .error n => .error (n + 1)
def parG : List UInt8 → List UInt8 → Except Nat (List Pk)
  | cur, [] => if cur = [] then .ok [] else .error 0
  | cur, c :: r => if c = 10 then match acceptK cur with
      | none => .error 0
      | some p => consR p (parG [] r)
    else parG (cur ++ [c]) r
def resK : Except Nat (List Pk) → List Pk × Int × Int
  | .ok l => (l, 0, 0)
  | .error n => ([], 8, n)
def parseK (s : List UInt8) : List Pk × Int × Int := if s.length ≤ 100000 then resK (parG [] s) else ([], 2, 0)
theorem parG_line : ∀ (y cur r : List UInt8), 10 ∉ y → parG cur (y ++ 10 :: r) = match acceptK (cur ++ y) with
      | none => .error 0
      | some p => consR p (parG [] r)
  | [], cur, r, _ => by
    rw [List.nil_append, List.append_nil, parG, if_pos rfl]
  | c :: y, cur, r, h => by
    have h1 : ¬ c = 10 := fun e => h (by simp [e])
    have h2 : 10 ∉ y := fun e => h (by simp [e])
    rw [List.cons_append, parG, if_neg h1, parG_line y (cur ++ [c]) r h2, List.append_assoc]; rfl
theorem parG_rest : ∀ (y cur : List UInt8), 10 ∉ y → parG cur y = if cur ++ y = [] then .ok [] else .error 0
  | [], cur, _ => by rw [parG, List.append_nil]
  | c :: y, cur, h => by
    have h1 : ¬ c = 10 := fun e => h (by simp [e])
    have h2 : 10 ∉ y := fun e => h (by simp [e])
    rw [parG, if_neg h1, parG_rest y (cur ++ [c]) h2, List.append_assoc]; rfl
theorem joinB_bare {l : List (List UInt8)} (h : ∀ x ∈ l, Bare x) : 10 ∉ joinB l := by
  cases l with
  | nil => simp [joinB]
  | cons x r =>
    unfold joinB tailB
    intro hm
    rcases List.mem_append.1 hm with hm | hm
    · exact (h x (by simp)).2 hm
    · obtain ⟨y, hy, hm⟩ := List.mem_flatMap.1 hm
      rcases List.mem_cons.1 hm with hm | hm
      · cases hm
      · exact (h y (by simp [hy])).2 hm
theorem line_bare (p : Pk) (h : rightK p = true) : 10 ∉ lineK p := by
  rw [line_words]; exact joinB_bare (words_bare p h).2
/-- what is shown is read as it was -/
theorem par_text : ∀ (l : List Pk), l.all rightK = true → ∀ r, parG [] (textK l ++ r) = (match parG [] r with | .ok m => .ok (l ++ m) | .error n => .error (l.length + n))
  | [], _, r => by
    show parG [] r = _
    cases parG [] r with
    | ok m => rfl
    | error n => simp
  | p :: l, h, r => by
    rw [List.all_cons, Bool.and_eq_true] at h
    have e : textK (p :: l) ++ r = lineK p ++ 10 :: (textK l ++ r) := by simp [textK]
    rw [e, parG_line _ _ _ (line_bare p h.1), List.nil_append, accept_line p h.1, par_text l h.2 r]
    cases parG [] r with
    | ok m => rfl
    | error n => show Except.error _ = Except.error _; rw [List.length_cons]; congr 1; omega
theorem par_shown (l : List Pk) (h : l.all rightK = true) : parG [] (textK l) = .ok l := by
  have := par_text l h []
  rw [List.append_nil] at this
  rw [this]
  show Except.ok (l ++ []) = _
  rw [List.append_nil]
/-- what is read, shown, is this text -/
theorem par_back : ∀ (s cur : List UInt8) (l : List Pk), parG cur s = .ok l → l.all rightK = true ∧ textK l = cur ++ s
  | [], cur, l, h => by
    unfold parG at h
    split at h
    · rename_i hc
      injection h with h
      subst h hc
      exact ⟨rfl, rfl⟩
    · cases h
  | c :: r, cur, l, h => by
    unfold parG at h
    split at h
    · rename_i hc
      subst hc
      cases ha : acceptK cur with
      | none => rw [ha] at h; cases h
      | some p =>
        rw [ha] at h
        cases hr : parG [] r with
        | error n => rw [hr] at h; cases h
        | ok m =>
          rw [hr] at h
          injection h with h
          subst h
          obtain ⟨h1, h2⟩ := accept_some ha
          obtain ⟨h3, h4⟩ := par_back r [] m hr
          refine ⟨by rw [List.all_cons, h1, h3]; rfl, ?_⟩
          have e : textK (p :: m) = lineK p ++ 10 :: textK m := by simp [textK]
          rw [e, h2, h4]; rfl
    · obtain ⟨h1, h2⟩ := par_back r (cur ++ [c]) l h
      exact ⟨h1, by rw [h2]; simp⟩
/-! ### parts -/
def cutsK : List Pk → List (List Pk)
  | [] => [[]]
  | p :: r => if p.kind = 3 then [] :: cutsK r else match cutsK r with
    | [] => [[p]]
    | x :: xs => (p :: x) :: xs
def crashK (l : List Pk) : Nat := (l.filter fun p => p.kind == 3).length
theorem cuts_ne : ∀ l, cutsK l ≠ []
  | [] => by simp [cutsK]
  | p :: r => by
    unfold cutsK
    split
    · simp
    · split <;> simp
theorem cuts_len : ∀ l, (cutsK l).length = crashK l + 1
  | [] => rfl
  | p :: r => by
    have ih := cuts_len r
    unfold cutsK
    split
    · rename_i h
      have : crashK (p :: r) = crashK r + 1 := by unfold crashK; rw [List.filter_cons_of_pos (by simp [h])]; rfl
      rw [List.length_cons, ih, this]
    · rename_i h
      have : crashK (p :: r) = crashK r := by unfold crashK; rw [List.filter_cons_of_neg (by simp [h])]
      rw [this]
      cases hc : cutsK r with
      | nil => exact absurd hc (cuts_ne r)
      | cons x xs => rw [hc] at ih; simpa using ih
theorem crash_app (a b : List Pk) : crashK (a ++ b) = crashK a + crashK b := by
  unfold crashK; rw [List.filter_append, List.length_append]
theorem cuts_none : ∀ l, ∀ x ∈ cutsK l, crashK x = 0
  | [], x, h => by simp [cutsK] at h; subst h; rfl
  | p :: r, x, h => by
    have ih := cuts_none r
    unfold cutsK at h
    split at h
    · rcases List.mem_cons.1 h with rfl | h
      · rfl
      · exact ih x h
    · rename_i hk
      cases hc : cutsK r with
      | nil => exact absurd hc (cuts_ne r)
      | cons y ys =>
        rw [hc] at h ih
        rcases List.mem_cons.1 h with rfl | h
        · have := ih y (by simp)
          unfold crashK at this ⊢
          rw [List.filter_cons_of_neg (by simp [hk])]
          exact this
        · exact ih x (by simp [h])
theorem cuts_flat : ∀ l, (cutsK l).flatten = l.filter (fun p => p.kind != 3)
  | [] => rfl
  | p :: r => by
    have ih := cuts_flat r
    unfold cutsK
    split
    · rename_i h
      rw [List.filter_cons_of_neg (by simp [h]), List.flatten_cons, ih]; rfl
    · rename_i h
      rw [List.filter_cons_of_pos (by simp [h]), ← ih]
      cases hc : cutsK r with
      | nil => exact absurd hc (cuts_ne r)
      | cons x xs => simp
/-- one pick more -/
def pushK (p : Pk) : List (List Pk) → List (List Pk)
  | [] => [[p]]
  | [x] => [x ++ [p]]
  | x :: y :: r => x :: pushK p (y :: r)
theorem cuts_snoc (p : Pk) : ∀ l, cutsK (l ++ [p]) = if p.kind = 3 then cutsK l ++ [[]] else pushK p (cutsK l)
  | [] => by
    show cutsK [p] = _
    unfold cutsK
    split
    · rfl
    · rfl
  | q :: r => by
    have ih := cuts_snoc p r
    have hne := cuts_ne r
    rw [List.cons_append]
    show (if q.kind = 3 then [] :: cutsK (r ++ [p]) else match cutsK (r ++ [p]) with | [] => [[q]] | x :: xs => (q :: x) :: xs) = if p.kind = 3 then (if q.kind = 3 then [] :: cutsK r else match cutsK r with | [] => [[q]] | x :: xs => (q :: x) :: xs) ++ [[]] else pushK p (if q.kind = 3 then [] :: cutsK r else match cutsK r with | [] => [[q]] | x :: xs => (q :: x) :: xs)
    rw [ih]
    cases hc : cutsK r with
    | nil => exact absurd hc hne
    | cons x xs =>
      by_cases h1 : q.kind = 3
      · rw [if_pos h1, if_pos h1]
        split
        · rfl
        · rfl
      · rw [if_neg h1, if_neg h1]
        by_cases hp : p.kind = 3
        · rw [if_pos hp, if_pos hp]; rfl
        · rw [if_neg hp, if_neg hp]
          cases xs with
          | nil => rfl
          | cons y ys => rfl
end Go.Proofs.YtcgcndmlgfnjbaaGreatDoor

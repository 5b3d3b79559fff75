/- How many ends of each kind there are, as a text; the lines of a verdict's text. No program in this text. -/
import Derived.Test.YtcgcndmlgfnjbaaGreatDoorRepPlain
import Derived.Test.YtcgcndmlgfnjbaaGreatDoorSchFct
import Derived.Test.YtcgcndmlgfnjbaaGreatDoorRepG1
namespace Go.Proofs.YtcgcndmlgfnjbaaGreatDoor
open Go
set_option linter.unusedVariables false
def cntK (ks : List Int) (k : Int) : Nat := ks.countP (fun x => decide (x = k))
def lineC (k : Int) (n : Nat) : List UInt8 := if 0 < n then nameK k ++ 32 :: (Lib.itoa (n : Int) ++ [10]) else []
def headC (ks : List Int) (j : Nat) : List UInt8 := (List.range j).flatMap (fun k : Nat => lineC (k : Int) (cntK ks (k : Int)))
def wPaths : List UInt8 := [112, 97, 116, 104, 115]
def endC (p : Int) : List UInt8 := wPaths ++ 32 :: (Lib.itoa p ++ [10])
def countsK (ks : List Int) (p : Int) : List UInt8 := headC ks 5 ++ endC p
theorem cntK_le (ks : List Int) (k : Int) : cntK ks k ≤ ks.length := List.countP_le_length
theorem cntK_nil (k : Int) : cntK [] k = 0 := rfl
theorem cntK_snoc (ks : List Int) (x k : Int) : cntK (ks ++ [x]) k = cntK ks k + if x = k then 1 else 0 := by
  unfold cntK
  rw [List.countP_append]
  by_cases h : x = k
  · rw [if_pos h]; simp [h]
  · rw [if_neg h]; simp [h]
theorem cntK_turn (ks : List Int) (k : Int) : cntK ks.reverse k = cntK ks k := by unfold cntK; rw [List.countP_reverse]
theorem counts_turn (ks : List Int) (p : Int) : countsK ks.reverse p = countsK ks p := by
  unfold countsK headC
  have : (fun k : Nat => lineC (k : Int) (cntK ks.reverse (k : Int))) = (fun k : Nat => lineC (k : Int) (cntK ks (k : Int))) := funext fun k => by rw [cntK_turn]
  rw [this]
theorem headC_step (ks : List Int) (j : Nat) : headC ks (j + 1) = headC ks j ++ lineC (j : Int) (cntK ks (j : Int)) := by
  unfold headC
  rw [List.range_succ, List.flatMap_append]
  simp
theorem lineC_yes (k : Int) (n : Nat) (h : 0 < n) : lineC k n = nameK k ++ 32 :: (Lib.itoa (n : Int) ++ [10]) := by unfold lineC; rw [if_pos h]
theorem lineC_no (k : Int) (n : Nat) (h : ¬ 0 < n) : lineC k n = [] := by unfold lineC; rw [if_neg h]
theorem joinB_two (x y : List UInt8) : joinB [x, y] ++ [10] = x ++ 32 :: (y ++ [10]) := by
  simp [joinB, tailB]
/-- how many lines -/
def nlK (s : List UInt8) : Nat := s.countP (fun c => c == 10)
theorem nl_app (a b : List UInt8) : nlK (a ++ b) = nlK a + nlK b := List.countP_append
theorem nl_bare {x : List UInt8} (h : 10 ∉ x) : nlK x = 0 := by
  unfold nlK
  rw [List.countP_eq_zero]
  intro c hc
  simp only [beq_iff_eq]
  exact fun e => h (e ▸ hc)
theorem nl_10 : nlK [10] = 1 := rfl
theorem nl_32 (x : List UInt8) : nlK (32 :: x) = nlK x := by
  unfold nlK
  rw [List.countP_cons]; simp
theorem nl_lineC (k : Int) (n : Nat) : nlK (lineC k n) = if 0 < n then 1 else 0 := by
  unfold lineC
  by_cases h : 0 < n
  · rw [if_pos h, if_pos h, nl_app, nl_32, nl_app, nl_bare (name_bare k).2, nl_bare (itoa_bareZ _).2, nl_10]
  · rw [if_neg h, if_neg h]; rfl
theorem nl_endC (p : Int) : nlK (endC p) = 1 := by
  unfold endC
  rw [nl_app, nl_32, nl_app, nl_bare (itoa_bareZ _).2, nl_10]; rfl
/-- of how many kinds below j there are ends -/
def kindsK (ks : List Int) : Nat → Nat
  | 0 => 0
  | j + 1 => kindsK ks j + if 0 < cntK ks (j : Int) then 1 else 0
theorem nl_headC (ks : List Int) : ∀ j, nlK (headC ks j) = kindsK ks j
  | 0 => rfl
  | j + 1 => by rw [headC_step, nl_app, nl_headC ks j, nl_lineC]; rfl
theorem nl_counts (ks : List Int) (p : Int) : nlK (countsK ks p) = kindsK ks 5 + 1 := by
  unfold countsK
  rw [nl_app, nl_headC, nl_endC]
theorem cnt_none (ks : List Int) (h : ∀ x ∈ ks, x < 4) : cntK ks 4 = 0 := by
  unfold cntK
  rw [List.countP_eq_zero]
  intro x hx
  have := h x hx
  simp only [decide_eq_true_eq]
  omega
theorem kinds_four (ks : List Int) (h : ∀ x ∈ ks, x < 4) : kindsK ks 5 = kindsK ks 4 := by
  show kindsK ks 4 + (if 0 < cntK ks ((4 : Nat) : Int) then 1 else 0) = _
  rw [show ((4 : Nat) : Int) = 4 from rfl, cnt_none ks h]
  rfl
theorem cnt_pos (ks : List Int) (k : Int) : 0 < cntK ks k ↔ k ∈ ks := by
  unfold cntK
  rw [List.countP_pos_iff]
  simp
theorem nl_text : ∀ (l : List Pk), l.all rightK = true → nlK (textK l) = l.length
  | [], _ => rfl
  | p :: r, h => by
    rw [List.all_cons, Bool.and_eq_true] at h
    have ih := nl_text r h.2
    show nlK ((lineK p ++ [10]) ++ textK r) = _
    rw [nl_app, nl_app, nl_bare (line_bare p h.1), nl_10, ih, List.length_cons]; omega
theorem nl_verdict (v : Vd) (h : rightV v = true) : nlK (textV v) = 1 + v.sched.length := by
  unfold textV
  rw [nl_app, nl_bare (joinB_bare (wordsV_bare v))]
  have e10 : ∀ x : List UInt8, nlK (10 :: x) = 1 + nlK x := fun x => by
    show nlK ([10] ++ x) = _
    rw [nl_app, nl_10]
  rw [e10]
  have hr := right_kind h
  have hb := bare_of h
  by_cases h3 : v.kind = 3
  · rw [if_pos h3]
    unfold rightV at h
    rw [if_neg (by omega), if_neg (by omega), if_pos h3] at h
    simp only [Bool.and_eq_true] at h
    rw [show_all h.2, nl_text _ h.2]; omega
  · rw [if_neg h3]
    have : v.sched = [] := by
      rw [hb]
      unfold bareV
      rcases hr with k | k | k | k
      · rw [if_pos k]
      · rw [if_neg (by omega), if_pos k]
      · exact absurd k h3
      · rw [if_neg (by omega), if_neg (by omega), if_neg h3]
    rw [this]; rfl
theorem text_last : ∀ (l : List Pk), l ≠ [] → ∃ x, textK l = x ++ [10]
  | [p], _ => ⟨lineK p, by simp [textK]⟩
  | p :: q :: r, _ => by
    obtain ⟨x, hx⟩ := text_last (q :: r) (by simp)
    refine ⟨(lineK p ++ [10]) ++ x, ?_⟩
    show (lineK p ++ [10]) ++ textK (q :: r) = _
    rw [hx, List.append_assoc _ x]
theorem verdict_last (v : Vd) : ∃ x, textV v = x ++ [10] := by
  unfold textV
  by_cases h3 : v.kind = 3
  · rw [if_pos h3]
    unfold showK
    split
    · by_cases hl : v.sched = []
      · rw [hl]; exact ⟨joinB (wordsV v), by simp [textK]⟩
      · obtain ⟨x, hx⟩ := text_last v.sched hl
        exact ⟨joinB (wordsV v) ++ 10 :: x, by rw [hx]; simp⟩
    · exact ⟨joinB (wordsV v), rfl⟩
  · rw [if_neg h3]
    exact ⟨joinB (wordsV v), rfl⟩
/-- the words that kinds have -/
def firstK (k : Int) : List UInt8 := if k = 1 then [101, 114, 114, 111, 114, 32] else if k = 2 then [115, 97, 102, 101, 32] else if k = 3 then [118, 105, 111, 108, 97, 116, 105, 111, 110, 32] else [98, 117, 100, 103, 101, 116]
theorem verdict_first (v : Vd) (h : rightV v = true) : ∃ x, textV v = firstK v.kind ++ x := by
  unfold textV wordsV firstK
  rcases right_kind h with k | k | k | k
  · rw [if_pos k, if_pos k, if_neg (by omega)]
    exact ⟨_, by simp only [joinB, tailB, List.flatMap_cons, wError, List.cons_append, List.nil_append, List.append_assoc]; rfl⟩
  · rw [if_neg (by omega), if_pos k, if_neg (by omega), if_neg (by omega), if_pos k]
    exact ⟨_, by simp only [joinB, tailB, List.flatMap_cons, wSafe, List.cons_append, List.nil_append, List.append_assoc]; rfl⟩
  · rw [if_neg (by omega), if_neg (by omega), if_pos k, if_pos k, if_neg (by omega), if_neg (by omega), if_pos k]
    exact ⟨_, by simp only [joinB, tailB, List.flatMap_cons, wViol, List.cons_append, List.nil_append, List.append_assoc]; rfl⟩
  · rw [if_neg (by omega), if_neg (by omega), if_neg (by omega), if_neg (by omega), if_neg (by omega), if_neg (by omega), if_neg (by omega)]
    exact ⟨[10], by simp [joinB, tailB, wBudget]⟩
end Go.Proofs.YtcgcndmlgfnjbaaGreatDoor
/- How many ends of each kind there are, as a text: both walks. -/
namespace Go.Proofs.YtcgcndmlgfnjbaaGreatDoor
open Go Go.RowKit
set_option linter.unusedVariables false
/-- an end as it lies: its numbers and the value of its cells -/
structure Ev where
  k : Int
  wh : Int
  cr : Int
  a : Option Addr
  n : Nat
  c : Nat
def Ev.v (x : Ev) : Value := .slice x.a x.n x.c
def Ev.cells (x : Ev) : List Value := [.int .i64 x.k, .int .i64 x.wh, .int .i64 x.cr, x.v]
abbrev Ends (w : World) (v : Value) (l : List Ev) : Prop := SlN w v 4 l.length (l.flatMap Ev.cells)
def ksE (l : List Ev) : List Int := l.map (·.k)
theorem ksE_take (l : List Ev) (j : Nat) (h : j < l.length) : ksE (l.take (j + 1)) = ksE (l.take j) ++ [l[j].k] := by
  unfold ksE
  rw [List.take_succ_eq_append_getElem h, List.map_append]; rfl
structure EvAt (w : World) (b o : Nat) (x : Ev) : Prop where
  k : w.cell? ⟨b, o, none⟩ = some (.int .i64 x.k)
  wh : w.cell? ⟨b, o + 1, none⟩ = some (.int .i64 x.wh)
  cr : w.cell? ⟨b, o + 2, none⟩ = some (.int .i64 x.cr)
  v : w.cell? ⟨b, o + 3, none⟩ = some x.v
theorem Ends.at_ {w : World} {v : Value} {l : List Ev} (h : Ends w v l) (h0 : 0 < l.length) :
    ∃ b off c, v = .slice (some ⟨b, off, none⟩) l.length c ∧ l.length ≤ c ∧ b < w.heap.size ∧ ∀ i (hi : i < l.length), EvAt w b (off + i * 4) l[i] := by
  obtain ⟨_, A, c, hv, hc, hf⟩ := h
  obtain ⟨b, off, hA, hlt, hcell⟩ := hf h0
  subst hA
  refine ⟨b, off, c, hv, hc, hlt, fun i hi => ⟨?_, ?_, ?_, ?_⟩⟩
  · have hg := flat_getElem Ev.cells 4 (fun _ => rfl) l i 0 hi (by omega)
    have := hcell (i * 4 + 0) _ hg
    rw [show off + (i * 4 + 0) = off + i * 4 by omega] at this
    exact this
  · have hg := flat_getElem Ev.cells 4 (fun _ => rfl) l i 1 hi (by omega)
    have := hcell (i * 4 + 1) _ hg
    rw [show off + (i * 4 + 1) = off + i * 4 + 1 by omega] at this
    exact this
  · have hg := flat_getElem Ev.cells 4 (fun _ => rfl) l i 2 hi (by omega)
    have := hcell (i * 4 + 2) _ hg
    rw [show off + (i * 4 + 2) = off + i * 4 + 2 by omega] at this
    exact this
  · have hg := flat_getElem Ev.cells 4 (fun _ => rfl) l i 3 hi (by omega)
    have := hcell (i * 4 + 3) _ hg
    rw [show off + (i * 4 + 3) = off + i * 4 + 3 by omega] at this
    exact this
/-- a result as a value -/
def reV (ev : Value) (p : Int) (b : En) (bv sv : Value) : Value := .agg #[ev, .int .i64 p, .int .i64 b.kind, .int .i64 b.what, .int .i64 b.crashes, bv, sv]
theorem nameK_len (k : Int) : (nameK k).length ≤ 5 := by
  unfold nameK
  repeat' split
  all_goals decide
theorem lineC_len (k : Int) (n : Nat) (hn : n ≤ 1000000000) : (lineC k n).length ≤ 30 := by
  unfold lineC
  split
  · have h1 := nameK_len k
    have h2 := itoaZ_len (n : Int) ⟨by omega, by omega⟩
    simp only [List.length_append, List.length_cons, List.length_nil]
    omega
  · simp
theorem headC_len (ks : List Int) (hn : ks.length ≤ 1000000000) : ∀ j, (headC ks j).length ≤ 30 * j
  | 0 => by simp [headC]
  | j + 1 => by
    rw [headC_step, List.length_append]
    have := headC_len ks hn j
    have := lineC_len (j : Int) (cntK ks (j : Int)) (Nat.le_trans (cntK_le _ _) hn)
    omega
theorem pLine2_c (x : List UInt8) (n : Int) (hx : x.length ≤ 20) (hn : I64 n) (v : Value) (w : World) (hv : SlN w v 1 2 [.iface 9 (.string (str x)), .iface 3 (.int .i64 n)]) (hE : Env w) :
    Calls Tryz.prog 31 #[v] w fun e w' => e = .returned (.string (str (x ++ 32 :: (Lib.itoa n ++ [10])))) ∧ Below w.heap.size w w' := by
  have h2 := itoaZ_len n hn
  have hj := joinB_two x (Lib.itoa n)
  have hlen : (joinB [x, Lib.itoa n]).length ≤ 100 := by
    have := congrArg List.length hj
    simp only [List.length_append, List.length_cons, List.length_nil] at this
    omega
  have := line_c [.txt x, .num n] (by show 2 ≤ _; omega) (by show 2 ≤ _; omega) (by show (joinB [x, Lib.itoa n]).length ≤ _; omega) v w hv (fun y hy => by
    simp only [List.mem_cons, List.not_mem_nil, or_false] at hy
    rcases hy with rfl | rfl
    · exact True.intro
    · exact hn) hE
  rw [show ([It.txt x, It.num n].flatMap It.words) = [x, Lib.itoa n] from rfl, hj] at this
  exact this
/-- the numbers of ends of each kind, in a block of their own -/
structure Cts (w : World) (b : Nat) (ks : List Int) : Prop where
  at_ : ∀ k : Nat, k < 5 → w.cell? ⟨b, k, none⟩ = some (.int .i64 (cntK ks (k : Int) : Nat))
  frz : ∀ j : Nat, w.frozen? ⟨b, j, none⟩ = false
  lt : b < w.heap.size
theorem Cts.below {w w' : World} {b : Nat} {ks : List Int} (h : Cts w b ks) (hb : Below w.heap.size w w') : Cts w' b ks :=
  ⟨fun k hk => (hb.cell (p := ⟨b, k, none⟩) h.lt).trans (h.at_ k hk), fun j => (hb.frozen (p := ⟨b, j, none⟩) h.lt).trans (h.frz j), Nat.lt_of_lt_of_le h.lt hb.size⟩
theorem Cts.one {w : World} {b : Nat} {ks : List Int} (h : Cts w b ks) (k : Nat) (hk : k < 5) (n : Int) (hn : n = (cntK ks (k : Int) : Nat) + 1) : Cts (w.setCell ⟨b, k, none⟩ (.int .i64 n)) b (ks ++ [(k : Int)]) := by
  refine ⟨fun i hi => ?_, fun j => by simpa using h.frz j, by simp [World.setCell, h.lt]⟩
  rw [cntK_snoc]
  by_cases e : k = i
  · subst e
    have hc := h.at_ k hk
    rw [if_pos rfl]
    simp [World.cell?_setCell_same', hc, hn]
  · rw [if_neg (by omega), World.cell?_setCell_other _ _ _ _ (by first | (simp; done) | (simp; exact fun e2 => e e2.symm))]
    exact h.at_ i hi
theorem Cts.none {w : World} {b : Nat} {ks : List Int} (h : Cts w b ks) (x : Int) (hx : between x 0 4 = false) : Cts w b (ks ++ [x]) := by
  refine ⟨fun i hi => ?_, h.frz, h.lt⟩
  rw [cntK_snoc, if_neg (fun e => by unfold between at hx; subst e; simp at hx; omega)]
  exact h.at_ i hi
theorem headC_str (ks : List Int) (i : Nat) (n : Nat) (h : n = cntK ks (i : Int)) (h0 : 0 < n) : str (headC ks i) ++ str (nameK (i : Int) ++ 32 :: (Lib.itoa (n : Int) ++ [10])) = str (headC ks (i + 1)) := by
  rw [str_snoc, headC_step, ← h, lineC_yes _ _ h0]
theorem headC_skip (ks : List Int) (i : Nat) (n : Nat) (h : n = cntK ks (i : Int)) (h0 : ¬ 0 < n) : headC ks (i + 1) = headC ks i := by
  rw [headC_step, ← h, lineC_no _ _ h0, List.append_nil]
set_option maxRecDepth 100000 in
set_option maxHeartbeats 8000000 in
theorem pCounts_c (l : List Ev) (hl : l.length ≤ 1000000000) (p : Int) (hp : I64 p) (b : En) (ev bv sv : Value) (w : World) (hv : Ends w ev l) (hE : Env w) :
    Calls Tryz.prog 19 #[reV ev p b bv sv] w fun e w' => e = .returned (.string (str (countsK (ksE l) p))) ∧ Below w.heap.size w w' := by
  obtain ⟨_, A0, c0, rfl, hc0, _⟩ := id hv
  have HV := Lib.hid hv
  have HE := Lib.hid hE
  clear hv hE
  unfold reV
  go_enter Tryz.func19, Tryz.ntmps19
  go_upto_region 1 with fail
  have HB0 := Lib.hid (al w (.cells #[.slice A0 l.length c0, .int .i64 p, .int .i64 b.kind, .int .i64 b.what, .int .i64 b.crashes, bv, sv] 40))
  have HP0 : Hid ((w.alloc (.cells #[.slice A0 l.length c0, .int .i64 p, .int .i64 b.kind, .int .i64 b.what, .int .i64 b.crashes, bv, sv] 40)).cell? ⟨w.heap.size, 0, none⟩ = some (.slice A0 l.length c0)) := cells_new _ _ _ _ _ rfl
  have HP1 : Hid ((w.alloc (.cells #[.slice A0 l.length c0, .int .i64 p, .int .i64 b.kind, .int .i64 b.what, .int .i64 b.crashes, bv, sv] 40)).cell? ⟨w.heap.size, 1, none⟩ = some (.int .i64 p)) := cells_new _ _ _ _ _ rfl
  have hsz : (w.alloc (.cells #[.slice A0 l.length c0, .int .i64 p, .int .i64 b.kind, .int .i64 b.what, .int .i64 b.crashes, bv, sv] 40)).heap.size = w.heap.size + 1 := World.size_alloc _ _
  generalize w.alloc _ = U at HB0 HP0 HP1 hsz ⊢
  go_upto_region 2 with fail
  have HC0 : Hid (Cts (U.alloc (.cells #[.int .i64 0, .int .i64 0, .int .i64 0, .int .i64 0, .int .i64 0] 55)) (w.heap.size + 1) (ksE (l.take 0))) := by
    rw [← hsz]
    refine ⟨fun k hk => ?_, fun j => by simp, by rw [World.size_alloc]; omega⟩
    have hk2 : k = 0 ∨ k = 1 ∨ k = 2 ∨ k = 3 ∨ k = 4 := by omega
    rcases hk2 with rfl | rfl | rfl | rfl | rfl <;> exact cells_new _ _ _ _ _ rfl
  have HB1 := Lib.hid (balloc HB0.out (.cells #[.int .i64 0, .int .i64 0, .int .i64 0, .int .i64 0, .int .i64 0] 55))
  have HQ : Hid (∀ u, Below U.heap.size U u → u.cell? ⟨w.heap.size, 0, none⟩ = some (.slice A0 l.length c0) ∧ u.cell? ⟨w.heap.size, 1, none⟩ = some (.int .i64 p)) := fun u hu =>
    ⟨(hu.cell (p := ⟨w.heap.size, 0, none⟩) (by simp only; omega)).trans HP0.out, (hu.cell (p := ⟨w.heap.size, 1, none⟩) (by simp only; omega)).trans HP1.out⟩
  have HUB := Lib.hid (al U (.cells #[.int .i64 0, .int .i64 0, .int .i64 0, .int .i64 0, .int .i64 0] 55))
  generalize U.alloc _ = V at HC0 HB1 HUB ⊢
  obtain ⟨q0, q1⟩ := HQ.out V HUB.out
  have HSZ := Lib.hid hsz
  go_wp2_with fail
  clear q0 q1
  go_loopw [12] (fun k wr => ∃ j : Nat, k = .int .i64 j ∧ j ≤ l.length ∧ Cts wr (w.heap.size + 1) (ksE (l.take j)) ∧ Below U.heap.size U wr) (fun k _ => l.length - (intOf k).toNat)
  case atStart => exact ⟨0, rfl, Nat.zero_le _, HC0.out, HUB.out⟩
  case round =>
    obtain ⟨j, rfl, hj, hct, hbu⟩ := hrel
    have hb := bt HB0.out hbu
    have HCT := Lib.hid hct
    have HB := Lib.hid hb
    have HBU := Lib.hid hbu
    clear hct hbu
    have hj0 : (0 : Int) ≤ (j : Int) := Int.natCast_nonneg _
    by_cases hjl : j < l.length
    · obtain ⟨eb, off, c, hE0, hcc, hbt, hat⟩ := Ends.at_ (l := l) HV.out (by omega)
      cases hE0
      have hx := hat j hjl
      have hx0 := (hb.cell (p := ⟨eb, _, none⟩) hbt).trans hx.k
      have hx1 := (hb.cell (p := ⟨eb, _, none⟩) hbt).trans hx.wh
      have hx2 := (hb.cell (p := ⟨eb, _, none⟩) hbt).trans hx.cr
      have hx3 := (hb.cell (p := ⟨eb, _, none⟩) hbt).trans hx.v
      have HNX := Lib.hid (ksE_take l j hjl)
      have hjl2 : (j : Int) < (l.length : Int) := by omega
      clear hx hat hb
      generalize l[j] = x at hx0 hx1 hx2 hx3 HNX
      obtain ⟨xk, xw, xc, xa, xn, xm⟩ := x
      unfold Ev.v at hx3
      simp only at hx0 hx1 hx2 hx3 HNX
      cases hw : between xk 0 4
      · have HNO : Hid (∀ u, Cts u (w.heap.size + 1) (ksE (l.take j)) → Cts u (w.heap.size + 1) (ksE (l.take (j + 1)))) := fun u hu => by rw [HNX.out]; exact hu.none xk hw
        have HWI := Lib.hid (fun u => within_r xk 0 4 u)
        rw [hw] at HWI
        clear hw
        go_upto_region 5 with fail
        have e0 : (wr.alloc (.cells #[.int .i64 xk, .int .i64 xw, .int .i64 xc, .slice xa xn xm] 25)).cell? ⟨wr.heap.size, 0, none⟩ = some (.int .i64 xk) := cells_new _ _ _ _ _ rfl
        have ha := Lib.hid (al wr (.cells #[.int .i64 xk, .int .i64 xw, .int .i64 xc, .slice xa xn xm] 25))
        clear hx0 hx1 hx2 hx3
        generalize wr.alloc _ = X at e0 ha ⊢
        go_wp2_with (go_at_call 23; refine (HWI.out _).mono ?_; rintro e w2 ⟨rfl, rfl⟩)
        go_roundw
        case rel => exact ⟨j + 1, by go_num, by omega, HNO.out _ (HCT.out.below ha.out), bt HBU.out ha.out⟩
        case measure => simp [intOf]; omega
      · have hk : ∃ k : Nat, xk = (k : Int) ∧ k < 5 := by
          unfold between at hw
          simp only [Bool.and_eq_true, decide_eq_true_eq] at hw
          exact ⟨xk.toNat, by omega, by omega⟩
        obtain ⟨k, rfl, hk5⟩ := hk
        have HWI := Lib.hid (fun u => within_r (k : Int) 0 4 u)
        rw [hw] at HWI
        clear hw
        go_upto_region 5 with fail
        have e0 : (wr.alloc (.cells #[.int .i64 (k : Int), .int .i64 xw, .int .i64 xc, .slice xa xn xm] 25)).cell? ⟨wr.heap.size, 0, none⟩ = some (.int .i64 k) := cells_new _ _ _ _ _ rfl
        have ha := Lib.hid (al wr (.cells #[.int .i64 (k : Int), .int .i64 xw, .int .i64 xc, .slice xa xn xm] 25))
        clear hx0 hx1 hx2 hx3
        generalize wr.alloc _ = X at e0 ha ⊢
        have HCX := Lib.hid (HCT.out.below ha.out)
        have e1 := HCX.out.at_ k hk5
        have f1 := HCX.out.frz k
        have hk0 : (0 : Int) ≤ (k : Int) := Int.natCast_nonneg _
        have hk50 : (k : Int) < 5 := by omega
        have hle : cntK (ksE (l.take j)) (k : Int) ≤ 1000000000 := by
          have h1 := cntK_le (ksE (l.take j)) (k : Int)
          have h2 : (ksE (l.take j)).length = j := by unfold ksE; rw [List.length_map, List.length_take]; omega
          omega
        have HN2 : Hid (∀ u (n : Int), Cts u (w.heap.size + 1) (ksE (l.take j)) → n = (cntK (ksE (l.take j)) (k : Int) : Nat) + 1 → Cts (u.setCell ⟨w.heap.size + 1, k, none⟩ (.int .i64 n)) (w.heap.size + 1) (ksE (l.take (j + 1)))) := fun u (n : Int) hu hn => by rw [HNX.out]; exact hu.one k hk5 n hn
        generalize cntK (ksE (l.take j)) (k : Int) = m at e1 hle HN2
        go_wp2_with (go_at_call 23; refine (HWI.out _).mono ?_; rintro e w2 ⟨rfl, rfl⟩)
        go_roundw
        case rel => exact ⟨j + 1, by go_num, by omega, HN2.out _ _ HCX.out (by go_num), below_set (bt HBU.out ha.out) (by have := HSZ.out; omega) _⟩
        case measure => simp [intOf]; omega
    · obtain rfl : j = l.length := by omega
      have hct : Cts wr (w.heap.size + 1) (ksE l) := by have := HCT.out; rwa [List.take_length] at this
      obtain ⟨q0, q1⟩ := HQ.out wr HBU.out
      have c0' := hct.at_ 0 (by decide)
      have c1' := hct.at_ 1 (by decide)
      have c2' := hct.at_ 2 (by decide)
      have c3' := hct.at_ 3 (by decide)
      have c4' := hct.at_ 4 (by decide)
      have hks : (ksE l).length ≤ 1000000000 := by unfold ksE; rw [List.length_map]; exact hl
      have HRT : Hid (countsK (ksE l) p = countsK (ksE l) p) := rfl
      have HK0 := Lib.hid (fun k => Nat.le_trans (cntK_le (ksE l) k) hks)
      have HLEN := Lib.hid (headC_len (ksE l) hks)
      have HBW := Lib.hid hb
      clear hct hb hks
      generalize hkk : ksE l = ks at c0' c1' c2' c3' c4' HK0 HLEN HRT ⊢
      replace HRT := Lib.hid (show countsK ks p = countsK (ksE l) p by rw [hkk])
      clear hkk
      have HG0 : Hid (cntK ks ((0 : Nat) : Int) ≤ 1000000000 ∧ cntK ks ((1 : Nat) : Int) ≤ 1000000000 ∧ cntK ks ((2 : Nat) : Int) ≤ 1000000000 ∧ cntK ks ((3 : Nat) : Int) ≤ 1000000000 ∧ cntK ks ((4 : Nat) : Int) ≤ 1000000000) := ⟨HK0.out _, HK0.out _, HK0.out _, HK0.out _, HK0.out _⟩
      have HLI := Lib.hid (fun (i n : Nat) (hn : n ≤ 1000000000) (v : Value) (u : World) (hv : SlN u v 1 2 [.iface 9 (.string (str (nameK (i : Int)))), .iface 3 (.int .i64 (n : Int))]) (hE : Env u) => pLine2_c (nameK (i : Int)) (n : Int) (by have := nameK_len (i : Int); omega) ⟨by omega, by omega⟩ v u hv hE)
      generalize hg0 : cntK ks ((0 : Nat) : Int) = n0 at c0' HG0
      generalize hg1 : cntK ks ((1 : Nat) : Int) = n1 at c1' HG0
      generalize hg2 : cntK ks ((2 : Nat) : Int) = n2 at c2' HG0
      generalize hg3 : cntK ks ((3 : Nat) : Int) = n3 at c3' HG0
      generalize hg4 : cntK ks ((4 : Nat) : Int) = n4 at c4' HG0
      have HG := Lib.hid (show _ ∧ _ ∧ _ ∧ _ ∧ _ from ⟨hg0, hg1, hg2, hg3, hg4⟩)
      clear hg0 hg1 hg2 hg3 hg4
      go_wp2_with fail
      clear q0 q1 c0' c1' c2' c3' c4'
      go_loopw [6, 27] (fun t k wx => ∃ i : Nat, k = .int .i64 i ∧ i ≤ 5 ∧ t = .string (str (headC ks i)) ∧ Below U.heap.size U wx) (fun _ k _ => 5 - (intOf k).toNat)
      case atStart => exact ⟨0, rfl, by decide, rfl, HBU.out⟩
      case round =>
        obtain ⟨i, hk, hi, rfl, hbx⟩ := hrel
        have HBX := Lib.hid hbx
        have HEX := Lib.hid (HE.out.below (bt HB0.out hbx))
        obtain ⟨q0, q1⟩ := HQ.out wr hbx
        have hsl := HLEN.out i
        have hz1 : (str (headC ks i)).size ≤ 150 := by rw [str_size]; omega
        clear hbx hsl
        have h5 : i = 0 ∨ i = 1 ∨ i = 2 ∨ i = 3 ∨ i = 4 ∨ i = 5 := by omega
        rcases h5 with rfl | rfl | rfl | rfl | rfl | rfl
        · obtain rfl : u27 = .int .i64 0 := hk
          have ix : ∀ W, (Instr.index 55 (.agg #[.int .i64 n0, .int .i64 n1, .int .i64 n2, .int .i64 n3, .int .i64 n4]) (.int .i64 0)).run Tryz.prog W = .ok (.int .i64 n0) W := fun _ => by kernel_rfl
          have hg := HG.out.1.symm
          have hgl := HG0.out.1
          by_cases hn : 0 < n0
          · have hn2 : (0 : Int) < (n0 : Int) := by omega
            have hap := headC_str ks 0 n0 hg hn
            have HNM := Lib.hid (fun u => pName_c ((0 : Nat) : Int) u)
            have HLC := Lib.hid (fun v u hv hE => HLI.out 0 n0 hgl v u hv hE)
            have hz2 : (str (nameK ((0 : Nat) : Int) ++ 32 :: (Lib.itoa (n0 : Int) ++ [10]))).size ≤ 30 := by
              have := lineC_len ((0 : Nat) : Int) n0 hgl
              rw [lineC_yes _ _ hn] at this
              rw [str_size]; exact this
            have HAP := Lib.hid hap
            clear hap hg
            generalize str (headC ks 0) = S1 at hz1 HAP ⊢
            generalize str (nameK ((0 : Nat) : Int) ++ 32 :: (Lib.itoa (n0 : Int) ++ [10])) = S2 at hz2 HAP HLC
            generalize str (nameK ((0 : Nat) : Int)) = S3 at HNM HLC
            go_wp2_with (first
              | (go_at_call 32; refine (HNM.out _).mono ?_; rintro e w3 ⟨rfl, rfl⟩)
              | (go_at_call 31; refine (HLC.out _ _ (sl_new wr [_, _] _ 2 rfl) (HEX.out.below (al wr _))).mono ?_; rintro e w4 ⟨rfl, hb4⟩))
            go_roundw
            case rel => exact ⟨0 + 1, by go_num, by omega, by rw [HAP.out], bt HBX.out (bt (al wr _) hb4)⟩
            case measure => simp [intOf]
          · have hn2 : ¬ (0 : Int) < (n0 : Int) := by omega
            have HSK := Lib.hid (headC_skip ks 0 n0 hg hn)
            clear hg
            go_wp2_with fail
            go_roundw
            case rel => exact ⟨0 + 1, by go_num, by omega, by rw [HSK.out], HBX.out⟩
            case measure => simp [intOf]
        · obtain rfl : u27 = .int .i64 1 := hk
          have ix : ∀ W, (Instr.index 55 (.agg #[.int .i64 n0, .int .i64 n1, .int .i64 n2, .int .i64 n3, .int .i64 n4]) (.int .i64 1)).run Tryz.prog W = .ok (.int .i64 n1) W := fun _ => by kernel_rfl
          have hg := HG.out.2.1.symm
          have hgl := HG0.out.2.1
          by_cases hn : 0 < n1
          · have hn2 : (0 : Int) < (n1 : Int) := by omega
            have hap := headC_str ks 1 n1 hg hn
            have HNM := Lib.hid (fun u => pName_c ((1 : Nat) : Int) u)
            have HLC := Lib.hid (fun v u hv hE => HLI.out 1 n1 hgl v u hv hE)
            have hz2 : (str (nameK ((1 : Nat) : Int) ++ 32 :: (Lib.itoa (n1 : Int) ++ [10]))).size ≤ 30 := by
              have := lineC_len ((1 : Nat) : Int) n1 hgl
              rw [lineC_yes _ _ hn] at this
              rw [str_size]; exact this
            have HAP := Lib.hid hap
            clear hap hg
            generalize str (headC ks 1) = S1 at hz1 HAP ⊢
            generalize str (nameK ((1 : Nat) : Int) ++ 32 :: (Lib.itoa (n1 : Int) ++ [10])) = S2 at hz2 HAP HLC
            generalize str (nameK ((1 : Nat) : Int)) = S3 at HNM HLC
            go_wp2_with (first
              | (go_at_call 32; refine (HNM.out _).mono ?_; rintro e w3 ⟨rfl, rfl⟩)
              | (go_at_call 31; refine (HLC.out _ _ (sl_new wr [_, _] _ 2 rfl) (HEX.out.below (al wr _))).mono ?_; rintro e w4 ⟨rfl, hb4⟩))
            go_roundw
            case rel => exact ⟨1 + 1, by go_num, by omega, by rw [HAP.out], bt HBX.out (bt (al wr _) hb4)⟩
            case measure => simp [intOf]
          · have hn2 : ¬ (0 : Int) < (n1 : Int) := by omega
            have HSK := Lib.hid (headC_skip ks 1 n1 hg hn)
            clear hg
            go_wp2_with fail
            go_roundw
            case rel => exact ⟨1 + 1, by go_num, by omega, by rw [HSK.out], HBX.out⟩
            case measure => simp [intOf]
        · obtain rfl : u27 = .int .i64 2 := hk
          have ix : ∀ W, (Instr.index 55 (.agg #[.int .i64 n0, .int .i64 n1, .int .i64 n2, .int .i64 n3, .int .i64 n4]) (.int .i64 2)).run Tryz.prog W = .ok (.int .i64 n2) W := fun _ => by kernel_rfl
          have hg := HG.out.2.2.1.symm
          have hgl := HG0.out.2.2.1
          by_cases hn : 0 < n2
          · have hn2 : (0 : Int) < (n2 : Int) := by omega
            have hap := headC_str ks 2 n2 hg hn
            have HNM := Lib.hid (fun u => pName_c ((2 : Nat) : Int) u)
            have HLC := Lib.hid (fun v u hv hE => HLI.out 2 n2 hgl v u hv hE)
            have hz2 : (str (nameK ((2 : Nat) : Int) ++ 32 :: (Lib.itoa (n2 : Int) ++ [10]))).size ≤ 30 := by
              have := lineC_len ((2 : Nat) : Int) n2 hgl
              rw [lineC_yes _ _ hn] at this
              rw [str_size]; exact this
            have HAP := Lib.hid hap
            clear hap hg
            generalize str (headC ks 2) = S1 at hz1 HAP ⊢
            generalize str (nameK ((2 : Nat) : Int) ++ 32 :: (Lib.itoa (n2 : Int) ++ [10])) = S2 at hz2 HAP HLC
            generalize str (nameK ((2 : Nat) : Int)) = S3 at HNM HLC
            go_wp2_with (first
              | (go_at_call 32; refine (HNM.out _).mono ?_; rintro e w3 ⟨rfl, rfl⟩)
              | (go_at_call 31; refine (HLC.out _ _ (sl_new wr [_, _] _ 2 rfl) (HEX.out.below (al wr _))).mono ?_; rintro e w4 ⟨rfl, hb4⟩))
            go_roundw
            case rel => exact ⟨2 + 1, by go_num, by omega, by rw [HAP.out], bt HBX.out (bt (al wr _) hb4)⟩
            case measure => simp [intOf]
          · have hn2 : ¬ (0 : Int) < (n2 : Int) := by omega
            have HSK := Lib.hid (headC_skip ks 2 n2 hg hn)
            clear hg
            go_wp2_with fail
            go_roundw
            case rel => exact ⟨2 + 1, by go_num, by omega, by rw [HSK.out], HBX.out⟩
            case measure => simp [intOf]
        · obtain rfl : u27 = .int .i64 3 := hk
          have ix : ∀ W, (Instr.index 55 (.agg #[.int .i64 n0, .int .i64 n1, .int .i64 n2, .int .i64 n3, .int .i64 n4]) (.int .i64 3)).run Tryz.prog W = .ok (.int .i64 n3) W := fun _ => by kernel_rfl
          have hg := HG.out.2.2.2.1.symm
          have hgl := HG0.out.2.2.2.1
          by_cases hn : 0 < n3
          · have hn2 : (0 : Int) < (n3 : Int) := by omega
            have hap := headC_str ks 3 n3 hg hn
            have HNM := Lib.hid (fun u => pName_c ((3 : Nat) : Int) u)
            have HLC := Lib.hid (fun v u hv hE => HLI.out 3 n3 hgl v u hv hE)
            have hz2 : (str (nameK ((3 : Nat) : Int) ++ 32 :: (Lib.itoa (n3 : Int) ++ [10]))).size ≤ 30 := by
              have := lineC_len ((3 : Nat) : Int) n3 hgl
              rw [lineC_yes _ _ hn] at this
              rw [str_size]; exact this
            have HAP := Lib.hid hap
            clear hap hg
            generalize str (headC ks 3) = S1 at hz1 HAP ⊢
            generalize str (nameK ((3 : Nat) : Int) ++ 32 :: (Lib.itoa (n3 : Int) ++ [10])) = S2 at hz2 HAP HLC
            generalize str (nameK ((3 : Nat) : Int)) = S3 at HNM HLC
            go_wp2_with (first
              | (go_at_call 32; refine (HNM.out _).mono ?_; rintro e w3 ⟨rfl, rfl⟩)
              | (go_at_call 31; refine (HLC.out _ _ (sl_new wr [_, _] _ 2 rfl) (HEX.out.below (al wr _))).mono ?_; rintro e w4 ⟨rfl, hb4⟩))
            go_roundw
            case rel => exact ⟨3 + 1, by go_num, by omega, by rw [HAP.out], bt HBX.out (bt (al wr _) hb4)⟩
            case measure => simp [intOf]
          · have hn2 : ¬ (0 : Int) < (n3 : Int) := by omega
            have HSK := Lib.hid (headC_skip ks 3 n3 hg hn)
            clear hg
            go_wp2_with fail
            go_roundw
            case rel => exact ⟨3 + 1, by go_num, by omega, by rw [HSK.out], HBX.out⟩
            case measure => simp [intOf]
        · obtain rfl : u27 = .int .i64 4 := hk
          have ix : ∀ W, (Instr.index 55 (.agg #[.int .i64 n0, .int .i64 n1, .int .i64 n2, .int .i64 n3, .int .i64 n4]) (.int .i64 4)).run Tryz.prog W = .ok (.int .i64 n4) W := fun _ => by kernel_rfl
          have hg := HG.out.2.2.2.2.symm
          have hgl := HG0.out.2.2.2.2
          by_cases hn : 0 < n4
          · have hn2 : (0 : Int) < (n4 : Int) := by omega
            have hap := headC_str ks 4 n4 hg hn
            have HNM := Lib.hid (fun u => pName_c ((4 : Nat) : Int) u)
            have HLC := Lib.hid (fun v u hv hE => HLI.out 4 n4 hgl v u hv hE)
            have hz2 : (str (nameK ((4 : Nat) : Int) ++ 32 :: (Lib.itoa (n4 : Int) ++ [10]))).size ≤ 30 := by
              have := lineC_len ((4 : Nat) : Int) n4 hgl
              rw [lineC_yes _ _ hn] at this
              rw [str_size]; exact this
            have HAP := Lib.hid hap
            clear hap hg
            generalize str (headC ks 4) = S1 at hz1 HAP ⊢
            generalize str (nameK ((4 : Nat) : Int) ++ 32 :: (Lib.itoa (n4 : Int) ++ [10])) = S2 at hz2 HAP HLC
            generalize str (nameK ((4 : Nat) : Int)) = S3 at HNM HLC
            go_wp2_with (first
              | (go_at_call 32; refine (HNM.out _).mono ?_; rintro e w3 ⟨rfl, rfl⟩)
              | (go_at_call 31; refine (HLC.out _ _ (sl_new wr [_, _] _ 2 rfl) (HEX.out.below (al wr _))).mono ?_; rintro e w4 ⟨rfl, hb4⟩))
            go_roundw
            case rel => exact ⟨4 + 1, by go_num, by omega, by rw [HAP.out], bt HBX.out (bt (al wr _) hb4)⟩
            case measure => simp [intOf]
          · have hn2 : ¬ (0 : Int) < (n4 : Int) := by omega
            have HSK := Lib.hid (headC_skip ks 4 n4 hg hn)
            clear hg
            go_wp2_with fail
            go_roundw
            case rel => exact ⟨4 + 1, by go_num, by omega, by rw [HSK.out], HBX.out⟩
            case measure => simp [intOf]
        · obtain rfl : u27 = .int .i64 5 := hk
          have HLP := Lib.hid (fun (v : Value) (u : World) (hv : SlN u v 1 2 [.iface 9 (.string ⟨#[112, 97, 116, 104, 115]⟩), .iface 3 (.int .i64 p)]) (hE : Env u) => pLine2_c wPaths p (by decide) hp v u hv hE)
          have hz2 : (str (wPaths ++ 32 :: (Lib.itoa p ++ [10]))).size ≤ 40 := by
            have := itoaZ_len p hp
            rw [str_size]
            simp only [List.length_append, List.length_cons, List.length_nil, wPaths]
            omega
          have HAP : Hid (str (headC ks 5) ++ str (wPaths ++ 32 :: (Lib.itoa p ++ [10])) = str (countsK ks p)) := (str_snoc _ _).trans rfl
          generalize str (headC ks 5) = S1 at hz1 HAP ⊢
          generalize str (wPaths ++ 32 :: (Lib.itoa p ++ [10])) = S2 at hz2 HAP HLP
          go_wp2_with (go_at_call 31; refine (HLP.out _ _ (sl_new wr [_, _] _ 2 rfl) (HEX.out.below (al wr _))).mono ?_; rintro e w4 ⟨rfl, hb4⟩)
          go_ret
          exact ⟨ret_str (HAP.out.trans (congrArg str HRT.out)), bt HB0.out (bt HBX.out (bt (al wr _) hb4))⟩
/-- the ends of a kind among the first ones -/
theorem cnt_step (l : List Ev) (i : Nat) (h : i < l.length) (k : Int) : cntK (ksE (l.take (i + 1))) k = cntK (ksE (l.take i)) k + if l[i].k = k then 1 else 0 := by
  rw [ksE_take l i h, cntK_snoc]
set_option maxRecDepth 100000 in
set_option maxHeartbeats 8000000 in
theorem rCounts_c (l : List Ev) (hl : l.length ≤ 1000000000) (p : Int) (hp : I64 p) (b : En) (ev bv sv : Value) (w : World) (hv : Ends w ev l) :
    Calls Tryz.prog 20 #[reV ev p b bv sv] w fun e w' => e = .returned (.string (str (countsK (ksE l) p))) ∧ Below w.heap.size w w' := by
  obtain ⟨_, A0, c0, rfl, hc0, _⟩ := id hv
  have HV := Lib.hid hv
  have hks : (ksE l).length ≤ 1000000000 := by unfold ksE; rw [List.length_map]; exact hl
  have HK0 := Lib.hid (fun k => Nat.le_trans (cntK_le (ksE l) k) hks)
  have HLEN := Lib.hid (headC_len (ksE l) hks)
  clear hv hks
  unfold reV
  go_enter Tryz.func20, Tryz.ntmps20
  go_upto_region 1 with fail
  have HB0 := Lib.hid (al w (.cells #[.slice A0 l.length c0, .int .i64 p, .int .i64 b.kind, .int .i64 b.what, .int .i64 b.crashes, bv, sv] 40))
  have HP0 : Hid ((w.alloc (.cells #[.slice A0 l.length c0, .int .i64 p, .int .i64 b.kind, .int .i64 b.what, .int .i64 b.crashes, bv, sv] 40)).cell? ⟨w.heap.size, 0, none⟩ = some (.slice A0 l.length c0)) := cells_new _ _ _ _ _ rfl
  have HP1 : Hid ((w.alloc (.cells #[.slice A0 l.length c0, .int .i64 p, .int .i64 b.kind, .int .i64 b.what, .int .i64 b.crashes, bv, sv] 40)).cell? ⟨w.heap.size, 1, none⟩ = some (.int .i64 p)) := cells_new _ _ _ _ _ rfl
  have hsz : (w.alloc (.cells #[.slice A0 l.length c0, .int .i64 p, .int .i64 b.kind, .int .i64 b.what, .int .i64 b.crashes, bv, sv] 40)).heap.size = w.heap.size + 1 := World.size_alloc _ _
  generalize w.alloc _ = U at HB0 HP0 HP1 hsz ⊢
  have HQ : Hid (∀ u, Below U.heap.size U u → u.cell? ⟨w.heap.size, 0, none⟩ = some (.slice A0 l.length c0) ∧ u.cell? ⟨w.heap.size, 1, none⟩ = some (.int .i64 p)) := fun u hu =>
    ⟨(hu.cell (p := ⟨w.heap.size, 0, none⟩) (by simp only; omega)).trans HP0.out, (hu.cell (p := ⟨w.heap.size, 1, none⟩) (by simp only; omega)).trans HP1.out⟩
  go_wp2_with fail
  go_loopw [3, 4] (fun t k wx => ∃ i : Nat, k = .int .i64 i ∧ i ≤ 5 ∧ t = .string (str (headC (ksE l) i)) ∧ Below U.heap.size U wx) (fun _ k _ => 5 - (intOf k).toNat)
  case atStart => exact ⟨0, rfl, by decide, rfl, Below.refl _ _⟩
  case round =>
    obtain ⟨i, rfl, hi, rfl, hbx⟩ := hrel
    have HBX := Lib.hid hbx
    obtain ⟨q0, q1⟩ := HQ.out wr hbx
    have hsl := HLEN.out i
    have hz1 : (str (headC (ksE l) i)).size ≤ 150 := by rw [str_size]; omega
    have hi0 : (0 : Int) ≤ (i : Int) := Int.natCast_nonneg _
    clear hbx hsl
    by_cases h5 : i < 5
    · have h52 : (i : Int) < 5 := by omega
      clear q0 q1
      go_wp2_with fail
      go_loopw [5, 6] (fun n k wx => ∃ j : Nat, k = .int .i64 j ∧ j ≤ l.length ∧ n = .int .i64 (cntK (ksE (l.take j)) (i : Int) : Nat) ∧ Below U.heap.size U wx) (fun _ k _ => l.length - (intOf k).toNat)
      case atStart => exact ⟨0, rfl, Nat.zero_le _, rfl, HBX.out⟩
      case round =>
        obtain ⟨j, rfl, hj, rfl, hby⟩ := hrel
        have HBY := Lib.hid hby
        obtain ⟨q0, q1⟩ := HQ.out wr hby
        have hj0 : (0 : Int) ≤ (j : Int) := Int.natCast_nonneg _
        have hb := bt HB0.out hby
        clear hby
        by_cases hjl : j < l.length
        · obtain ⟨eb, off, c, hE0, hcc, hbt, hat⟩ := Ends.at_ (l := l) HV.out (by omega)
          cases hE0
          have hx := hat j hjl
          have hx0 := (hb.cell (p := ⟨eb, _, none⟩) hbt).trans hx.k
          have HNX := Lib.hid (cnt_step l j hjl (i : Int))
          have hjl2 : (j : Int) < (l.length : Int) := by omega
          have hle : cntK (ksE (l.take j)) (i : Int) ≤ 1000000000 := by
            have h1 := cntK_le (ksE (l.take j)) (i : Int)
            have h2 : (ksE (l.take j)).length = j := by unfold ksE; rw [List.length_map, List.length_take]; omega
            omega
          clear hx hat hb
          generalize (l[j]).k = xk at hx0 HNX
          generalize cntK (ksE (l.take j)) (i : Int) = m at hle HNX ⊢
          by_cases hk : xk = (i : Int)
          · have hkq : (xk == (i : Int)) = true := by simpa using hk
            have HNX2 : Hid (cntK (ksE (l.take (j + 1))) (i : Int) = m + 1) := by show _ = _; rw [HNX.out, if_pos hk]
            clear hk HNX
            go_wp2_with fail
            go_roundw
            case rel => exact ⟨j + 1, by go_num, by omega, by rw [HNX2.out]; go_num, HBY.out⟩
            case measure => simp [intOf]; omega
          · have hkq : (xk == (i : Int)) = false := by simpa using hk
            have HNX2 : Hid (cntK (ksE (l.take (j + 1))) (i : Int) = m) := by show _ = _; rw [HNX.out, if_neg hk]; rfl
            clear hk HNX
            go_wp2_with fail
            go_roundw
            case rel => exact ⟨j + 1, by go_num, by omega, by rw [HNX2.out], HBY.out⟩
            case measure => simp [intOf]; omega
        · obtain rfl : j = l.length := by omega
          rw [List.take_length]
          have hg := (rfl : cntK (ksE l) (i : Int) = cntK (ksE l) (i : Int))
          have hgl := HK0.out (i : Int)
          generalize hgn : cntK (ksE l) (i : Int) = n at hgl ⊢
          by_cases hn : 0 < n
          · have hn2 : (0 : Int) < (n : Int) := by omega
            have HNM := Lib.hid (fun u => rName_c (i : Int) u)
            have HTX := Lib.hid (fun u => rtextZ_c (n : Int) ⟨by omega, by omega⟩ u)
            have hz2 : (str (Lib.itoa (n : Int))).size ≤ 20 := by rw [str_size]; exact itoaZ_len _ ⟨by omega, by omega⟩
            have hz3 : (str (nameK (i : Int))).size ≤ 5 := by rw [str_size]; exact nameK_len _
            have HAP : Hid (str (headC (ksE l) i) ++ (str (nameK (i : Int)) ++ ⟨#[32]⟩ ++ str (Lib.itoa (n : Int)) ++ ⟨#[10]⟩) = str (headC (ksE l) (i + 1))) := by
              show _ = _
              rw [← headC_str (ksE l) i n hgn.symm hn, show (⟨#[32]⟩ : ByteArray) = str [32] from rfl, show (⟨#[10]⟩ : ByteArray) = str [10] from rfl, str_snoc, str_snoc, str_snoc]
              simp
            clear hgn hg hb
            generalize str (headC (ksE l) i) = S1 at hz1 HAP ⊢
            generalize str (Lib.itoa (n : Int)) = S2 at hz2 HAP HTX
            generalize str (nameK (i : Int)) = S3 at hz3 HAP HNM
            go_wp2_with (first
              | (go_at_call 35; refine (HNM.out _).mono ?_; rintro e w3 ⟨rfl, hb3⟩)
              | (go_at_call 34; refine (HTX.out _).mono ?_; rintro e w4 ⟨rfl, hb4⟩))
            go_roundw
            case rel => exact ⟨i + 1, by go_num, by omega, by rw [HAP.out], bt HBY.out (bt hb3 hb4)⟩
            case measure => simp [intOf]; omega
          · have hn2 : ¬ (0 : Int) < (n : Int) := by omega
            have HSK := Lib.hid (headC_skip (ksE l) i n hgn.symm hn)
            clear hgn hg hb
            go_wp2_with fail
            go_roundw
            case rel => exact ⟨i + 1, by go_num, by omega, by rw [HSK.out], HBY.out⟩
            case measure => simp [intOf]; omega
    · obtain rfl : i = 5 := by omega
      have HTX := Lib.hid (fun u => rtextZ_c p hp u)
      have hz2 : (str (Lib.itoa p)).size ≤ 20 := by rw [str_size]; exact itoaZ_len p hp
      have HAP : Hid (str (headC (ksE l) 5) ++ ⟨#[112, 97, 116, 104, 115, 32]⟩ ++ str (Lib.itoa p) ++ ⟨#[10]⟩ = str (countsK (ksE l) p)) := by
        show _ = _
        rw [show (⟨#[112, 97, 116, 104, 115, 32]⟩ : ByteArray) = str (wPaths ++ [32]) from rfl, show (⟨#[10]⟩ : ByteArray) = str [10] from rfl, str_snoc, str_snoc, str_snoc]
        unfold countsK endC
        simp
      generalize str (headC (ksE l) 5) = S1 at hz1 HAP ⊢
      generalize str (Lib.itoa p) = S2 at hz2 HAP HTX
      go_wp2_with (go_at_call 34; refine (HTX.out _).mono ?_; rintro e w4 ⟨rfl, hb4⟩)
      go_ret
      exact ⟨ret_str HAP.out, bt HB0.out (bt HBX.out hb4)⟩
end Go.Proofs.YtcgcndmlgfnjbaaGreatDoor

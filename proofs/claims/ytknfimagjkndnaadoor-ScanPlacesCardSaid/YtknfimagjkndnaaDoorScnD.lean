/- The program's scanning: the walk. -/
import Derived.Test.YtknfimagjkndnaaDoorScnC
import Derived.WalkKit
import Derived.WalkSpells
import Derived.WalkLawsBesides
import Derived.BigQuiet
import Derived.Deep.QuietTactic
import Derived.RegionTactic
import Derived.WalkMore
import Derived.Maps.AppendAt
namespace Go.Proofs.YtknfimagjkndnaaDoor
open Go Go.RowKit
set_option linter.unusedVariables false
theorem scanQ_blanks : ∀ (l : List UInt8) (p : Nat), scanQ false p l = scanQ false (p + (l.takeWhile blankE).length) (l.drop (l.takeWhile blankE).length)
  | [], p => rfl
  | c :: r, p => by
    cases h : blankE c with
    | true =>
      rw [tw_cons h, List.length_cons, List.drop_succ_cons, scanQ_blank p h, scanQ_blanks r (p + 1), show p + 1 + (r.takeWhile blankE).length = p + ((r.takeWhile blankE).length + 1) by omega]
    | false =>
      rw [List.takeWhile_cons, h]
      rfl
theorem blank_stop : ∀ (l : List UInt8) (c : UInt8) (r : List UInt8), l.drop (l.takeWhile blankE).length = c :: r → blankE c = false
  | [], _, _, h => by cases h
  | d :: l, c, r, h => by
    cases hd : blankE d with
    | true => rw [tw_cons hd, List.length_cons, List.drop_succ_cons] at h; exact blank_stop l c r h
    | false =>
      rw [List.takeWhile_cons, hd] at h
      injection h with h _
      rw [← h]; exact hd
theorem nl_false {c : UInt8} (h : nlE c = false) : c.toNat = 10 := by unfold nlE at h; simpa using h
theorem nl_true {c : UInt8} (h : nlE c = true) : ¬ c.toNat = 10 := by unfold nlE at h; simpa using h
theorem scanQ_nls : ∀ (l : List UInt8) (p : Nat), scanQ true p l = scanQ false (p + (l.takeWhile nlE).length) (l.drop (l.takeWhile nlE).length)
  | [], p => by rw [scanQ_nil, List.takeWhile_nil, List.drop_nil, scanQ_nil]
  | c :: r, p => by
    cases h : nlE c with
    | true =>
      rw [tw_cons h, List.length_cons, List.drop_succ_cons, scanQ_in p (nl_true h), scanQ_nls r (p + 1), show p + 1 + (r.takeWhile nlE).length = p + ((r.takeWhile nlE).length + 1) by omega]
    | false =>
      have h10 := nl_false h
      rw [List.takeWhile_cons, h]
      show scanQ true p (c :: r) = scanQ false p (c :: r)
      rw [scanQ_out p h10, scanQ_blank p (by unfold blankE; simp [h10])]
theorem scanQ_remark {c : UInt8} {r : List UInt8} (p : Nat) (hb : blankE c = false) (h : remE c r) :
    scanQ false p (c :: r) = scanQ false (p + ((c :: r).takeWhile nlE).length) ((c :: r).drop ((c :: r).takeWhile nlE).length) ∧ 1 ≤ ((c :: r).takeWhile nlE).length := by
  have hn : nlE c = true := by unfold nlE; rw [h.1]; rfl
  rw [tw_cons hn, List.length_cons, List.drop_succ_cons, scanQ_rem p hb h, scanQ_nls r (p + 1), show p + 1 + (r.takeWhile nlE).length = p + ((r.takeWhile nlE).length + 1) by omega]
  exact ⟨rfl, by omega⟩
theorem rem_pre (c : UInt8) (r : List UInt8) : [47, 47].isPrefixOf (c :: r) = decide (remE c r) := by
  rw [Bool.eq_iff_iff, decide_eq_true_eq]
  unfold remE
  cases r with
  | nil => simp
  | cons d r =>
    simp only [List.isPrefixOf, Bool.and_true, Bool.and_eq_true, beq_iff_eq, List.head?_cons, Option.some.injEq]
    constructor
    · rintro ⟨rfl, rfl⟩; exact ⟨rfl, rfl⟩
    · rintro ⟨h1, h2⟩; exact ⟨(UInt8.toNat_inj.1 (by rw [h1]; rfl)).symm, h2.symm⟩
theorem ext_drop (s : ByteArray) (p : Nat) : (s.extract p s.size).data.toList = s.data.toList.drop p := by
  rw [← ByteArray.toList_eq, extract_toList]
  exact List.take_of_length_le (by simp)
/-- what holds at the head of a round: p: the place; ts: the tokens that were read -/
structure PInv (s : ByteArray) (w : World) (p : Nat) (ts : List Tok) (v : Value) (wr : World) : Prop where
  le : p ≤ s.size
  tp : ts.length ≤ p
  own : wr.ownsRow w.heap.size 31 4 v ts.length (ts.flatMap Tok.cells)
  below : Below w.heap.size w wr
  res : comb ts (scanQ false p (s.data.toList.drop p)) = scanE s.data.toList
theorem PInv.move {s : ByteArray} {w wr : World} {p q : Nat} {ts : List Tok} {v : Value} (h : PInv s w p ts v wr) (hpq : p ≤ q) (hq : q ≤ s.size) (he : scanQ false p (s.data.toList.drop p) = scanQ false q (s.data.toList.drop q)) : PInv s w q ts v wr :=
  ⟨hq, by have := h.tp; omega, h.own, h.below, by rw [← he]; exact h.res⟩
theorem PInv.fin {s : ByteArray} {w wr : World} {ts : List Tok} {v : Value} (h : PInv s w s.size ts v wr) : scanE s.data.toList = (ts, 0, 0) := by
  rw [← h.res, drop_end s s.size (Nat.le_refl _), scanQ_nil, comb_end]
theorem PInv.err {s : ByteArray} {w wr : World} {q : Nat} {ts : List Tok} {v : Value} (h : PInv s w q ts v wr) {c : UInt8} {r : List UInt8} (hd : s.data.toList.drop q = c :: r) (hb : blankE c = false) (hr : ¬ remE c r) {e : Int} (ht : tokE (s.data.toList.drop q) 0 = .inr e) :
    scanE s.data.toList = ([], e, (q : Int)) := by
  have h2 := tokE_shift (s.data.toList.drop q) 0 q
  rw [ht, Int.zero_add] at h2
  rw [← h.res]
  rw [hd] at h2 ⊢
  rw [scanQ_err (past_stop hb hr) h2, comb_err _ _ _ (by rcases tokE_err ht with h | h | h <;> omega)]
theorem PInv.step {s : ByteArray} {w wr w' : World} {q n : Nat} {ts : List Tok} {v v' : Value} (h : PInv s w q ts v wr) {c : UInt8} {r : List UInt8} (hd : s.data.toList.drop q = c :: r) (hb : blankE c = false) (hr : ¬ remE c r) {t : Tok} (ht : tokE (s.data.toList.drop q) 0 = .inl (t, n))
    (hown : w'.ownsRow w.heap.size 31 4 v' (ts.length + 1) (ts.flatMap Tok.cells ++ (⟨t.kind, t.text, t.n, q⟩ : Tok).cells)) (hbl : Below w.heap.size w w') :
    PInv s w (q + n) (ts ++ [⟨t.kind, t.text, t.n, q⟩]) v' w' := by
  have hl := tokE_len ht
  have h2 := tokE_shift (s.data.toList.drop q) 0 q
  rw [ht, Int.zero_add] at h2
  have h2 : tokE (s.data.toList.drop q) q = .inl (shT q t, n) := h2
  have hp : (shT q t) = ⟨t.kind, t.text, t.n, q⟩ := by unfold shT; rw [hl.2.2.2, Int.zero_add]
  rw [hp] at h2
  have hle : n ≤ s.size - q := by simpa using hl.2.1
  have hq := h.le
  have hlen : (c :: r).length = s.size - q := by rw [← hd]; simp
  have hpos : 0 < s.size - q := by rw [← hlen]; simp
  refine ⟨by omega, by have := h.tp; have := hl.1; simp; omega, by simpa using hown, hbl, ?_⟩
  rw [← h.res]
  rw [hd] at h2
  rw [hd, scanQ_tok (past_stop hb hr) h2, comb_comb, ← hd, List.drop_drop]
theorem tokE_text {l : List UInt8} {t : Tok} {n : Nat} (h : tokE l 0 = .inl (t, n)) : t.text.length = n := by
  have hl := tokE_len h
  rw [hl.2.2.1, List.length_take, Nat.min_eq_left hl.2.1]
theorem apd_at {s : ByteArray} {w wr w1 : World} {p0 : Nat} {ts : List Tok} {v : Value} (h : PInv s w p0 ts v wr) (hb : Below wr.heap.size wr w1) (k : Int) (x : List UInt8) (m : Int) (q : Nat) :
    ((w1.alloc (.cells #[.int .i64 k, .string (str x), .int .i64 m, .int .i64 q] 31)).alloc (.cells #[.int .i64 k, .string (str x), .int .i64 m, .int .i64 q] 31)).ownsRow w.heap.size 31 4 v ts.length (ts.flatMap Tok.cells) ∧
    Below w.heap.size w ((w1.alloc (.cells #[.int .i64 k, .string (str x), .int .i64 m, .int .i64 q] 31)).alloc (.cells #[.int .i64 k, .string (str x), .int .i64 m, .int .i64 q] 31)) ∧
    (∀ j u, (Tok.cells ⟨k, x, m, q⟩)[j]? = some u → ((w1.alloc (.cells #[.int .i64 k, .string (str x), .int .i64 m, .int .i64 q] 31)).alloc (.cells #[.int .i64 k, .string (str x), .int .i64 m, .int .i64 q] 31)).cell? ((⟨w1.heap.size + 1, 0, none⟩ : Addr).add j) = some u) ∧
    w.heap.size ≤ ((w1.alloc (.cells #[.int .i64 k, .string (str x), .int .i64 m, .int .i64 q] 31)).alloc (.cells #[.int .i64 k, .string (str x), .int .i64 m, .int .i64 q] 31)).heap.size ∧
    (∀ w2 : World, ((w1.alloc (.cells #[.int .i64 k, .string (str x), .int .i64 m, .int .i64 q] 31)).alloc (.cells #[.int .i64 k, .string (str x), .int .i64 m, .int .i64 q] 31)).grownBy w2 v.ownBlock → w2.cell? ⟨w1.heap.size, 1, none⟩ = some (.string (str x))) := by
  have h1 := h.below.size
  have h2 := hb.size
  refine ⟨((own_below h.own hb).alloc _).alloc _, ((h.below.trans (hb.mono h1)).alloc (Nat.le_trans h1 h2) _).alloc (by simp; omega) _, ?_, by simp; omega, ?_⟩
  · have := cells_new4 (w1.alloc (.cells #[.int .i64 k, .string (str x), .int .i64 m, .int .i64 q] 31)) (.int .i64 k) (.string (str x)) (.int .i64 m) (.int .i64 q) 31
    rw [World.size_alloc] at this
    exact this
  · intro w2 hg
    rw [hg.cell_far _ (by simp; omega) (fun e => by have := (h.own.lt _ e.symm).2; simp at this; omega), World.cell?_alloc_lt _ _ _ (by simp), World.cell?_alloc_new]
    rfl
set_option maxRecDepth 100000 in
set_option maxHeartbeats 4000000 in
theorem pscan_t (s : ByteArray) (hs : s.size ≤ 1000000) (h4 : s.size ≤ 4000) (w : World) (hE : Env w) :
    Calls Tryd.prog 10 #[.string s] w (ScanPost (scanE s.data.toList) w) := by
  obtain ⟨i0, hi, hz0, hz1, hz2⟩ := info_parts info_tok
  have hd4 : decide ((4000 : Int) < (s.size : Int)) = false := by simp; omega
  have HE := Lib.hid hE
  clear hE
  go_enter Tryd.func10, Tryd.ntmps10
  go_wp2_with fail
  go_step3
  go_wp2_with fail
  go_step3
  go_wp2_with fail
  go_loopw [5, 6, 7, 8] (fun v i _ _ wr => ∃ (p : Nat) (ts : List Tok), i = .int .i64 p ∧ PInv s w p ts v wr) (fun _ i _ _ _ => s.size - (intOf i).toNat)
  case atStart =>
    refine ⟨0, [], rfl, Nat.zero_le _, Nat.le_refl _, ⟨rfl, .inl ⟨rfl, rfl⟩⟩, Below.refl _ _, ?_⟩
    rw [scanE_Q (by simpa using h4)]
    exact scanQ_norm _ _ _
  case round =>
    obtain ⟨p, ts, rfl, hinv⟩ := hrel
    have HI := Lib.hid hinv
    have hple := hinv.le
    clear hinv
    have HRB : Hid (∀ u, Calls Tryd.prog 24 #[.string (s.extract p s.size), .func (.func 25) #[] #[]] u fun e w' => e = .returned (.int .i64 ((s.data.toList.drop p).takeWhile blankE).length) ∧ u = w') := fun u => by
      have := run_blank (s.extract p s.size) (by simp; omega) u
      rw [ext_drop] at this
      exact this
    have HQ := Lib.hid (scanQ_blanks (s.data.toList.drop p) p)
    have HST := Lib.hid (blank_stop (s.data.toList.drop p))
    have hnle : ((s.data.toList.drop p).takeWhile blankE).length ≤ s.size - p := by have := takeWhile_le blankE (s.data.toList.drop p); simpa using this
    generalize ((s.data.toList.drop p).takeWhile blankE).length = n at HRB HQ HST hnle
    obtain ⟨q, hqe⟩ : ∃ q, q = p + n := ⟨_, rfl⟩
    have hsum : (p : Int) + (n : Int) = (q : Int) := by omega
    have hqle : q ≤ s.size := by omega
    have HPQ : Hid (p ≤ q) := by show p ≤ q; omega
    have HI2 : Hid (PInv s w q ts u5 wr) := HI.out.move (by omega) hqle (by rw [HQ.out, List.drop_drop, ← hqe])
    have HST2 : Hid (∀ c r, s.data.toList.drop q = c :: r → blankE c = false) := fun c r h => HST.out c r (by rw [List.drop_drop, ← hqe]; exact h)
    clear HI HQ HST hqe
    by_cases hend : q = s.size
    · have hend2 : ((q : Int) == (s.size : Int)) = true := by rw [beq_iff_eq]; omega
      have HF : Hid (scanE s.data.toList = (ts, 0, 0)) := by
        have := HI2.out
        rw [hend] at this
        exact this.fin
      clear hend
      go_wp2_with (go_at_call 24; refine (HRB.out _).mono ?_; rintro e w' ⟨rfl, rfl⟩)
      refine bodyPost_ret (results_tmp3 rfl _ _ _) rfl ?_
      exact scan_ret HF.out (sl_of_own HI2.out.own) HI2.out.below
    · have hqlt : q < s.size := by omega
      have hend2 : ((q : Int) == (s.size : Int)) = false := by rw [beq_eq_false_iff_ne]; omega
      have hD := drop_at s q hqlt
      have hb := HST2.out _ _ hD
      have HD := Lib.hid hD
      clear hend
      by_cases hrem : remE (s[q]'hqlt) (s.data.toList.drop (q + 1))
      · have HPF : Hid (∀ u : World, Calls Tryd.prog 26 #[.string (s.extract q s.size), .string ⟨#[47, 47]⟩] u fun e w' => e = .returned (.bool true) ∧ u = w') := fun u =>
          (Tryd.strings_HasPrefix (s.extract q s.size) ⟨#[47, 47]⟩ u).mono fun _ _ ⟨h1, h2⟩ => ⟨by
            rw [h1, ext_drop, hD]; show Ending.returned (.bool ([47, 47].isPrefixOf _)) = _; rw [rem_pre, decide_eq_true hrem], h2.symm⟩
        have HRN : Hid (∀ u, Calls Tryd.prog 24 #[.string (s.extract q s.size), .func (.func 27) #[] #[]] u fun e w' => e = .returned (.int .i64 ((s.data.toList.drop q).takeWhile nlE).length) ∧ u = w') := fun u => by
          have := run_nl (s.extract q s.size) (by simp; omega) u
          rw [ext_drop] at this
          exact this
        have HQ := Lib.hid (scanQ_remark q hb hrem)
        rw [← hD] at HQ
        have hnle2 : ((s.data.toList.drop q).takeWhile nlE).length ≤ s.size - q := by have := takeWhile_le nlE (s.data.toList.drop q); simpa using this
        clear hD hb hrem
        generalize ((s.data.toList.drop q).takeWhile nlE).length = n2 at HRN HQ hnle2
        obtain ⟨q2, hqe⟩ : ∃ q2, q2 = q + n2 := ⟨_, rfl⟩
        have hsum2 : (q : Int) + (n2 : Int) = (q2 : Int) := by omega
        have hqle2 : q2 ≤ s.size := by omega
        have HLT : Hid (q < q2) := by have := HQ.out.2; show q < q2; omega
        have HI3 : Hid (PInv s w q2 ts u5 wr) := HI2.out.move (by omega) hqle2 (by rw [HQ.out.1, List.drop_drop, ← hqe])
        clear HI2 HQ hqe
        go_wp2_with (first | (go_at_call 24; (with_reducible refine (HRB.out _).mono ?_); rintro e w' ⟨rfl, rfl⟩) | (go_at_call 24; (with_reducible refine (HRN.out _).mono ?_); rintro e w' ⟨rfl, rfl⟩) | (go_at_call 26; refine (HPF.out _).mono ?_; rintro e w' ⟨rfl, rfl⟩))
        go_roundw
        case rel => exact ⟨q2, ts, rfl, HI3.out⟩
        case measure => have := HLT.out; have := HPQ.out; simp [intOf]; omega
      · have HPF : Hid (∀ u : World, Calls Tryd.prog 26 #[.string (s.extract q s.size), .string ⟨#[47, 47]⟩] u fun e w' => e = .returned (.bool false) ∧ u = w') := fun u =>
          (Tryd.strings_HasPrefix (s.extract q s.size) ⟨#[47, 47]⟩ u).mono fun _ _ ⟨h1, h2⟩ => ⟨by
            rw [h1, ext_drop, hD]; show Ending.returned (.bool ([47, 47].isPrefixOf _)) = _; rw [rem_pre, decide_eq_false hrem], h2.symm⟩
        have HB := Lib.hid hb
        have HREM := Lib.hid hrem
        have HEW := Lib.hid (HE.out.below HI2.out.below)
        have HTK : Hid (∀ u : World, Env u → Calls Tryd.prog 28 #[.string (s.extract q s.size)] u fun e w' => e = .returned (tokRes (tokE (s.data.toList.drop q) 0)) ∧ Below u.heap.size u w') := fun u hu => by
          have := token_c (s.extract q s.size) (by simp; omega) (by simp; omega) u hu
          unfold TokenPost at this
          rw [ext_drop] at this
          exact this
        clear hD hb hrem
        cases ht : tokE (s.data.toList.drop q) 0 with
        | inr e0 =>
          have HF := Lib.hid (HI2.out.err HD.out HB.out HREM.out ht)
          have hen : (e0 != 0) = true := by rcases tokE_err ht with h | h | h <;> subst h <;> rfl
          have HTK2 : Hid (∀ u : World, Env u → Calls Tryd.prog 28 #[.string (s.extract q s.size)] u fun e w' => e = .returned (.tuple #[.agg #[.int .i64 0, .string (str []), .int .i64 0, .int .i64 0], .int .i64 e0]) ∧ Below u.heap.size u w') := fun u hu => by
            have := HTK.out u hu
            rw [ht] at this
            exact this
          clear ht HTK
          go_wp2_with (first | (go_at_call 24; refine (HRB.out _).mono ?_; rintro e w' ⟨rfl, rfl⟩) | (go_at_call 26; refine (HPF.out _).mono ?_; rintro e w' ⟨rfl, rfl⟩) | (go_at_call 28; refine (HTK2.out _ HEW.out).mono ?_; rintro e w1 ⟨rfl, hbw⟩; have HBW := Lib.hid hbw; clear hbw))
          refine bodyPost_ret (results_tmp3 rfl _ _ _) rfl ?_
          exact scan_none HF.out ((HI2.out.below.trans (HBW.out.mono HI2.out.below.size)).alloc (Nat.le_trans HI2.out.below.size HBW.out.size) _)
        | inl x =>
          obtain ⟨t, n3⟩ := x
          have HTT := Lib.hid ht
          have hlen := tokE_text ht
          have hl1 := (tokE_len ht).1
          have hl2 := (tokE_len ht).2.1
          have hpos := (tokE_len ht).2.2.2
          rw [List.length_drop] at hl2
          have hl2 : n3 ≤ s.size - q := by simpa using hl2
          obtain ⟨q3, hqe⟩ : ∃ q3, q3 = q + n3 := ⟨_, rfl⟩
          have hsum3 : (q : Int) + ((str t.text).size : Int) = (q3 : Int) := by rw [str_size, hlen]; omega
          have hqle3 : q3 ≤ s.size := by omega
          have HLT : Hid (q < q3) := by show q < q3; omega
          have HTK2 : Hid (∀ u : World, Env u → Calls Tryd.prog 28 #[.string (s.extract q s.size)] u fun e w' => e = .returned (.tuple #[.agg #[.int .i64 t.kind, .string (str t.text), .int .i64 t.n, .int .i64 t.pos], .int .i64 0]) ∧ Below u.heap.size u w') := fun u hu => by
            have := HTK.out u hu
            rw [ht] at this
            exact this
          have HQE := Lib.hid hqe
          have HLEN : Hid (ts.length + 1 ≤ maxLen ∧ (ts.length + 1) * 40 ≤ 140737488355328) := by have := HI2.out.tp; show _ ∧ _; unfold maxLen; constructor <;> omega
          have HLTB := Lib.hid HI2.out.own.lt
          have HWS : Hid (w.heap.size ≤ wr.heap.size) := HI2.out.below.size
          clear ht HTK hlen hl1 hl2 hpos hqe
          go_wp2_with (first | (go_at_call 24; refine (HRB.out _).mono ?_; rintro e w' ⟨rfl, rfl⟩) | (go_at_call 26; refine (HPF.out _).mono ?_; rintro e w' ⟨rfl, rfl⟩) | (go_at_call 28; refine (HTK2.out _ HEW.out).mono ?_; rintro e w1 ⟨rfl, hbw⟩; obtain ⟨ha1, ha2, ha3, ha4, ha5⟩ := apd_at HI2.out hbw t.kind t.text t.n q; have HOWN := Lib.hid ha1; have HBEL := Lib.hid ha2; have HNEWS := Lib.hid ha3; have HBASE := Lib.hid ha4; have HCX := Lib.hid ha5; clear ha1 ha2 ha3 ha4 ha5 hbw) | (at_builtin; refine wpList_append_own_at _ rfl _ _ 22 rfl w.heap.size 31 i0 _ 4 40 Tryd.underlying22 hi hz0 hz1 hz2 rfl (by decide) u5 ts.length (ts.flatMap Tok.cells) rfl HOWN.out ⟨w1.heap.size + 1, 0, none⟩ 1 1 (Tok.cells ⟨t.kind, t.text, t.n, q⟩) rfl rfl HNEWS.out (tok_one _) HLEN.out.1 HLEN.out.2 HBASE.out ?_; intro v2 w2 hown2 hgrow2 _hn _hb; have hcx := HCX.out w2 hgrow2))
          go_roundw
          case rel =>
            refine ⟨q3, ts ++ [⟨t.kind, t.text, t.n, q⟩], rfl, ?_⟩
            rw [HQE.out]
            exact HI2.out.step HD.out HB.out HREM.out HTT.out hown2 (HBEL.out.grown hgrow2 HBASE.out (fun g hg => (HLTB.out g hg).1))
          case measure => have := HLT.out; have := HPQ.out; simp [intOf]; omega
theorem pscan_c (s : ByteArray) (hs : s.size ≤ 1000000) (w : World) (hE : Env w) :
    Calls Tryd.prog 10 #[.string s] w (ScanPost (scanE s.data.toList) w) := by
  by_cases h4 : s.size ≤ 4000
  · exact pscan_t s hs h4 w hE
  · have hd4 : decide ((4000 : Int) < (s.size : Int)) = true := by simp; omega
    have HX : Hid (scanE s.data.toList = ([], 2, 4000)) := scanE_big (by simpa using h4)
    clear h4
    go_enter Tryd.func10, Tryd.ntmps10
    go_wp2_with fail
    go_step3
    go_wp2_with fail
    rw [Exit.noGoto_ret]
    refine bodyPost_ret (results_tmp3 rfl _ _ _) rfl ?_
    exact scan_none HX.out (Below.refl _ _)
end Go.Proofs.YtknfimagjkndnaaDoor

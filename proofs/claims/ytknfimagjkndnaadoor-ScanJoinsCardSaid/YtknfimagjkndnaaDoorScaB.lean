/- What is shown of any tokens, what stands at a place, and where, is as the document says: the walk. -/
import Derived.Test.YtknfimagjkndnaaDoorScaA
import Derived.Test.YtknfimagjkndnaaDoorScanIs
namespace Go.Proofs.YtknfimagjkndnaaDoor
open Go Go.RowKit
set_option linter.unusedVariables false
theorem str_cut (s : List UInt8) : (str s).extract 0 (min ((str s).size : Int) 40).toNat = str (s.take 40) := by
  apply ByteArray.ext
  rw [ByteArray.data_extract]
  apply Array.ext'
  rw [str_size]
  simp only [str, Array.toList_extract, List.toList_toArray]
  show (s.take (min (s.length : Int) 40).toNat).drop 0 = _
  rw [List.drop_zero]
  by_cases h : s.length ≤ 40
  · rw [List.take_of_length_le (by omega), List.take_of_length_le h]
  · congr 1; omega
theorem sl_litT (w : World) (S : Obj) (x : Tok) : SlN ((w.alloc S).alloc (.cells #[.int .i64 x.kind, .string (str x.text), .int .i64 x.n, .int .i64 x.pos] 31)) (.slice (some ⟨w.heap.size + 1, 0, none⟩) 1 1) 4 1 ([x].flatMap Tok.cells) := by
  have := sl_lit (w.alloc S) (Tok.cells x) 31 4 1 1 rfl (Nat.le_refl _)
  rw [World.size_alloc] at this
  rw [show [x].flatMap Tok.cells = Tok.cells x by simp]
  exact this
theorem tail_cut : ∀ (m : List Tok), (∀ t ∈ m, t.text.length ≤ 40) → (tailE m).length ≤ 41 * m.length
  | [], _ => by simp [tailE]
  | t :: m, h => by
    have h1 := tail_cut m (fun x hx => h x (List.mem_cons_of_mem _ hx))
    have h2 := h t (by simp)
    have e : (tailE (t :: m)).length = 1 + t.text.length + (tailE m).length := by
      simp only [tailE, List.flatMap_cons, List.length_append, List.length_cons]; omega
    rw [e, List.length_cons]; omega
set_option maxRecDepth 100000 in
set_option maxHeartbeats 6000000 in
theorem toks_law (l : List Tok) (hl : l.length ≤ 9223372036854775807) (hn : ∀ x ∈ l, x.text.length ≤ 9223372036854775807) (v : Value) (i : Int) (t : ByteArray) (w : World) (hv : Toks w v l) (hE : Env w) :
    Calls Tryd.prog 4 #[v, .int .i64 i, .string t] w (Yes w) := by
  obtain ⟨i0, hi0, hz0, hz1, hz2⟩ := info_parts info_tok
  obtain ⟨A0, c0, rfl, hc0⟩ := hv.shape
  have HV := Lib.hid hv
  have HE := Lib.hid hE
  have HE0 := Lib.hid (own_empty w 31 4 (by decide))
  clear hv hE
  go_enter Tryd.func4, Tryd.ntmps4
  go_wp2_with fail
  go_loopw [7, 8] (fun out k wr => ∃ (j : Nat) (m : List Tok), j ≤ l.length ∧ j ≤ 60 ∧ m.length = j ∧ k = .int .i64 j ∧ (∃ A c, out = .slice A j c) ∧ wr.ownsRow w.heap.size 31 4 out j (m.flatMap Tok.cells) ∧ (∀ t ∈ m, t.text.length ≤ 40) ∧ Below w.heap.size w wr) (fun _ k _ => 60 - (intOf k).toNat)
  case atStart => exact ⟨0, [], Nat.zero_le _, by omega, rfl, rfl, ⟨_, _, rfl⟩, HE0.out, by simp, al _ _⟩
  case round =>
    obtain ⟨j, m, hj, hj60, hmj, rfl, ⟨A, cc, rfl⟩, hown, hmt, hb⟩ := hrel
    have HOWN := Lib.hid hown
    have HMT := Lib.hid hmt
    have HB := Lib.hid hb
    have HSZ := Lib.hid hb.size
    have HMJ := Lib.hid hmj
    have hj0 : (0 : Int) ≤ (j : Int) := Int.natCast_nonneg _
    by_cases hjl : j < l.length ∧ j < 60
    · obtain ⟨hjl, hj6⟩ := hjl
      have hjl2 : (j : Int) < (l.length : Int) := by omega
      have hj62 : (j : Int) < 60 := by omega
      obtain ⟨b, off, c, hE0, hcc, hbt, hat⟩ := Toks.at_ (l := l) HV.out (by omega)
      cases hE0
      have x1 := hat j hjl
      have hx0 := (hb.cell (p := ⟨_, _, none⟩) hbt).trans x1.kind
      have hx1 := (hb.cell (p := ⟨_, _, none⟩) hbt).trans x1.text
      have hx2 := (hb.cell (p := ⟨_, _, none⟩) hbt).trans x1.n
      have hx3 := (hb.cell (p := ⟨_, _, none⟩) hbt).trans x1.pos
      have hnz := hn _ (List.getElem_mem hjl)
      have hsc := str_cut (l[j]).text
      have HT4 : Hid (j + 1 ≤ maxLen ∧ (j + 1) * 40 ≤ 140737488355328) := by show _ ∧ _; unfold maxLen; constructor <;> omega
      clear hb hat x1 hown hmt hmj
      generalize l[j] = x at hx0 hx1 hx2 hx3 hnz hsc
      have hzz : (str x.text).size ≤ 9223372036854775807 := by rw [str_size]; exact hnz
      go_wp2_with (first
        | (at_builtin; refine wpl_app rfl _ _ 22 rfl w.heap.size 31 i0 _ 4 40 Tryd.underlying22 hi0 hz0 hz1 hz2 rfl (by decide) (.slice A j cc) j (m.flatMap Tok.cells) rfl (own_below HOWN.out (balloc (al wr _) _)) (.slice (some ⟨wr.heap.size + 1, 0, none⟩) 1 1) 1 ([⟨x.kind, x.text.take 40, x.n, _⟩].flatMap Tok.cells) rfl (sl_litT wr _ ⟨x.kind, x.text.take 40, x.n, _⟩) (tok_one _) HT4.out.1 HT4.out.2 (Nat.le_trans HSZ.out (Nat.le_trans (al wr _).size (al _ _).size)) ?_; intro v6 w6 hown6 hb6; obtain ⟨A6, c6, rfl⟩ := own_shape hown6; have hB6 := btB (btB HB.out (balloc (al wr _) _) HSZ.out) hb6 (Nat.le_refl _)))
      go_roundw
      case rel =>
        have hq : ∃ q : Int, w6.ownsRow w.heap.size 31 4 (.slice A6 (j + 1) c6) (j + 1) ((m ++ [(⟨x.kind, x.text.take 40, x.n, q⟩ : Tok)]).flatMap Tok.cells) := by
          apply Exists.intro
          rw [List.flatMap_append]
          exact hown6
        obtain ⟨q, hq⟩ := hq
        refine ⟨j + 1, m ++ [⟨x.kind, x.text.take 40, x.n, q⟩], by omega, by omega, by simp [HMJ.out], by go_num, ⟨A6, c6, rfl⟩, hq, ?_, hB6⟩
        intro t ht
        rcases List.mem_append.1 ht with ht | ht
        · exact HMT.out t ht
        · simp only [List.mem_cons, List.not_mem_nil, or_false] at ht
          subst ht
          show (x.text.take 40).length ≤ 40
          rw [List.length_take]; omega
      case measure => simp [intOf]; omega
    · have HVM : Hid (Toks wr (.slice A j cc) m) := by
        have := sl_of_own hown
        show SlN _ _ 4 m.length _
        rw [hmj]
        exact this
      have htl := tail_cut m hmt
      have HVU : Hid (∀ u, Below wr.heap.size wr u → Toks u (.slice A j cc) m) := fun u hu => SlN.below HVM.out hu
      have HEU : Hid (∀ u, Below wr.heap.size wr u → Env u) := fun u hu => HE.out.below (bt hb hu)
      have HSH : Hid (∀ u, Toks u (.slice A j cc) m → Calls Tryd.prog 18 #[.slice A j cc] u fun e w' => e = .returned (.string (str (shwE m))) ∧ Below u.heap.size u w') := fun u hu => show_c m (by omega) (by omega) _ u hu
      have HRS : Hid (∀ u, Toks u (.slice A j cc) m → Calls Tryd.prog 19 #[.slice A j cc] u fun e w' => e = .returned (.string (str (shwE m))) ∧ u = w') := fun u hu => rshow_c m (by omega) (by omega) _ u hu
      have hz2 := cut_size t 40
      simp only [Int.cast_ofNat_Int] at hz2
      have HIS : Hid (∀ u sl, Toks u (.slice A j cc) m → Calls Tryd.prog 20 #[.slice A j cc, .int .i64 i, .string (str sl)] u fun e w' => e = .returned (.bool (isE m i sl)) ∧ u = w') := fun u sl hu => is_c m (by omega) i sl _ u hu
      have HRI : Hid (∀ u sl, Toks u (.slice A j cc) m → Calls Tryd.prog 21 #[.slice A j cc, .int .i64 i, .string (str sl)] u fun e w' => e = .returned (.bool (isE m i sl)) ∧ u = w') := fun u sl hu => ris_c m (by omega) i sl _ u hu
      have HPL : Hid (∀ u, Toks u (.slice A j cc) m → Calls Tryd.prog 22 #[.slice A j cc, .int .i64 i] u fun e w' => e = .returned (.int .i64 (placeE m i)) ∧ Below u.heap.size u w') := fun u hu => place_c m (by omega) i _ u hu
      have HRP : Hid (∀ u, Toks u (.slice A j cc) m → Calls Tryd.prog 23 #[.slice A j cc, .int .i64 i] u fun e w' => e = .returned (.int .i64 (placeE m i)) ∧ Below u.heap.size u w') := fun u hu => rplace_c m (by omega) i _ u hu
      obtain ⟨tl, htl2⟩ : ∃ tl, t.extract 0 (min (t.size : Int) 40).toNat = str tl := ⟨_, (str_of _).symm⟩
      have HIS2 : Hid (∀ u, Toks u (.slice A j cc) m → Calls Tryd.prog 20 #[.slice A j cc, .int .i64 i, .string (t.extract 0 (min (t.size : Int) 40).toNat)] u fun e w' => e = .returned (.bool (isE m i tl)) ∧ u = w') := fun u hu => by rw [htl2]; exact HIS.out u tl hu
      have HRI2 : Hid (∀ u, Toks u (.slice A j cc) m → Calls Tryd.prog 21 #[.slice A j cc, .int .i64 i, .string (t.extract 0 (min (t.size : Int) 40).toNat)] u fun e w' => e = .returned (.bool (isE m i tl)) ∧ u = w') := fun u hu => by rw [htl2]; exact HRI.out u tl hu
      generalize shwE m = sm at HSH HRS
      generalize isE m i tl = im at HIS2 HRI2
      generalize placeE m i = pm at HPL HRP
      clear hown hmt hmj hb HMT HMJ HOWN HIS HRI htl htl2 hz2
      have htest : ¬ ((j : Int) < (l.length : Int)) ∨ (((j : Int) < (l.length : Int)) ∧ ¬ ((j : Int) < 60)) := by omega
      rcases htest with h1 | ⟨h1, h2⟩
      all_goals
        clear hjl
        go_wp2_with (first
          | (go_at_call 18; refine (HSH.out _ HVM.out).mono ?_; rintro e w2 ⟨rfl, hb2⟩; have HB2 := Lib.hid hb2; clear hb2)
          | (go_at_call 19; refine (HRS.out _ (HVU.out _ HB2.out)).mono ?_; rintro e w3 ⟨rfl, rfl⟩)
          | (go_at_call 20; refine (HIS2.out _ (HVU.out _ HB2.out)).mono ?_; rintro e w4 ⟨rfl, rfl⟩)
          | (go_at_call 21; refine (HRI2.out _ (HVU.out _ HB2.out)).mono ?_; rintro e w5 ⟨rfl, rfl⟩)
          | (go_at_call 22; refine (HPL.out _ (HVU.out _ HB2.out)).mono ?_; rintro e w6 ⟨rfl, hb6⟩; have HB6 := Lib.hid (bt HB2.out hb6); clear hb6)
          | (go_at_call 23; refine (HRP.out _ (HVU.out _ HB6.out)).mono ?_; rintro e w7 ⟨rfl, hb7⟩; have HB7 := Lib.hid (bt HB6.out hb7); clear hb7)
          | (go_at_call 17; refine (fixed_c _ (HEU.out _ HB7.out)).mono ?_; rintro e w8 ⟨rfl, hb8⟩))
        go_ret
        exact ⟨rfl, bt HB.out (bt HB7.out hb8)⟩
end Go.Proofs.YtknfimagjkndnaaDoor

/- The program's scanning: a token of digits: the walk. -/
import Derived.Test.YtknfimagjkndnaaDoorScnB
import Derived.Deep.RegionHeld3
import Derived.IntWalk
import Derived.WalkKit
import Derived.WalkSpells
import Derived.WalkLawsBesides
import Derived.BigQuiet
import Derived.Deep.QuietTactic
namespace Go.Proofs.YtknfimagjkndnaaDoor
open Go Go.RowKit
set_option linter.unusedVariables false
theorem str_app' (a b : List UInt8) : str (a ++ b) = str a ++ str b := (ByteArray.mk_append_mk a b).symm
theorem below_drew1 (w : World) : Below w.heap.size w w.drew := ⟨rfl, rfl, rfl, Nat.le_refl _, fun _ _ => rfl⟩
theorem below_of_drew {w w1 : World} (h : Below w.drew.heap.size w.drew w1) : Below w.heap.size w w1 := (below_drew1 w).trans h
theorem Env.drew {w : World} (h : Env w) : Env w.drew := h.below (below_drew1 w)
/-- what the digits are: (x, y): what words.Parse tells of them without the noughts ahead -/
structure Dig (s : ByteArray) (d : List UInt8) (k : Nat) (x y : Int) : Prop where
  tw : s.data.toList.takeWhile digitE = d
  len : d.length = k + 1
  le : k + 1 ≤ s.size
  num : numE (bareD d) = (x, y)
set_option maxRecDepth 100000 in
set_option maxHeartbeats 2000000 in
theorem token_dig (s : ByteArray) (hs : s.size ≤ 1000000) (hk : 0 < s.size) (hl : letterE (s[0]'hk) = false) (hl2 : digitE (s[0]'hk) = true) (w : World) (hE : Env w)
    (d : List UInt8) (k : Nat) (x y : Int) (hd : Dig s d k x y) (R : (Tok × Nat) ⊕ Int) (hR : tokE s.data.toList 0 = R)
    (hc : (Lib.trimB d 48 = [] ∧ R = .inl (⟨2, d, 0, 0⟩, k + 1)) ∨ (¬ Lib.trimB d 48 = [] ∧ y = 0 ∧ x ≤ 4294967296 ∧ R = .inl (⟨2, d, x, 0⟩, k + 1)) ∨ (¬ Lib.trimB d 48 = [] ∧ y = 4 ∧ R = .inr 4) ∨ (¬ Lib.trimB d 48 = [] ∧ y = 0 ∧ 4294967296 < x ∧ R = .inr 4)) :
    Calls Tryd.prog 28 #[.string s] w (TokenPost s w) := by
  obtain ⟨htw, hlen, hle, hnum⟩ := hd
  have HL : Hid (∀ u, Calls Tryd.prog 33 #[.int .u8 (s[0]'hk).toNat] u fun e w' => e = .returned (.bool false) ∧ u = w') := fun u => by rw [← hl]; exact letter_c _ u
  have HDG : Hid (∀ u, Calls Tryd.prog 35 #[.int .u8 (s[0]'hk).toNat] u fun e w' => e = .returned (.bool true) ∧ u = w') := fun u => by rw [← hl2]; exact digit_c _ u
  have HRN : Hid (∀ u, Calls Tryd.prog 24 #[.string s, .func (.func 35) #[] #[]] u fun e w' => e = .returned (.int .i64 ((k : Int) + 1)) ∧ u = w') := fun u => by
    have := run_dig s (by omega) u
    rw [htw, hlen] at this
    exact this
  have HX : Hid (s.extract 0 (k + 1) = str d) := by
    show _ = _
    rw [ext_take, ← hlen, ← htw]; congr 1; exact (List.prefix_iff_eq_take.1 (List.takeWhile_prefix _)).symm
  have hsz : (str d).size = k + 1 := by rw [str_size, hlen]
  have HA : Hid ((str d).extract 0 k = str (d.take k)) := by show _ = _; rw [ext_take, str_data]
  have HB : Hid ((str d).extract k (k + 1) = str (d.drop k)) := by
    show _ = _
    rw [← str_of ((str d).extract k (k + 1))]
    congr 1
    rw [← ByteArray.toList_eq, extract_toList, str_data]
    exact List.take_of_length_le (by rw [List.length_drop]; omega)
  have HTL : Hid (∀ u, Calls Tryd.prog 43 #[.string (str (d.take k)), .string ⟨#[48]⟩] u fun e w' => e = .returned (.string (str (Lib.trimLeftB (d.take k) 48))) ∧ u = w') := fun u =>
    (Tryd.strings_TrimLeft_one (str (d.take k)) 48 (by decide) u).mono fun _ _ ⟨h1, h2⟩ => ⟨by rw [h1, str_data]; rfl, h2.symm⟩
  have hb0 : bareD d = Lib.trimLeftB (d.take k) 48 ++ d.drop k := by unfold bareD; rw [hlen]; rfl
  have HAP : Hid (str (Lib.trimLeftB (d.take k) 48) ++ str (d.drop k) = str (bareD d)) := by show _ = _; rw [hb0, str_app']
  have HPA : Hid (∀ u : World, Env u → Calls Tryd.prog 42 #[.string (str (bareD d))] u fun e w' => e = .returned (.tuple #[.int .i64 x, .int .i64 y]) ∧ Below u.heap.size u w') := fun u hu => by
    have hbl : (str (bareD d)).size ≤ 281474976710656 := by
      rw [str_size, hb0, List.length_append, List.length_drop]
      have h1 : (Lib.trimLeftB (d.take k) 48).length ≤ (d.take k).length := (List.dropWhile_suffix _).length_le
      rw [List.length_take] at h1
      omega
    have := parse_c (str (bareD d)) u hbl hu
    unfold NumBPost at this
    rw [str_data, hnum] at this
    exact this
  have HTR : Hid (∀ u : World, Calls Tryd.prog 44 #[.string (str d), .string ⟨#[48]⟩] u fun e w' => e = .returned (.string (str (Lib.trimB d 48))) ∧ Below u.heap.size u w') := fun u =>
    (Tryd.strings_Trim_one (str d) 48 (by decide) u (by rw [str_size]; omega)).mono fun _ _ ⟨h1, h2⟩ => ⟨by rw [h1, str_data]; rfl, by
      rcases h2 with rfl | rfl
      · exact Below.refl _ _
      · exact ⟨rfl, rfl, rfl, Nat.le_refl _, fun _ _ => rfl⟩⟩
  have hla : (str (Lib.trimLeftB (d.take k) 48)).size ≤ k := by
    have h1 : (Lib.trimLeftB (d.take k) 48).length ≤ (d.take k).length := (List.dropWhile_suffix _).length_le
    rw [List.length_take] at h1
    rw [str_size]; omega
  have hlb : (str (d.drop k)).size = 1 := by rw [str_size, List.length_drop]; omega
  have hb255 : ((s[0]'hk).toNat : Int) < 256 := by have := (s[0]'hk).toNat_lt; omega
  have HE := Lib.hid (hE.below ((Below.refl _ w).alloc (Nat.le_refl _) (.cells #[.int .i64 0, .string ⟨#[]⟩, .int .i64 0, .int .i64 0] 31)))
  have HR := Lib.hid hR
  have HC := Lib.hid hc
  clear hl hl2 hE hR hc hb0 hnum htw hlen
  generalize str (d.take k) = dA at *
  generalize str (d.drop k) = dB at *
  generalize str (Lib.trimLeftB (d.take k) 48) = dT at *
  generalize str (bareD d) = dP at *
  have hX := HX.out
  generalize hD : str d = dD at *
  have HDD := Lib.hid hD
  clear hD HX
  go_enter Tryd.func28, Tryd.ntmps28
  go_wp2_with (first | (go_at_call 33; refine (HL.out _).mono ?_; rintro e w' ⟨rfl, rfl⟩) | (go_at_call 35; refine (HDG.out _).mono ?_; rintro e w' ⟨rfl, rfl⟩) | (go_at_call 24; refine (HRN.out _).mono ?_; rintro e w' ⟨rfl, rfl⟩))
  clear hX HRN HDG HL hb255
  have hA := HA.out
  have hAP := HAP.out
  have HSZ := Lib.hid hsz
  have hB : dD.extract k dD.size = dB := by rw [hsz]; exact HB.out
  have hw1 : IntKind.i64.wrap ((dD.size : Int) - 1) = (k : Int) := by
    have := HSZ.out
    rw [show (dD.size : Int) - 1 = k by omega]; exact IntWalk.i64_in _ (by omega)
  have hlt1 : (k : Int) ≤ (dD.size : Int) := by omega
  have hlt2 : k ≤ dD.size := by omega
  have hn0 : (0 : Int) ≤ (k : Int) := by omega
  have hla2 : ¬ (9223372036854775807 < (dT.size + dB.size : Nat)) := by omega
  have hla3 : ¬ (9223372036854775807 < (dT.size : Int) + (dB.size : Int)) := by omega
  clear hsz hlb
  go_region_held3 (fun w' => True) (trivial) (first | (go_at_call 43; refine (HTL.out _).mono ?_; rintro e w' ⟨rfl, rfl⟩) | (go_at_call 42; refine (HPA.out _ (Env.drew HE.out)).mono ?_; rintro e w1 ⟨rfl, hb⟩))
  have HBB := Lib.hid (below_of_drew hb)
  clear hb hA hB hAP hw1 hla2 hla3 hlt1 hlt2
  rcases HC.out with ⟨h1, h2⟩ | ⟨h1, h2, h3, h4⟩ | ⟨h1, h2, h4⟩ | ⟨h1, h2, h3, h4⟩
  · have H4 := Lib.hid h2
    have hte : (str (Lib.trimB d 48)).toList.isEmpty = true := by rw [str_toList, h1]; rfl
    have hte2 : (str (Lib.trimB d 48)).toList = [] := by rw [str_toList, h1]
    generalize str (Lib.trimB d 48) = tr at *
    obtain rfl := HDD.out
    clear h1 h2 HC
    go_wp2_with (go_at_call 44; refine (HTR.out _).mono ?_; rintro e w2 ⟨rfl, hb2⟩; obtain ⟨hz, hc0, hc1, hc2, hc3, hf0, hf1, hf2, hf3⟩ := tok_block (HBB.out.trans (hb2.mono HBB.out.size)); have HB2 := Lib.hid (HBB.out.trans (hb2.mono HBB.out.size)); clear hb2)
    exact bodyPost_ret (v := .tuple #[tokVal ⟨2, d, 0, 0⟩, .int .i64 0]) (by simp [results, Tryd.results28, go_sem, tokVal, hc0, hc1, hc2, hc3]; try rfl) rfl (token_ret (HR.out.trans H4.out) rfl (tok_below HB2.out _ _ _ _))
  · have H4 := Lib.hid h4
    have hte : (str (Lib.trimB d 48)).toList.isEmpty = false := by rw [str_toList, List.isEmpty_eq_false_iff]; exact h1
    have hte2 : ¬ (str (Lib.trimB d 48)).toList = [] := by rw [str_toList]; exact h1
    generalize str (Lib.trimB d 48) = tr at *
    obtain rfl := HDD.out
    subst h2
    have h5 : ¬ (4294967296 : Int) < x := by omega
    clear h1 h4 HC
    go_wp2_with (go_at_call 44; refine (HTR.out _).mono ?_; rintro e w2 ⟨rfl, hb2⟩; obtain ⟨hz, hc0, hc1, hc2, hc3, hf0, hf1, hf2, hf3⟩ := tok_block (HBB.out.trans (hb2.mono HBB.out.size)); have HB2 := Lib.hid (HBB.out.trans (hb2.mono HBB.out.size)); clear hb2)
    exact bodyPost_ret (v := .tuple #[tokVal ⟨2, d, x, 0⟩, .int .i64 0]) (by simp [results, Tryd.results28, go_sem, tokVal, hc0, hc1, hc2, hc3]; try rfl) rfl (token_ret (HR.out.trans H4.out) rfl (tok_below HB2.out _ _ _ _))
  · have H4 := Lib.hid h4
    have hte : (str (Lib.trimB d 48)).toList.isEmpty = false := by rw [str_toList, List.isEmpty_eq_false_iff]; exact h1
    have hte2 : ¬ (str (Lib.trimB d 48)).toList = [] := by rw [str_toList]; exact h1
    generalize str (Lib.trimB d 48) = tr at *
    obtain rfl := HDD.out
    subst h2
    clear h1 h4 HC
    go_wp2_with (go_at_call 44; refine (HTR.out _).mono ?_; rintro e w2 ⟨rfl, hb2⟩; obtain ⟨hz, hc0, hc1, hc2, hc3, hf0, hf1, hf2, hf3⟩ := tok_block (HBB.out.trans (hb2.mono HBB.out.size)); have HB2 := Lib.hid (HBB.out.trans (hb2.mono HBB.out.size)); clear hb2)
    exact bodyPost_ret (v := .tuple #[tokVal ⟨0, [], 0, 0⟩, .int .i64 4]) (by simp [results, Tryd.results28, go_sem, tokVal, hc0, hc1, hc2, hc3]; try rfl) rfl (token_ret (HR.out.trans H4.out) rfl (tok_below HB2.out _ _ _ _))
  · have H4 := Lib.hid h4
    have hte : (str (Lib.trimB d 48)).toList.isEmpty = false := by rw [str_toList, List.isEmpty_eq_false_iff]; exact h1
    have hte2 : ¬ (str (Lib.trimB d 48)).toList = [] := by rw [str_toList]; exact h1
    generalize str (Lib.trimB d 48) = tr at *
    obtain rfl := HDD.out
    subst h2
    clear h1 h4 HC
    go_wp2_with (go_at_call 44; refine (HTR.out _).mono ?_; rintro e w2 ⟨rfl, hb2⟩; obtain ⟨hz, hc0, hc1, hc2, hc3, hf0, hf1, hf2, hf3⟩ := tok_block (HBB.out.trans (hb2.mono HBB.out.size)); have HB2 := Lib.hid (HBB.out.trans (hb2.mono HBB.out.size)); clear hb2)
    exact bodyPost_ret (v := .tuple #[tokVal ⟨0, [], 0, 0⟩, .int .i64 4]) (by simp [results, Tryd.results28, go_sem, tokVal, hc0, hc1, hc2, hc3]; try rfl) rfl (token_ret (HR.out.trans H4.out) rfl (tok_below HB2.out _ _ _ _))
theorem token_digit (s : ByteArray) (hs : s.size ≤ 1000000) (hk : 0 < s.size) (hl : letterE (s[0]'hk) = false) (hl2 : digitE (s[0]'hk) = true) (w : World) (hE : Env w) :
    Calls Tryd.prog 28 #[.string s] w (TokenPost s w) := by
  have hD := dl_self s hk
  have hT := tok_digit' (r := s.data.toList.drop 1) hl hl2 0
  have hne : ∃ k, (s.data.toList.takeWhile digitE).length = k + 1 := by
    rw [hD]
    exact ⟨_, by rw [tw_cons hl2]; rfl⟩
  rw [← hD] at hT
  have hall : (s.data.toList.takeWhile digitE).all digitE = true := by
    have := takeWhile_all (p := digitE) (s.data.toList.takeWhile digitE)
    rw [tw_self] at this
    rw [← this]; simp
  have hle : (s.data.toList.takeWhile digitE).length ≤ s.size := by have := takeWhile_le digitE s.data.toList; simpa using this
  generalize hd : s.data.toList.takeWhile digitE = d at *
  obtain ⟨k, hk1⟩ := hne
  have hdn : d ≠ [] := by intro e; rw [e] at hk1; cases hk1
  refine token_dig s hs hk hl hl2 w hE d k (numE (bareD d)).1 (numE (bareD d)).2 ⟨hd, hk1, by omega, rfl⟩ _ rfl ?_
  rw [hT, hk1]
  by_cases hv : valD d ≤ 4294967296
  · rw [if_pos hv]
    have ht := tokN_ok hdn hall hv
    unfold tokN at ht
    by_cases hz : Lib.trimB d 48 = []
    · rw [if_pos hz] at ht
      injection ht with ht _
      exact .inl ⟨hz, by rw [← ht]⟩
    · rw [if_neg hz] at ht
      rw [ht]
      exact .inr (.inl ⟨hz, rfl, by show ((valD d : Nat) : Int) ≤ _; omega, rfl⟩)
  · rw [if_neg hv]
    have ht := tokN_big hdn hall hv
    unfold tokN at ht
    by_cases hz : Lib.trimB d 48 = []
    · rw [if_pos hz] at ht
      rcases ht with ht | ⟨n, h1, _, ht⟩
      · injection ht with _ ht; cases ht
      · injection ht with ht _; omega
    · rw [if_neg hz] at ht
      rcases ht with ht | ⟨n, h1, _, ht⟩
      · rw [ht]
        exact .inr (.inr (.inl ⟨hz, rfl, rfl⟩))
      · rw [ht]
        exact .inr (.inr (.inr ⟨hz, rfl, h1, rfl⟩))
theorem token_c (s : ByteArray) (hs : s.size ≤ 1000000) (hk : 0 < s.size) (w : World) (hE : Env w) :
    Calls Tryd.prog 28 #[.string s] w (TokenPost s w) := by
  cases hl : letterE (s[0]'hk) with
  | true => exact token_letter s hs hk hl w
  | false =>
    cases hl2 : digitE (s[0]'hk) with
    | true => exact token_digit s hs hk hl hl2 w hE
    | false => exact token_sign s hs hk hl hl2 w hE
end Go.Proofs.YtknfimagjkndnaaDoor

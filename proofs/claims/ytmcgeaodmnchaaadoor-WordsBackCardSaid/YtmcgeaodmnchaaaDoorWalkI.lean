/- The laws of words on texts: the walks. -/
import Derived.Test.YtmcgeaodmnchaaaDoorWalkH
import Derived.Test.YtmcgeaodmnchaaaDoorWordsPlain
import Derived.WalkKit
import Derived.WalkSpells
import Derived.WalkLawsBesides
import Derived.Lib.Hide
namespace Go.Proofs.YtmcgeaodmnchaaaDoor
open Go.RowKit
set_option linter.unusedVariables false
theorem cut_size (s : ByteArray) (n : Nat) : (s.extract 0 (min (s.size : Int) n).toNat).size ≤ n := by
  rw [ByteArray.size_extract]; omega
set_option maxRecDepth 100000 in
set_option maxHeartbeats 1000000 in
theorem texts_c (n : Int) (s : ByteArray) (hn : I64 n) (hz : s.size ≤ 9223372036854775807) (w : World) (hE : Env w) :
    Calls Tryd.prog 4 #[.int .i64 n, .string s] w (Yes w) := by
  have HE := Lib.hid hE
  have HN := Lib.hid hn
  clear hE hn
  go_enter Tryd.func4, Tryd.ntmps4
  go_wp2_with fail
  have ht := cut_size s 100
  simp only [Int.cast_ofNat_Int] at ht
  generalize s.extract 0 (min (s.size : Int) 100).toNat = t at ht ⊢
  refine (parse_c t _ (by omega) HE.out).mono ?_
  rintro e w1 ⟨rfl, hb1⟩
  have HE1 := Lib.hid (HE.out.below hb1)
  go_wp2_with fail
  refine (rparse_c t _ (by omega)).mono ?_
  rintro e w2 ⟨rfl, rfl⟩
  generalize (numE t.data.toList).1 = x1
  generalize (numE t.data.toList).2 = x2
  go_wp2_with fail
  refine (text_c n HN.out _ HE1.out).mono ?_
  rintro e w2 ⟨rfl, hb2⟩
  have HE2 := Lib.hid (HE1.out.below hb2)
  go_wp2_with fail
  refine (rtext_c n HN.out _).mono ?_
  rintro e w3 ⟨rfl, hb3⟩
  have HE3 := Lib.hid (HE2.out.below hb3)
  generalize str (Lib.itoa n) = y
  go_wp2_with (go_at_call 18; refine (fixed_c _ HE3.out).mono ?_; rintro e w' ⟨rfl, hb4⟩)
  go_ret
  exact ⟨rfl, bt (bt (bt hb1 hb2) hb3) hb4⟩
theorem back_ok {t : ByteArray} {k : Int} (h : numE t.data.toList = (k, 0)) : str (Lib.itoa k) = t := by
  rw [itoa_numE h]; rfl
set_option maxRecDepth 100000 in
set_option maxHeartbeats 1000000 in
theorem back_c (n : Int) (s : ByteArray) (hn : I64 n) (hz : s.size ≤ 9223372036854775807) (w : World) (hE : Env w) :
    Calls Tryd.prog 5 #[.int .i64 n, .string s] w (Yes w) := by
  have HE := Lib.hid hE
  have HN := Lib.hid hn
  clear hE hn
  go_enter Tryd.func5, Tryd.ntmps5
  go_wp2_with fail
  have ht := cut_size s 100
  simp only [Int.cast_ofNat_Int] at ht
  generalize s.extract 0 (min (s.size : Int) 100).toNat = t at ht ⊢
  refine (text_c n HN.out _ HE.out).mono ?_
  rintro e w1 ⟨rfl, hb1⟩
  have HE1 := Lib.hid (HE.out.below hb1)
  go_wp2_with fail
  refine (parse_at (s := str (Lib.itoa n)) (numE_itoa n HN.out) (by have := str_itoa_le n HN.out; omega) _ HE1.out).mono ?_
  rintro e w2 ⟨rfl, hb2⟩
  have HE2 := Lib.hid (HE1.out.below hb2)
  go_wp2_with fail
  by_cases hk : (numE t.data.toList).2 = 0
  · have hpk : numE t.data.toList = ((numE t.data.toList).1, 0) := by rw [← hk]
    have HT := Lib.hid (text_at (back_ok hpk) (by obtain ⟨_, h1, h2⟩ := numE_form hpk; rw [h2]; exact h1))
    have HP := Lib.hid (fun u => parse_at (s := t) hpk (by omega) u)
    clear hpk hk
    generalize (numE t.data.toList).1 = k at HT HP
    refine (HP.out _ HE2.out).mono ?_
    rintro e w3 ⟨rfl, hb3⟩
    have HE3 := Lib.hid (HE2.out.below hb3)
    go_wp2_with fail
    refine (HT.out _ HE3.out).mono ?_
    rintro e w4 ⟨rfl, hb4⟩
    have HE4 := Lib.hid (HE3.out.below hb4)
    go_wp2_with (go_at_call 18; refine (fixed_c _ HE4.out).mono ?_; rintro e w' ⟨rfl, hb5⟩)
    go_ret
    exact ⟨rfl, bt (bt (bt (bt hb1 hb2) hb3) hb4) hb5⟩
  · have HC := Lib.hid ((numE_cases t.data.toList).resolve_left hk)
    clear hk
    rcases HC.out with hp | hp
    all_goals
      refine (parse_at (s := t) hp (by omega) _ HE2.out).mono ?_
      rintro e w3 ⟨rfl, hb3⟩
      have HE3 := Lib.hid (HE2.out.below hb3)
      clear hp
      go_wp2_with (go_at_call 18; refine (fixed_c _ HE3.out).mono ?_; rintro e w' ⟨rfl, hb5⟩)
      go_ret
      exact ⟨rfl, bt (bt (bt hb1 hb2) hb3) hb5⟩
end Go.Proofs.YtmcgeaodmnchaaaDoor

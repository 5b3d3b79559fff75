/- The program's scanning: sign, token: the walks. -/
import Derived.Test.YtknfimagjkndnaaDoorScnRun
import Derived.Test.YtknfimagjkndnaaDoorScnPlain
import Derived.Test.YtknfimagjkndnaaDoorScnNum
import Derived.Test.YtknfimagjkndnaaDoorRScanA
import Derived.Test.YtknfimagjkndnaaDoorWParse
import Derived.Deep.RegionHeld3
import Derived.WalkKit
import Derived.WalkSpells
import Derived.WalkLawsBesides
import Derived.BigQuiet
import Derived.Deep.QuietTactic
namespace Go.Proofs.YtknfimagjkndnaaDoor
open Go Go.RowKit
set_option linter.unusedVariables false
theorem idx_nonneg (l : List UInt8) (c : UInt8) : decide (0 ≤ Lib.indexByte l c) = l.contains c := by
  induction l with
  | nil => rfl
  | cons b l ih =>
    unfold Lib.indexByte
    rw [List.contains_cons]
    by_cases h : b = c
    · subst h; simp
    · have h1 : (b == c) = false := by simpa using h
      have h2 : (c == b) = false := by rw [beq_eq_false_iff_ne]; exact fun e => h e.symm
      rw [h1, h2, Bool.false_or, ← ih]
      have hg := Lib.indexByte_ge l c
      by_cases h3 : Lib.indexByte l c = -1
      · simp [h3]
      · have h4 : (Lib.indexByte l c == -1) = false := by simpa using h3
        rw [h4]
        simp only [Bool.false_eq_true, if_false]
        rw [decide_eq_decide]
        omega
theorem byte_back (c : UInt8) : ((c.toNat : Int)).toNat.toUInt8 = c := by
  rw [Int.toNat_natCast]
  exact UInt8.toNat_inj.1 (by show (UInt8.ofNat c.toNat).toNat = c.toNat; simp)
/-- the signs of two bytes in one text -/
abbrev twosT : ByteArray := ⟨#[61, 61, 32, 33, 61, 32, 60, 61, 32, 38, 38, 32, 124, 124]⟩
theorem twosT_count : Lib.countB twosT ⟨#[32]⟩ = 4 := by decide +kernel
theorem twosT_split : (Lib.splitB ⟨#[32]⟩ 0 4 twosT).map (·.data.toList) = twos := by decide +kernel
theorem twosT_cells : (Lib.splitB ⟨#[32]⟩ 0 4 twosT).map Value.string = twos.map fun t => Value.string (str t) := by
  rw [← twosT_split, List.map_map]
  refine List.map_congr_left fun x _ => ?_
  show Value.string x = Value.string (str x.data.toList)
  rw [str_of]
theorem split_twos (w : World) (m : Int) (hm : w.cell? ⟨4, 0, none⟩ = some (.int .i64 m)) :
    Calls Tryd.prog 47 #[.string twosT, .string ⟨#[32]⟩] w fun e w' => e = .returned (.slice (some ⟨w.heap.size, 0, none⟩) 5 5) ∧ w' = w.alloc (.cells (twos.map fun t => Value.string (str t)).toArray 9) := by
  have h := Tryd.strings_Split twosT ⟨#[32]⟩ m w (by decide +kernel) hm (by decide)
  rw [twosT_count, twosT_cells] at h
  exact h
theorem sign_twos {l : List UInt8} (h : twos.any (fun t => t.isPrefixOf l) = false) : ∀ (c : UInt8) (r : List UInt8), l = c :: r → signE l = if ones.contains c then 1 else 0 := by
  rintro c r rfl
  unfold signE
  rw [if_neg (by rw [h]; simp)]
def SignPost (s : ByteArray) (w : World) (e : Ending) (w' : World) : Prop := e = .returned (.int .i64 (signE s.data.toList)) ∧ Below w.heap.size w w'
set_option maxRecDepth 100000 in
set_option maxHeartbeats 1000000 in
theorem psign_c (s : ByteArray) (hs : s.size ≤ 1000000) (hk : 0 < s.size) (w : World) (hE : Env w) :
    Calls Tryd.prog 45 #[.string s] w (SignPost s w) := by
  obtain ⟨mm, hm⟩ := hE.mlen
  have HM := Lib.hid hm
  have HDR : Hid (s.data.toList = (s[0]'hk) :: s.data.toList.drop 1) := by
    have := drop_at s 0 hk
    rw [List.drop_zero] at this
    exact this
  clear hE hm
  go_enter Tryd.func45, Tryd.ntmps45
  go_wp2_with fail
  refine (split_twos _ mm HM.out).mono ?_
  rintro e w1 ⟨rfl, hw1⟩
  have HT : Hid (TwosW w.heap.size w w1) := by
    show TwosW _ _ _
    rw [hw1]; exact twosW_made w
  clear hw1
  go_wp2_with fail
  go_loopw [7, 4] (fun i _ w' => ∃ m : Nat, m ≤ 5 ∧ i = .int .i64 m ∧ TwosW w.heap.size w w' ∧ ∀ j, j < m → (tw j).isPrefixOf s.data.toList = false) (fun i _ _ => 5 - (intOf i).toNat)
  case atStart => exact ⟨0, Nat.zero_le _, rfl, HT.out, fun j h => absurd h (by omega)⟩
  case round =>
    obtain ⟨m, hm, rfl, hw, hno⟩ := hrel
    have HW := Lib.hid hw
    have HN := Lib.hid hno
    clear hw hno HT
    by_cases hlt : m < 5
    · have hc := HW.out.cell m hlt
      have HB : Hid (∀ u : World, Calls Tryd.prog 26 #[.string s, .string (str (tw m))] u fun e w' => e = .returned (.bool ((tw m).isPrefixOf s.data.toList)) ∧ u = w') := fun u =>
        (Tryd.strings_HasPrefix s (str (tw m)) u).mono fun _ _ ⟨h1, h2⟩ => ⟨by rw [h1, str_data]; rfl, h2.symm⟩
      cases hp : (tw m).isPrefixOf s.data.toList
      · have HP := Lib.hid hp
        have HBF : Hid (∀ u : World, Calls Tryd.prog 26 #[.string s, .string (str (tw m))] u fun e w' => e = .returned (.bool false) ∧ u = w') := fun u => by have := HB.out u; rw [hp] at this; exact this
        clear hp HB
        go_wp2_with (go_at_call 26; refine (HBF.out _).mono ?_; rintro e w' ⟨rfl, rfl⟩)
        go_roundw
        case rel =>
          refine ⟨m + 1, by omega, by go_num, HW.out, fun j h => ?_⟩
          by_cases hj : j < m
          · exact HN.out j hj
          · obtain rfl : j = m := by omega
            exact HP.out
        case measure => simp [intOf]; omega
      · have HF := Lib.hid (twos_yes hlt hp)
        have HSZ : Hid (((str (tw m)).size : Int) = 2) := by
          show _ = _
          rw [str_size]
          have : ∀ j : Fin 5, (tw j.val).length = 2 := by decide
          rw [this ⟨m, hlt⟩]; rfl
        have HBF : Hid (∀ u : World, Calls Tryd.prog 26 #[.string s, .string (str (tw m))] u fun e w' => e = .returned (.bool true) ∧ u = w') := fun u => by have := HB.out u; rw [hp] at this; exact this
        clear hp HB
        go_wp2_with (go_at_call 26; refine (HBF.out _).mono ?_; rintro e w' ⟨rfl, rfl⟩)
        go_ret
        exact ⟨ret_int (by rw [HF.out, HSZ.out]; rfl), HW.out.below⟩
    · obtain rfl : m = 5 := by omega
      have HE := Lib.hid (sign_twos (twos_no HN.out) _ _ HDR.out)
      have HBL := Lib.hid HW.out.below
      have HI : Hid (∀ u : World, Calls Tryd.prog 58 #[.string onesT, .int .u8 ((s[0]'hk).toNat)] u fun e w' => e = .returned (.int .i64 (Lib.indexByte ones (s[0]'hk))) ∧ u = w') := fun u =>
        (Tryd.strings_IndexByte onesT ((s[0]'hk).toNat) u).mono fun _ _ ⟨h1, h2⟩ => ⟨by rw [h1, byte_back]; rfl, h2.symm⟩
      have hb1 : ((s[0]'hk).toNat : Int) < 256 := by have := (s[0]'hk).toNat_lt; omega
      have HX := Lib.hid (idx_nonneg ones (s[0]'hk))
      clear HW HN
      generalize Lib.indexByte ones (s[0]'hk) = ix at HI HX
      generalize ones.contains (s[0]'hk) = cx at HE HX
      cases cx
      all_goals
        have hx := HX.out
        clear HX
        go_wp2_with (go_at_call 58; refine (HI.out _).mono ?_; rintro e w' ⟨rfl, rfl⟩)
        go_ret
        exact ⟨ret_int (by rw [HE.out]; rfl), HBL.out⟩
end Go.Proofs.YtknfimagjkndnaaDoor

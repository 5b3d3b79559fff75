/- Blanks and a remark ahead and behind change nothing but places: the walk. -/
import Derived.Test.YtknfimagjkndnaaDoorScaA
import Derived.IntWalk
namespace Go.Proofs.YtknfimagjkndnaaDoor
open Go Go.RowKit
set_option linter.unusedVariables false
theorem wrap_nat (n : Nat) (h : n < 9223372036854775808) : IntKind.i64.wrap (n : Int) = (n : Int) := by
  exact IntWalk.i64_in _ (by omega)
theorem and_mask (i : Int) (m : Nat) (hm : m < 9223372036854775808) : ∃ n : Nat, bits .and .i64 i (m : Int) = (n : Int) ∧ n ≤ m := by
  have h : (BitVec.ofInt 64 i &&& BitVec.ofInt 64 (m : Int)).toNat ≤ m := by
    rw [BitVec.toNat_and]
    refine Nat.le_trans Nat.and_le_right ?_
    rw [BitVec.toNat_ofInt]
    omega
  refine ⟨_, ?_, h⟩
  show IntKind.i64.wrap ((BitVec.ofInt 64 i &&& BitVec.ofInt 64 (m : Int)).toNat : Int) = _
  exact wrap_nat _ (by omega)
theorem pad_byte (r : Nat) (h : r ≤ 3) : ∃ c : UInt8, (⟨#[32, 10, 9, 13]⟩ : ByteArray).extract r (r + 1) = str [c] ∧ blankE c = true := by
  match r, h with
  | 0, _ => exact ⟨32, by rfl, by rfl⟩
  | 1, _ => exact ⟨10, by rfl, by rfl⟩
  | 2, _ => exact ⟨9, by rfl, by rfl⟩
  | 3, _ => exact ⟨13, by rfl, by rfl⟩
theorem blank_str (a b : List UInt8) : (((str a ++ ⟨#[47, 47, 32, 97, 32, 114, 101, 109, 97, 114, 107, 32, 35, 32, 10]⟩) ++ str b) ++ ⟨#[10]⟩) ++ str a = str (a ++ (remark ++ (b ++ 10 :: a))) := by
  rw [show (⟨#[10]⟩ : ByteArray) = str [10] from rfl, show (⟨#[47, 47, 32, 97, 32, 114, 101, 109, 97, 114, 107, 32, 35, 32, 10]⟩ : ByteArray) = str remark from rfl, str_snoc, str_snoc, str_snoc, str_snoc]
  congr 1
  simp
theorem strip_sh (d : Nat) (l : List Tok) : l.map strip = (l.map (shT d)).map strip := by
  rw [List.map_map]; rfl
set_option maxRecDepth 100000 in
set_option maxHeartbeats 8000000 in
theorem blanks_law (s : ByteArray) (hs : s.size ≤ 9223372036854775807) (n : Int) (w : World) (hE : Env w) :
    Calls Tryd.prog 7 #[.string s, .int .i64 n] w (Yes w) := by
  have HE := Lib.hid hE
  clear hE
  obtain ⟨q, hq, hq2⟩ := and_mask n 7 (by decide)
  simp only [Int.cast_ofNat_Int] at hq
  go_enter Tryd.func7, Tryd.ntmps7
  go_upto_region 2 with fail
  have hz := cut_size s 1500
  simp only [Int.cast_ofNat_Int] at hz
  generalize s.extract 0 (min (s.size : Int) 1500).toNat = s' at hz ⊢
  obtain ⟨sl, rfl⟩ : ∃ sl, s' = str sl := ⟨s'.data.toList, (str_of s').symm⟩
  have hsl : (str sl).size = sl.length := str_size sl
  rw [str_size] at hz
  have hq8 : (q : Int) ≤ 7 := by omega
  have hq0 : (0 : Int) ≤ (q : Int) := by omega
  clear hs
  go_upto_region 4 with fail
  go_loopw [5, 6] (fun pad k wr => wr = w ∧ ∃ (j : Nat) (pl : List UInt8), j ≤ 1 + q ∧ k = .int .i64 j ∧ pad = .string (str pl) ∧ pl.length = j ∧ pl.all blankE = true) (fun _ k _ => 9 - (intOf k).toNat)
  case atStart => exact ⟨rfl, 0, [], Nat.zero_le _, rfl, rfl, rfl, rfl⟩
  case round =>
    obtain ⟨rfl, j, pl, hj, rfl, rfl, hpj, hpb⟩ := hrel
    have hj0 : (0 : Int) ≤ (j : Int) := Int.natCast_nonneg _
    have hps : (str pl).size = j := by rw [str_size, hpj]
    have HPJ := Lib.hid hpj
    have HPB := Lib.hid hpb
    by_cases hjl : j < 1 + q
    · have hjl2 : (j : Int) < 1 + (q : Int) := by omega
      obtain ⟨r, hr, hr3⟩ := and_mask (j : Int) 3 (by decide)
      simp only [Int.cast_ofNat_Int] at hr
      obtain ⟨c, hc1, hc2⟩ := pad_byte r hr3
      have hr0 : (0 : Int) ≤ (r : Int) := by omega
      have hr1 : (r : Int) ≤ 3 := by omega
      have HS : Hid (str pl ++ str [c] = str (pl ++ [c])) := str_snoc _ _
      have HC := Lib.hid hc2
      have hcs : (str [c]).size = 1 := str_size _
      clear hpj hpb hc2
      generalize str pl = S at HS hps ⊢
      generalize str [c] = C at HS hc1 hcs
      go_wp2_with fail
      go_roundw
      case rel => exact ⟨trivial, j + 1, pl ++ [c], by omega, by go_num, by rw [← HS.out], by rw [List.length_append, HPJ.out]; rfl, by rw [List.all_append, HPB.out]; simp [HC.out]⟩
      case measure => simp [intOf]; omega
    · have hjl2 : ¬ ((j : Int) < 1 + (q : Int)) := by omega
      have HBS := Lib.hid (blank_str pl sl)
      have hbl := blanks pl sl hpb (by omega) hz
      have HP := Lib.hid (fun u hu => scanP_c (str sl) (by omega) u hu)
      have HR := Lib.hid (fun u hu => scanP_c (str (pl ++ (remark ++ (sl ++ 10 :: pl)))) (by rw [str_size]; simp [remark]; omega) u hu)
      rw [str_data] at HP HR
      rw [hbl] at HR
      have hl1 := scan_len sl
      have herr := scanE_err (s := sl) (by omega)
      generalize scanE sl = R at HP HR hl1 herr
      obtain ⟨T, e0, p0⟩ := R
      simp only at HP hl1 herr
      have hpz : (str pl).size ≤ 8 := by omega
      have hsz : (str sl).size ≤ 1500 := by omega
      by_cases h0 : e0 = 0
      · subst h0
        have hsh : shR (pl.length + 15) (T, 0, p0) = (T.map (shT (pl.length + 15)), 0, 0) := by unfold shR; rfl
        rw [hsh] at HR
        have HSM : Hid (∀ u V V2, Toks u V T → Toks u V2 (T.map (shT (pl.length + 15))) → Calls Tryd.prog 12 #[V, V2, .bool false] u fun e w' => e = .returned (.bool true) ∧ Below u.heap.size u w') := fun u V V2 h1 h2 => by
          have := rsameT_c _ _ (by omega) (by rw [List.length_map]; omega) V V2 false u h1 h2
          rw [sameT_strip (strip_sh _ T)] at this
          exact this
        generalize T.map (shT (pl.length + 15)) = U at HR HSM
        generalize str (pl ++ (remark ++ (sl ++ 10 :: pl))) = J at HBS HR
        generalize str pl = PS at HBS hpz hps ⊢
        generalize str sl = SS at HBS HP hsz hsl ⊢
        have hBS := HBS.out
        clear hbl hsh hl1 herr hpj hpb HPJ HPB hjl
        go_wp2_with (first
          | (go_at_call_of 10 (Value.string SS); refine (HP.out _ HE.out).mono ?_; rintro e w1 ⟨A1, c1, rfl, hv1, hb1⟩; have HB1 := Lib.hid hb1; have HV1 := Lib.hid hv1; clear hb1 hv1)
          | (go_at_call 10; refine (HR.out _ (HE.out.below HB1.out)).mono ?_; rintro e w2 ⟨A2, c2, rfl, hv2, hb2⟩; have HB2 := Lib.hid (bt HB1.out hb2); have HV2 := Lib.hid (SlN.below HV1.out hb2); have HU2 := Lib.hid hv2; clear hb2 hv2)
          | (go_at_call 12; refine (HSM.out _ _ _ HV2.out HU2.out).mono ?_; rintro e w3 ⟨rfl, hb3⟩; have HB3 := Lib.hid (bt HB2.out hb3); clear hb3)
          | (go_at_call 17; refine (fixed_c _ (HE.out.below HB3.out)).mono ?_; rintro e w8 ⟨rfl, hb8⟩))
        go_ret
        exact ⟨rfl, bt HB3.out hb8⟩
      · rcases herr with h | ⟨rfl, p, rfl, hp⟩
        · exact absurd h h0
        · have hsh : shR (pl.length + 15) (([] : List Tok), e0, (p : Int)) = ([], e0, (p : Int) + ((str pl).size : Int) + 15) := by
            unfold shR
            rw [if_neg h0]
            simp only [Prod.mk.injEq, true_and]
            omega
          rw [hsh] at HR
          have h01 : (e0 != 0) = true := by rw [bne_iff_ne]; exact h0
          generalize str (pl ++ (remark ++ (sl ++ 10 :: pl))) = J at HBS HR
          generalize str pl = PS at HBS HR hpz hps ⊢
          generalize str sl = SS at HBS HP hsz hsl ⊢
          have hBS := HBS.out
          clear hbl hsh hl1 hpj hpb HPJ HPB hjl h0
          go_wp2_with (first
            | (go_at_call_of 10 (Value.string SS); refine (HP.out _ HE.out).mono ?_; rintro e w1 ⟨A1, c1, rfl, hv1, hb1⟩; have HB1 := Lib.hid hb1; clear hb1 hv1)
            | (go_at_call 10; refine (HR.out _ (HE.out.below HB1.out)).mono ?_; rintro e w2 ⟨A2, c2, rfl, hv2, hb2⟩; have HB2 := Lib.hid (bt HB1.out hb2); clear hb2 hv2)
            | (go_at_call 17; refine (fixed_c _ (HE.out.below HB2.out)).mono ?_; rintro e w8 ⟨rfl, hb8⟩))
          go_ret
          exact ⟨rfl, bt HB2.out hb8⟩
end Go.Proofs.YtknfimagjkndnaaDoor

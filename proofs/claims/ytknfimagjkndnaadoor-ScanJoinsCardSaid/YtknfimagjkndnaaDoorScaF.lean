/- The tokens of two texts, one on a line behind the other: the walk. -/
import Derived.Test.YtknfimagjkndnaaDoorScaB
import Derived.IntWalk
namespace Go.Proofs.YtknfimagjkndnaaDoor
open Go Go.RowKit
set_option linter.unusedVariables false
theorem join_str (a b : List UInt8) : (str a ++ ⟨#[10]⟩) ++ str b = str (a ++ 10 :: b) := by
  rw [show (⟨#[10]⟩ : ByteArray) = str [10] from rfl, str_snoc, str_snoc, List.append_assoc]; rfl
theorem map_take_succ (f : Tok → Tok) (l : List Tok) (j : Nat) (h : j < l.length) : (l.take (j + 1)).map f = (l.take j).map f ++ [f l[j]] := by
  rw [List.take_succ_eq_append_getElem h, List.map_append]; rfl
/-- places within a text -/
theorem scan_pos (s : List UInt8) (hs : s.length ≤ 4000) : ∀ t ∈ (scanE s).1, 0 ≤ t.pos ∧ t.pos ≤ 4000 := by
  intro t ht
  have h := (scanE_facts s).2 t ht
  have := h.pos0; have := h.pos1
  omega
theorem tok_ones (l : List Tok) : ∀ u ∈ l.flatMap Tok.cells, u.oneCell' = true := by
  intro u hu
  obtain ⟨x, _, hx⟩ := List.mem_flatMap.1 hu
  simp only [Tok.cells, List.mem_cons, List.not_mem_nil, or_false] at hx
  rcases hx with rfl | rfl | rfl | rfl <;> rfl
set_option maxRecDepth 100000 in
set_option maxHeartbeats 8000000 in
theorem sjoins_law (s t : ByteArray) (hs : s.size ≤ 9223372036854775807) (ht : t.size ≤ 9223372036854775807) (w : World) (hE : Env w) :
    Calls Tryd.prog 8 #[.string s, .string t] w (Yes w) := by
  obtain ⟨i0, hi0, hz0, hz1, hz2⟩ := info_parts info_tok
  have HE := Lib.hid hE
  clear hE
  go_enter Tryd.func8, Tryd.ntmps8
  go_upto_region 3 with fail
  have hzs := cut_size s 700
  have hzt := cut_size t 700
  simp only [Int.cast_ofNat_Int] at hzs hzt
  generalize s.extract 0 (min (s.size : Int) 700).toNat = s' at hzs ⊢
  generalize t.extract 0 (min (t.size : Int) 700).toNat = t' at hzt ⊢
  obtain ⟨sl, rfl⟩ : ∃ sl, s' = str sl := ⟨s'.data.toList, (str_of s').symm⟩
  obtain ⟨tl, rfl⟩ : ∃ tl, t' = str tl := ⟨t'.data.toList, (str_of t').symm⟩
  have hsl : (str sl).size = sl.length := str_size sl
  have htl : (str tl).size = tl.length := str_size tl
  rw [str_size] at hzs hzt
  have HJ := Lib.hid (join_str sl tl)
  have HP := Lib.hid (fun u hu => scanP_c (str sl) (by omega) u hu)
  have HQ := Lib.hid (fun u hu => scanP_c (str tl) (by omega) u hu)
  have HR := Lib.hid (fun u hu => scanP_c (str (sl ++ 10 :: tl)) (by rw [str_size]; simp; omega) u hu)
  rw [str_data] at HP HQ HR
  have hl1 := scan_len sl
  have hl2 := scan_len tl
  have hp1 := scan_pos sl (by omega)
  have hp2 := scan_pos tl (by omega)
  have hj1 := joins1 sl tl hzs hzt
  have hj2 := joins2 sl tl hzs hzt
  have hj3 := joins3 sl tl hzs hzt
  have herr := scanE_err (s := tl) (by omega)
  have hsz1 : (str sl).size ≤ 700 := by omega
  have hsz2 : (str tl).size ≤ 700 := by omega
  generalize scanE sl = R at HP hl1 hp1 hj1 hj2 hj3
  generalize scanE tl = R2 at HQ hl2 hp2 herr hj1 hj2 hj3
  obtain ⟨T, e0, p0⟩ := R
  obtain ⟨U, f0, q0⟩ := R2
  simp only at HP hl1 hp1 hj1 hj2 hj3 HQ hl2 hp2 herr
  by_cases h0 : e0 = 0
  · subst h0
    by_cases h1 : f0 = 0
    · subst h1
      rw [hj3 rfl rfl] at HR
      have HSM : Hid (∀ u V V2, Toks u V (T ++ U.map (shT (sl.length + 1))) → Toks u V2 (T ++ U.map (shT (sl.length + 1))) → Calls Tryd.prog 12 #[V, V2, .bool true] u fun e w' => e = .returned (.bool true) ∧ Below u.heap.size u w') := fun u V V2 h1 h2 => by
        have := rsameT_c _ _ (by simp; omega) (by simp; omega) V V2 true u h1 h2
        rw [sameT_refl] at this
        exact this
      have hlen2 : (T ++ U.map (shT (sl.length + 1))).length = T.length + U.length := by simp
      simp only [hlen2] at HR
      have HSH : Hid (∀ x : Tok, (⟨x.kind, x.text, x.n, x.pos + (sl.length : Int) + 1⟩ : Tok) = shT (sl.length + 1) x) := fun x => by
        unfold shT; congr 1; omega
      have HPS := Lib.hid hp2
      have HST := Lib.hid (map_take_succ (shT (sl.length + 1)) U)
      generalize hall : T ++ U.map (shT (sl.length + 1)) = ALL at HR HSM
      have HALL : Hid (T ++ (U.take U.length).map (shT (sl.length + 1)) = ALL) := by show _ = _; rw [List.take_length]; exact hall
      generalize shT (sl.length + 1) = sh at HSH HST HALL
      clear hj1 hj2 hj3 hp1 hp2 hlen2 hall
      generalize str (sl ++ 10 :: tl) = jn at HJ HR
      generalize hss : str sl = ss at HP HJ hsz1 hsl ⊢
      generalize htt : str tl = tt at HQ HJ hsz2 htl ⊢
      have hJ := HJ.out
      generalize sl.length = sn at *
      go_upto_region 10 with (first
        | (go_at_call_of 10 (Value.string ss); refine (HP.out _ HE.out).mono ?_; rintro e w1 ⟨A1, c1, rfl, hv1, hb1⟩; have HB1 := Lib.hid hb1; have HV1 := Lib.hid hv1; clear hb1 hv1)
        | (go_at_call_of 10 (Value.string tt); refine (HQ.out _ (HE.out.below HB1.out)).mono ?_; rintro e w2 ⟨A2, c2, rfl, hv2, hb2⟩; have HB2 := Lib.hid (bt HB1.out hb2); have HV2 := Lib.hid (SlN.below HV1.out hb2); have HU2 := Lib.hid hv2; clear hb2 hv2 HV1)
        | (go_at_call 10; refine (HR.out _ (HE.out.below HB2.out)).mono ?_; rintro e w3 ⟨A3, c3, rfl, hv3, hb3⟩; have HB3 := Lib.hid (bt HB2.out hb3); have HV3 := Lib.hid (SlN.below HV2.out hb3); have HU3 := Lib.hid (SlN.below HU2.out hb3); have HC3 := Lib.hid hv3; clear hb3 hv3 HV2 HU2))
      have HE0 := Lib.hid (own_empty w3 31 4 (by decide))
      have HX4 : Hid (0 + T.length ≤ maxLen ∧ (0 + T.length) * 40 ≤ 140737488355328) := by show _ ∧ _; unfold maxLen; constructor <;> omega
      have HTA := Lib.hid (SlN.below HV3.out (al w3 (.cells #[] 31)))
      clear hJ HJ
      go_upto_region 12 with (first
        | (at_builtin; refine wpl_app rfl _ _ 22 rfl w3.heap.size 31 i0 _ 4 40 Tryd.underlying22 hi0 hz0 hz1 hz2 rfl (by decide) (.slice (some ⟨w3.heap.size, 0, none⟩) 0 0) 0 [] rfl HE0.out (.slice A1 T.length c1) T.length (T.flatMap Tok.cells) rfl HTA.out (tok_ones _) HX4.out.1 HX4.out.2 (al w3 _).size ?_; intro v6 w6 hown6 hb6; obtain ⟨A6, c6, rfl⟩ := own_shape hown6; have HB6 := Lib.hid ((al w3 (.cells #[] 31)).trans hb6); have HOW6 := Lib.hid hown6; clear hown6 hb6))
      have HS6 : Hid (w3.heap.size ≤ w6.heap.size) := HB6.out.size
      have HVU : Hid (∀ u, Below w3.heap.size w3 u → Toks u (.slice A2 U.length c2) U) := fun u hu => SlN.below HU3.out hu
      have HCU : Hid (∀ u, Below w3.heap.size w3 u → Toks u (.slice A3 (T.length + U.length) c3) ALL) := fun u hu => SlN.below HC3.out hu
      clear HV3 HU3 HC3 HTA HE0 HX4
      go_loopw [14, 15] (fun out k wr => ∃ (j : Nat), j ≤ U.length ∧ k = .int .i64 j ∧ (∃ A c, out = .slice A (T.length + j) c) ∧ wr.ownsRow w3.heap.size 31 4 out (T.length + j) ((T ++ (U.take j).map sh).flatMap Tok.cells) ∧ Below w3.heap.size w3 wr) (fun _ k _ => U.length - (intOf k).toNat)
      case atStart =>
        refine ⟨0, Nat.zero_le _, rfl, ⟨A6, c6, ?_⟩, ?_, HB6.out⟩
        · simp
        · have := HOW6.out
          simpa using this
      case round =>
        obtain ⟨j, hj, rfl, ⟨A, cc, rfl⟩, hown, hb⟩ := hrel
        have HOWN := Lib.hid hown
        have HB := Lib.hid hb
        have HSZ := Lib.hid hb.size
        have hj0 : (0 : Int) ≤ (j : Int) := Int.natCast_nonneg _
        by_cases hjl : j < U.length
        · have hjl2 : (j : Int) < (U.length : Int) := by omega
          obtain ⟨b, off, c, hE0, hcc, hbt, hat⟩ := Toks.at_ (l := U) (HVU.out w3 (Below.refl _ _)) (by omega)
          cases hE0
          have x1 := hat j hjl
          have hx0 := (hb.cell (p := ⟨_, _, none⟩) hbt).trans x1.kind
          have hx1 := (hb.cell (p := ⟨_, _, none⟩) hbt).trans x1.text
          have hx2 := (hb.cell (p := ⟨_, _, none⟩) hbt).trans x1.n
          have hx3 := (hb.cell (p := ⟨_, _, none⟩) hbt).trans x1.pos
          have hps := HPS.out _ (List.getElem_mem hjl)
          have HSX := Lib.hid (HST.out j hjl)
          have HT4 : Hid (T.length + j + 1 ≤ maxLen ∧ (T.length + j + 1) * 40 ≤ 140737488355328) := by show _ ∧ _; unfold maxLen; constructor <;> omega
          clear hb hat x1 hown
          generalize U[j] = x at hx0 hx1 hx2 hx3 hps HSX
          obtain ⟨hps1, hps2⟩ := hps
          have HSH2 := Lib.hid (HSH.out x)
          go_wp2_with (first
            | (at_builtin; refine wpl_app rfl _ _ 22 rfl w3.heap.size 31 i0 _ 4 40 Tryd.underlying22 hi0 hz0 hz1 hz2 rfl (by decide) (.slice A (T.length + j) cc) (T.length + j) ((T ++ (U.take j).map sh).flatMap Tok.cells) rfl (own_below HOWN.out (balloc (al wr _) _)) (.slice (some ⟨wr.heap.size + 1, 0, none⟩) 1 1) 1 ([⟨x.kind, x.text, x.n, x.pos + (sn : Int) + 1⟩].flatMap Tok.cells) rfl (sl_litT wr _ ⟨x.kind, x.text, x.n, x.pos + (sn : Int) + 1⟩) (tok_one _) HT4.out.1 HT4.out.2 (Nat.le_trans HSZ.out (Nat.le_trans (al wr _).size (al _ _).size)) ?_; intro v6 w6 hown6 hb6; obtain ⟨A6, c6, rfl⟩ := own_shape hown6; have hB6 := btB (btB HB.out (balloc (al wr _) _) HSZ.out) hb6 (Nat.le_refl _)))
          go_roundw
          case rel =>
            refine ⟨j + 1, by omega, by go_num, ⟨A6, c6, rfl⟩, ?_, hB6⟩
            rw [HSX.out, ← HSH2.out, ← List.append_assoc, List.flatMap_append]
            exact hown6
          case measure => simp [intOf]; omega
        · obtain rfl : j = U.length := by omega
          have HVA : Hid (Toks wr (.slice A (T.length + U.length) cc) ALL) := by
            have := sl_of_own hown
            have e : T.length + U.length = ALL.length := by rw [← HALL.out]; simp
            rw [HALL.out] at this
            show SlN _ _ 4 ALL.length _
            rw [← e]
            exact this
          have HCR := Lib.hid (HCU.out _ hb)
          have HBW := Lib.hid (bt HB3.out hb)
          clear hown hb HOWN
          go_wp2_with (first
            | (go_at_call 12; refine (HSM.out _ _ _ HCR.out HVA.out).mono ?_; rintro e w7 ⟨rfl, hb7⟩; have HB7 := Lib.hid (bt HBW.out hb7); clear hb7)
            | (go_at_call 17; refine (fixed_c _ (HE.out.below HB7.out)).mono ?_; rintro e w8 ⟨rfl, hb8⟩))
          go_ret
          exact ⟨rfl, bt HB7.out hb8⟩
    · rw [hj2 rfl h1] at HR
      have h11 : (f0 != 0) = true := by rw [bne_iff_ne]; exact h1
      rcases herr with h | ⟨rfl, p, rfl, hp⟩
      · exact absurd h h1
      · have hz : (p : Int) + ((sl.length + 1 : Nat) : Int) = (p : Int) + ((str sl).size : Int) + 1 := by omega
        rw [hz] at HR
        clear hj1 hj2 hj3 hl1 hl2 hp1 hp2 h1 hz
        generalize str (sl ++ 10 :: tl) = jn at HJ HR
        generalize hss : str sl = ss at HP HJ HR hsz1 hsl ⊢
        generalize htt : str tl = tt at HQ HJ hsz2 htl ⊢
        have hJ := HJ.out
        go_wp2_with (first
          | (go_at_call_of 10 (Value.string ss); refine (HP.out _ HE.out).mono ?_; rintro e w1 ⟨A1, c1, rfl, hv1, hb1⟩; have HB1 := Lib.hid hb1; clear hb1 hv1)
          | (go_at_call_of 10 (Value.string tt); refine (HQ.out _ (HE.out.below HB1.out)).mono ?_; rintro e w2 ⟨A2, c2, rfl, hv2, hb2⟩; have HB2 := Lib.hid (bt HB1.out hb2); clear hb2 hv2)
          | (go_at_call 10; refine (HR.out _ (HE.out.below HB2.out)).mono ?_; rintro e w3 ⟨A3, c3, rfl, hv3, hb3⟩; have HB3 := Lib.hid (bt HB2.out hb3); clear hb3 hv3)
          | (go_at_call 17; refine (fixed_c _ (HE.out.below HB3.out)).mono ?_; rintro e w8 ⟨rfl, hb8⟩))
        go_ret
        exact ⟨rfl, bt HB3.out hb8⟩
  · rw [hj1 h0] at HR
    have h01 : (e0 != 0) = true := by rw [bne_iff_ne]; exact h0
    clear hj1 hj2 hj3 hl1 hl2 hp1 hp2 h0 herr
    generalize str (sl ++ 10 :: tl) = jn at HJ HR
    generalize hss : str sl = ss at HP HJ hsz1 hsl ⊢
    generalize htt : str tl = tt at HQ HJ hsz2 htl ⊢
    have hJ := HJ.out
    go_wp2_with (first
      | (go_at_call_of 10 (Value.string ss); refine (HP.out _ HE.out).mono ?_; rintro e w1 ⟨A1, c1, rfl, hv1, hb1⟩; have HB1 := Lib.hid hb1; clear hb1 hv1)
      | (go_at_call_of 10 (Value.string tt); refine (HQ.out _ (HE.out.below HB1.out)).mono ?_; rintro e w2 ⟨A2, c2, rfl, hv2, hb2⟩; have HB2 := Lib.hid (bt HB1.out hb2); clear hb2 hv2)
      | (go_at_call 10; refine (HR.out _ (HE.out.below HB2.out)).mono ?_; rintro e w3 ⟨A3, c3, rfl, hv3, hb3⟩; have HB3 := Lib.hid (bt HB2.out hb3); clear hb3 hv3)
      | (go_at_call 17; refine (fixed_c _ (HE.out.below HB3.out)).mono ?_; rintro e w8 ⟨rfl, hb8⟩))
    go_ret
    exact ⟨rfl, bt HB3.out hb8⟩
end Go.Proofs.YtknfimagjkndnaaDoor

/- What any text's expression is, is as the document says: the walk. -/
import Derived.Test.YtahdfglelhdcnaaDoorFixA
namespace Go.Proofs.YtahdfglelhdcnaaDoor
open Go Go.RowKit
set_option linter.unusedVariables false
def Yes (w : World) (e : Ending) (w' : World) : Prop := e = .returned (.bool true) ∧ Below w.heap.size w w'
theorem cut_size (s : ByteArray) (n : Nat) : (s.extract 0 (min (s.size : Int) n).toNat).size ≤ n := by
  rw [ByteArray.size_extract]; omega
theorem data_len (t : ByteArray) : t.data.toList.length = t.size := by rw [Array.length_toList]; rfl
theorem nodS_refl (pl : Bool) (x : Nod) : nodS pl x x = true := by
  unfold nodS
  simp
theorem sameE_refl (pl : Bool) : ∀ l : List Nod, sameE pl l l = true
  | [] => rfl
  | x :: l => by unfold sameE; rw [nodS_refl, sameE_refl pl l]; rfl
theorem some_setCell {w : World} {a : Addr} (h : ∃ u, w.cell? a = some u) (b : Addr) (v : Value) : ∃ u, (w.setCell b v).cell? a = some u := by
  obtain ⟨m, hm⟩ := h
  by_cases e : b = a
  · subst e
    exact ⟨v, World.cell?_setCell_same _ _ _ hm⟩
  · exact ⟨m, (World.cell?_setCell_other _ _ _ _ e).trans hm⟩
theorem parE_len (l : List Tok) (i : Int) : (parE l i).1.length ≤ 40 := by
  unfold parE
  split
  · simp
  · split
    · simp
    · split
      · simp
      · split
        · simp
        · rename_i h; simp only; omega
set_option maxRecDepth 100000 in
set_option maxHeartbeats 8000000 in
theorem parses_c (s : ByteArray) (i : Int) (hz : s.size ≤ 9223372036854775807) (w : World) (hE : Env w) :
    Calls Tryd.prog 3 #[.string s, .int .i64 i] w (Yes w) := by
  have HE := Lib.hid hE
  clear hE
  go_enter Tryd.func3, Tryd.ntmps3
  go_wp2_with fail
  have ht := cut_size s 600
  simp only [Int.cast_ofNat_Int] at ht
  generalize s.extract 0 (min (s.size : Int) 600).toNat = t at ht ⊢
  refine (tokens_c t (by omega) _).mono ?_
  rintro e w1 ⟨v, rfl, hv, hb1⟩
  obtain ⟨hl, htx⟩ := scan_use t.data.toList (by rw [data_len]; omega)
  generalize (scanE t.data.toList).1 = l at hv hl htx
  have HL := Lib.hid (And.intro hl htx)
  have HV := Lib.hid hv
  have HB1 := Lib.hid hb1
  clear hl htx hb1 hv ht
  go_wp2_with fail
  refine (rParse_c l HL.out.1 HL.out.2 v i w1 HV.out).mono ?_
  rintro e w2 ⟨V, rfl, hV, hb2⟩
  have hl40 := parE_len l i
  have HPO : Hid (∀ u, Below w2.heap.size w2 u → Calls Tryd.prog 13 #[v, .int .i64 i] u (ParsePostO l i u)) := fun u hu => ParseO_c l HL.out.1 HL.out.2 v i u (SlN.below HV.out (bt hb2 hu)) (HE.out.below (bt HB1.out (bt hb2 hu)))
  unfold ParsePostO at HPO
  generalize parE l i = R at hV HPO hl40 ⊢
  obtain ⟨F, tt, er, pl⟩ := R
  simp only at hV HPO hl40
  obtain ⟨A1, c1, rfl, hc1⟩ := Nods.shape hV
  have HN1 := Lib.hid hV
  have HB2 := Lib.hid (bt HB1.out hb2)
  have HSM : Hid (∀ u V2, Below w2.heap.size w2 u → Nods u V2 F → Calls Tryd.prog 14 #[V2, .slice A1 F.length c1, .bool true] u fun e w' => e = .returned (.bool true) ∧ Below u.heap.size u w') := fun u V2 hu hn => by
    have := rsame_c F F (by omega) (by omega) V2 _ true u hn (SlN.below HN1.out hu)
    rw [sameE_refl] at this
    exact this
  clear hV hb2 hc1 HV
  go_wp2_with fail
  go_loopw [10] (fun k wr => Below w2.heap.size w2 wr ∧ ∃ j : Nat, j ≤ 2 ∧ k = .int .i64 j) (fun k _ => 2 - (intOf k).toNat)
  case atStart => exact ⟨Below.refl _ _, 0, by omega, rfl⟩
  case round =>
    obtain ⟨hbr, j, hj, rfl⟩ := hrel
    have HBR := Lib.hid hbr
    clear hbr
    by_cases hj2 : j < 2
    · have hj3 : (j : Int) < 2 := by omega
      go_upto_region 8 with (go_at_call 13; refine (HPO.out _ HBR.out).mono ?_; rintro e w3 ⟨V2, rfl, hn3, hb3, hF3, hU3⟩)
      obtain ⟨A2, c2, rfl, hc2⟩ := Nods.shape hn3
      have HB3 := Lib.hid (bt HBR.out hb3)
      have HN3 := Lib.hid hn3
      have HF3 := Lib.hid (hF3.mono HBR.out.size)
      have HU3 := Lib.hid hU3
      clear hn3 hb3 hF3 hU3
      go_upto_region 10 with (go_at_call 14; refine (HSM.out _ _ HB3.out HN3.out).mono ?_; rintro e w4 ⟨rfl, hb4⟩)
      have HB4 := Lib.hid (bt HB3.out hb4)
      have HC4 : Hid ((∀ m, m < F.length → ∃ b off, A2 = some ⟨b, off, none⟩ ∧ w2.heap.size ≤ b ∧ ∃ u, w4.cell? ⟨b, off + m * 4 + 1, none⟩ = some u) ∧ ∀ b off, A2 = some ⟨b, off, none⟩ → ∀ k, w4.frozen? ⟨b, k, none⟩ = false) := by
        refine ⟨fun m hm => ?_, fun b off he k => ?_⟩
        · obtain ⟨b, off, c, hE0, _, hlt, hat⟩ := Nods.at_ (l := F) (SlN.below HN3.out hb4) (by omega)
          cases hE0
          exact ⟨b, off, rfl, HF3.out _ _ _ rfl, _, (hat m hm).n⟩
        · subst he
          exact (HU3.out.below hb4 _ _ _ rfl).2 k
      clear hb4 HN3 HF3 HU3
      have hj4 := hj2
      go_wp2_with fail
      go_loopw [15] (fun k wr => Below w2.heap.size w2 wr ∧ ∃ m : Nat, m ≤ F.length ∧ k = .int .i64 m ∧ (∀ m, m < F.length → ∃ b off, A2 = some ⟨b, off, none⟩ ∧ w2.heap.size ≤ b ∧ ∃ u, wr.cell? ⟨b, off + m * 4 + 1, none⟩ = some u) ∧ ∀ b off, A2 = some ⟨b, off, none⟩ → ∀ k, wr.frozen? ⟨b, k, none⟩ = false) (fun k _ => F.length - (intOf k).toNat)
      case atStart => exact ⟨HB4.out, 0, Nat.zero_le _, rfl, HC4.out.1, HC4.out.2⟩
      case round =>
        obtain ⟨hbs, m, hm, rfl, hcs, hfs⟩ := hrel
        have HBS := Lib.hid hbs
        have HCS := Lib.hid hcs
        have HFS := Lib.hid hfs
        clear hbs hcs hfs
        by_cases hml : m < F.length
        · have hml2 : (m : Int) < (F.length : Int) := by omega
          have hm0 : (0 : Int) ≤ (m : Int) := Int.natCast_nonneg _
          obtain ⟨b, off, hA, hge, u, hu⟩ := HCS.out m hml
          have hfz := HFS.out b off hA (off + m * 4 + 1)
          subst hA
          go_wp2_with fail
          go_roundw
          case rel =>
            refine ⟨below_set HBS.out hge _, m + 1, by omega, by go_num, fun m' hm' => ?_, fun b' off' he k => ?_⟩
            · obtain ⟨b', off', he, hge', hu'⟩ := HCS.out m' hm'
              exact ⟨b', off', he, hge', some_setCell hu' _ _⟩
            · rw [World.frozen?_setCell]; exact HFS.out b' off' he k
          case measure => simp [intOf]; omega
        · go_wp2_with fail
          go_roundw
          case rel => exact ⟨HBS.out, j + 1, by omega, by go_num⟩
          case measure => simp [intOf]; omega
    · have hj3 : ¬ ((j : Int) < 2) := by omega
      go_wp2_with (go_at_call 15; refine (fixed_c _ (HE.out.below (bt HB2.out HBR.out))).mono ?_; rintro e w5 ⟨rfl, hb5⟩)
      go_ret
      exact ⟨rfl, bt (bt HB2.out HBR.out) hb5⟩
end Go.Proofs.YtahdfglelhdcnaaDoor

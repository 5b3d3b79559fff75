/- The verdict that a text may be: the reference's walk. -/
import Derived.Test.YtcgcndmlgfnjbaaGreatDoorRepL
namespace Go.Proofs.YtcgcndmlgfnjbaaGreatDoor
open Go Go.RowKit
set_option linter.unusedVariables false
theorem read_isR (f : List UInt8 → Int) (s : List UInt8) : readV f s = readL f (splitK (cutN s).1) (cutN s).2 := rfl
theorem cutN_take : ∀ (s : List UInt8), s.take (cutN s).1.length = (cutN s).1 ∧ (cutN s).2 = s.drop ((cutN s).1.length + 1)
  | [] => ⟨rfl, rfl⟩
  | c :: r => by
    have ih := cutN_take r
    rw [cutN]
    by_cases h : c = 10
    · rw [if_pos h]; exact ⟨rfl, rfl⟩
    · rw [if_neg h]
      refine ⟨?_, ?_⟩
      · show List.take ((cutN r).1.length + 1) (c :: r) = c :: (cutN r).1
        rw [List.take_succ_cons, ih.1]
      · show (cutN r).2 = List.drop ((cutN r).1.length + 1 + 1) (c :: r)
        rw [List.drop_succ_cons]; exact ih.2
theorem cutN_before : ∀ (s : List UInt8) (i : Nat) (hi : i < s.length), i < (cutN s).1.length → ¬ s[i] = 10
  | c :: r, i, hi, h => by
    rw [cutN] at h
    by_cases hc : c = 10
    · rw [if_pos hc] at h; exact absurd h (by simp)
    · rw [if_neg hc] at h
      cases i with
      | zero => exact hc
      | succ i => exact cutN_before r i (by simpa using hi) (by simpa using h)
theorem cutN_at : ∀ (s : List UInt8) (h : (cutN s).1.length < s.length), s[(cutN s).1.length] = 10
  | [], h => absurd h (by simp [cutN])
  | c :: r, h => by
    by_cases hc : c = 10
    · have e : (cutN (c :: r)).1.length = 0 := by rw [cutN, if_pos hc]; rfl
      simp only [e]; exact hc
    · have e : (cutN (c :: r)).1.length = (cutN r).1.length + 1 := by rw [cutN, if_neg hc]; rfl
      simp only [e]
      have h2 : (cutN r).1.length < r.length := by rw [e] at h; simpa using h
      have := cutN_at r h2
      simpa using this
/-- the kind that a word names, of those below k -/
def kR (k : Nat) (x : List UInt8) : Int := if x = nClaim ∧ 2 < k then 2 else if x = nFault ∧ 3 < k then 3 else if x = nStuck ∧ 4 < k then 4 else 0
theorem kR_2 (x : List UInt8) : kR 2 x = 0 := by simp [kR]
theorem kR_5 (x : List UInt8) : kR 5 x = kindR x := by simp [kR, kindR]
theorem kR_nil (k : Nat) : kR k [] = 0 := by simp [kR, nClaim, nFault, nStuck]
theorem kR_yes (k : Nat) (h2 : 2 ≤ k) (h5 : k < 5) (x : List UInt8) (h : nameK k = x) : kR (k + 1) x = k := by
  subst h
  match k, h2, h5 with
  | 2, _, _ => decide
  | 3, _, _ => decide
  | 4, _, _ => decide
theorem kR_no (k : Nat) (h2 : 2 ≤ k) (h5 : k < 5) (x : List UInt8) (h : ¬ nameK k = x) : kR (k + 1) x = kR k x := by
  match k, h2, h5 with
  | 2, _, _ => have : ¬ x = nClaim := fun e => h e.symm
               simp [kR, this]
  | 3, _, _ => have : ¬ x = nFault := fun e => h e.symm
               simp [kR, this]
  | 4, _, _ => have : ¬ x = nStuck := fun e => h e.symm
               simp [kR, this]
theorem RdAt.kind {w0 : World} {q base : Nat} {u : World} {k wh c : Int} {A : Option Addr} {cc : Nat} {L : List Int} {Q : World → Prop} (h : RdAt w0 q base u k wh c A cc L Q) (x : Int) : RdAt w0 q base (u.setCell ⟨q, 5, none⟩ (.int .i64 x)) x wh c A cc L Q :=
  ⟨⟨h.box.at_.set5 x, fun j => by simpa using h.box.frz j⟩, ownsRow_setCell_below h.own (a := ⟨q, 5, none⟩) h.lt _, h.lt, h.le, by simpa [World.setCell] using h.top, h.keep.setCell _ (.inl rfl) _, below_set h.belo h.le _⟩
theorem splitK_pos : ∀ (s : List UInt8), 0 < (splitK s).length := fun s => by
  have h := splitK_ne s
  cases hs : splitK s with
  | nil => exact absurd hs h
  | cons x r => simp
set_option maxRecDepth 100000 in
set_option maxHeartbeats 8000000 in
theorem guess_c (s : ByteArray) (hs : s.size ≤ 1000000) (w : World) :
    Calls Tryz.prog 42 #[.string s] w (RdPost (readV kindR s.data.toList) w) := by
  obtain ⟨i0, hi0, hz0, hz1, hz2⟩ := info_parts info_int
  have hsl : s.data.toList.length = s.size := by rw [Array.length_toList]; rfl
  rw [read_isR]
  have hc1 := cutN_len s.data.toList
  have hct := cutN_take s.data.toList
  have hcb := cutN_before s.data.toList
  have hca := cutN_at s.data.toList
  generalize he : (cutN s.data.toList).1.length = e at hc1 hct hcb hca
  have hes : e ≤ s.size := by omega
  have hx1 : s.extract 0 e = str (cutN s.data.toList).1 := by
    rw [ext_mid, List.drop_zero, Nat.sub_zero, hct.1]
  have hx2 : s.extract (e + 1) s.size = str (cutN s.data.toList).2 := by
    rw [ext_end, ← hct.2]
  have hx3 : ¬ e < s.size → (cutN s.data.toList).2 = [] := fun h => by rw [hct.2]; exact List.drop_eq_nil_of_le (by omega)
  have hxb : ∀ (i : Nat) (hi : i < s.size), i < e → ¬ (((s[i]'hi).toNat : Int) == 10) = true := fun i hi hie h => by
    have h0 := hcb i (by omega) hie
    rw [byte_at s i hi] at h0
    have h1 : (s[i]'hi).toNat = 10 := by rw [beq_iff_eq] at h; omega
    exact h0 (UInt8.toNat_inj.1 h1)
  have hxa : ∀ (hi : e < s.size), (((s[e]'hi).toNat : Int) == 10) = true := fun hi => by
    have h0 := hca (by omega)
    rw [byte_at s e hi] at h0
    rw [h0]; decide
  have HX1 := Lib.hid hx1
  have HX2 := Lib.hid hx2
  have HX3 := Lib.hid hx3
  have HXB := Lib.hid hxb
  have HXA := Lib.hid hxa
  have hsp := split_le (cutN s.data.toList).1
  have hpos := splitK_pos (cutN s.data.toList).1
  have hc1l : (cutN s.data.toList).1.length ≤ 1000000 := by omega
  have hc2l : (cutN s.data.toList).2.length ≤ 1000000 := by omega
  clear hsl hc1 hct hcb hca hx1 hx2 hx3 hxb hxa he
  generalize (cutN s.data.toList).1 = c1 at hsp hpos HX1 hc1l ⊢
  generalize (cutN s.data.toList).2 = rest at HX2 HX3 hc2l ⊢
  have HSP : Hid (∀ u, Calls Tryz.prog 66 #[.string (str c1)] u fun e w' => ∃ A c, e = .returned (.slice A (splitK c1).length c) ∧ Strs w' (.slice A (splitK c1).length c) (splitK c1) ∧ Below u.heap.size u w') := fun u => by
    have := rsplit_c (str c1) (by rw [str_size]; omega) u
    rw [str_data] at this
    exact this
  have HPP : Hid (∀ u, Calls Tryz.prog 68 #[.string (str rest)] u (ParPost rest u)) := fun u => by
    have := rparseS_c (str rest) (by rw [str_size]; omega) u
    rw [str_data] at this
    exact this
  generalize splitK c1 = l at hsp hpos HSP ⊢
  have HLX : Hid (∀ x ∈ l, x.length ≤ 1000000) := fun x hx => by have := hsp.1 x hx; omega
  have hln : l.length ≤ 1000001 := by omega
  have HLN := Lib.hid hln
  have HPOS := Lib.hid hpos
  have HRL := Lib.hid hc2l
  have HES := Lib.hid hes
  have HSS := Lib.hid hs
  have HBX0 : Hid (Below w.heap.size w (w.alloc (.cells (vdA zeroV (.slice none 0 0) (.slice none 0 0)) 28))) := al w _
  have HR0 := Lib.hid (vdBox_new w zeroV (.slice none 0 0) (.slice none 0 0))
  clear hs hsp hln hpos hc1l hc2l hes
  unfold vdA zeroV zeroE at HBX0 HR0
  simp only at HBX0 HR0
  unfold RdPost
  go_enter Tryz.func42, Tryz.ntmps42
  go_upto_region 1 with fail
  generalize World.alloc _ _ = U at HBX0 HR0 ⊢
  go_upto_block 0 with fail
  go_cut [3] from 11 to 22 (fun k wx => k = .int .i64 e ∧ wx = U)
  case first =>
    go_wp2_with fail
    go_loopw [3] (fun k wr => ∃ j : Nat, k = .int .i64 j ∧ j ≤ e ∧ wr = U) (fun k _ => e - (intOf k).toNat)
    case atStart => exact ⟨0, rfl, Nat.zero_le _, rfl⟩
    case round =>
      obtain ⟨j, rfl, hj, rfl⟩ := hrel
      have hj0 : (0 : Int) ≤ (j : Int) := Int.natCast_nonneg _
      have hes := HES.out
      have hss := HSS.out
      by_cases hje : j < e
      · have hjl : j < s.size := by omega
        have hjl2 : (j : Int) < (s.size : Int) := by omega
        have hby : (((s[j]'hjl).toNat : Int) == 10) = false := by
          have := HXB.out j hjl hje
          cases h : (((s[j]'hjl).toNat : Int) == 10)
          · rfl
          · exact absurd h this
        go_wp2_with fail
        go_roundw
        case rel => exact ⟨j + 1, by go_num, by omega, by first | rfl | trivial⟩
        case measure => simp [intOf]; omega
      · obtain rfl : j = e := by omega
        by_cases hjl : j < s.size
        · have hjl2 : (j : Int) < (s.size : Int) := by omega
          have hby := HXA.out hjl
          go_wp2_with fail
          go_meet
          exact ⟨rfl, rfl⟩
        · have hjl2 : ¬ (j : Int) < (s.size : Int) := by omega
          go_wp2_with fail
          go_meet
          exact ⟨rfl, rfl⟩
  case rest =>
    obtain ⟨rfl, rfl⟩ := hcut
    have he2 : e ≤ s.size := HES.out
    have hss := HSS.out
    have hx1 := HX1.out
    go_upto_region 5 with (go_at_call 66; refine (HSP.out _).mono ?_; rintro e w1 ⟨A, c, rfl, hv1, hb1⟩)
    have HR1 := HR0.out.below hb1
    have hbx1 := bt HBX0.out hb1
    have hlt : w.heap.size < w1.heap.size := HR1.at_.lt
    have hsl := off_sl (S := fun k => w1.heap.size ≤ k) hv1 (fun k hk => by show ¬ _ ≤ _; omega)
    have hY := al w1 (.cells #[.int .i64 0, .int .i64 0, .int .i64 0, .int .i64 0, .int .i64 0, .int .i64 0, .int .i64 0, .int .i64 0, .slice none 0 0, .slice none 0 0] 28)
    have hQ := vdBox_new w1 zeroV (.slice none 0 0) (.slice none 0 0)
    unfold vdA zeroV zeroE at hQ
    simp only at hQ
    have HSO := Lib.hid (hsl.below hY)
    have HR := Lib.hid (HR1.below hY)
    have HBX := Lib.hid (bt hbx1 hY)
    have hsz : (w1.alloc (.cells #[.int .i64 0, .int .i64 0, .int .i64 0, .int .i64 0, .int .i64 0, .int .i64 0, .int .i64 0, .int .i64 0, .slice none 0 0, .slice none 0 0] 28)).heap.size = w1.heap.size + 1 := World.size_alloc _ _
    clear hsl HR1 hbx1 hv1 hb1 hY HR0 HBX0 HSP hx1
    generalize w1.alloc _ = X at hQ HSO HR HBX hsz ⊢
    have HQ := Lib.hid hQ
    have HLT : Hid (w.heap.size < w1.heap.size) := hlt
    have HSZ := Lib.hid hsz
    obtain ⟨b0, off0, c0, hE0, hcc0, hbt0, hat0⟩ := Strs.at_ (l := l) HSO.out.now HPOS.out
    cases hE0
    have hy0 : X.cell? ⟨b0, off0, none⟩ = some (.string (str (wordN l 0))) := by
      have h := hat0 0 HPOS.out
      unfold wordN
      rw [List.getD_eq_getElem?_getD, List.getElem?_eq_getElem HPOS.out]
      exact h
    have hl0 : (0 : Int) < (l.length : Int) := by have := HPOS.out; omega
    have E1 := Lib.hid (word_eq (wordN l 0) [101, 114, 114, 111, 114])
    have E2 := Lib.hid (word_eq (wordN l 0) [115, 97, 102, 101])
    have E3 := Lib.hid (word_eq (wordN l 0) [118, 105, 111, 108, 97, 116, 105, 111, 110])
    have E4 := Lib.hid (word_eq (wordN l 0) [98, 117, 100, 103, 101, 116])
    clear hlt hsz hat0 hQ hbt0
    have HNU : Hid (∀ u, Strs u (.slice (some ⟨b0, off0, none⟩) l.length c) l → ∀ i : Nat, i ≤ 1000000000 → Calls Tryz.prog 67 #[(.slice (some ⟨b0, off0, none⟩) l.length c), .int .i64 i] u fun e w' => e = .returned (.int .i64 (numN l i)) ∧ u = w') := fun u hu i hi => num_c l i HLX.out hi _ u hu
    go_upto_block 2 with fail
    go_cut [6, 7, 8, 9, 10] from 31 to 107 (fun _ _ _ _ _ wx => ∃ v cv sv, VdBox wx w1.heap.size v cv sv ∧ VdBox wx w.heap.size ⟨0, 0, 0, 0, 0, ⟨0, 0, 0, []⟩, []⟩ (.slice none 0 0) (.slice none 0 0) ∧ Off (fun k => k ≤ w.heap.size) wx (fun u => VdOk u v cv sv) ∧ VdNums v ∧ Below w.heap.size w wx ∧ readL kindR l rest = v)
    case first =>
      by_cases h0 : wordN l 0 = wError
      · clear hl0
        have q1 := E1.out
        rw [show decide (wordN l 0 = [101, 114, 114, 111, 114]) = true from decide_eq_true h0] at q1
        have H0 := Lib.hid h0
        clear h0 E1 E2 E3 E4
        have HRD : Hid (readL kindR l rest = ⟨1, numN l 1, numN l 3, 0, 0, zeroE, []⟩) := by
          show _ = _
          unfold readL
          rw [if_pos H0.out]
        have HNA := Lib.hid (HNU.out X HSO.out.now 1 (by decide))
        have HNB := Lib.hid (HNU.out X HSO.out.now 3 (by decide))
        clear HNU
        generalize numN l 1 = n1 at HNA HRD
        generalize numN l 3 = n2 at HNB HRD
        obtain ⟨g0, g1, g2, g3, g4, g5, g6, g7, g8, g9⟩ := HQ.out.at_
        have f0 := HQ.out.frz 0; have f1 := HQ.out.frz 1; have f2 := HQ.out.frz 2; have f3 := HQ.out.frz 3; have f4 := HQ.out.frz 4; have f5 := HQ.out.frz 5; have f6 := HQ.out.frz 6; have f7 := HQ.out.frz 7; have f8 := HQ.out.frz 8; have f9 := HQ.out.frz 9
        go_wp2_with (first
          | (go_at_call_of 67 (Value.int .i64 1); refine (HNA.out).mono ?_; rintro e w4 ⟨rfl, rfl⟩)
          | (go_at_call_of 67 (Value.int .i64 3); refine (HNB.out).mono ?_; rintro e w5 ⟨rfl, rfl⟩))
        go_meet
        have hR6 := HR.out
        have hlt := HLT.out
        exact ⟨⟨1, n1, n2, 0, 0, zeroE, []⟩, .slice none 0 0, .slice none 0 0, HQ.out.put ⟨1, n1, n2, 0, 0, zeroE, []⟩ (.slice none 0 0) (.slice none 0 0), hR6.aside (by omega) ⟨1, n1, n2, 0, 0, zeroE, []⟩ (.slice none 0 0) (.slice none 0 0), fun _ _ _ => ⟨zs_nil _, pks_nil _, by show (0 : Nat) ≤ _; omega, by show (0 : Nat) ≤ _; omega, by simp []⟩, fun n hn => by simp [zeroE] at hn, (below_set (below_set (below_set (below_set (below_set (below_set (below_set (below_set (below_set (below_set (HBX.out) (by omega) _) (by omega) _) (by omega) _) (by omega) _) (by omega) _) (by omega) _) (by omega) _) (by omega) _) (by omega) _) (by omega) _), HRD.out⟩
      by_cases h1 : wordN l 0 = wSafe
      · clear hl0
        have q1 := E1.out
        rw [show decide (wordN l 0 = [101, 114, 114, 111, 114]) = false from decide_eq_false h0] at q1
        have q2 := E2.out
        rw [show decide (wordN l 0 = [115, 97, 102, 101]) = true from decide_eq_true h1] at q2
        have H0 := Lib.hid h0
        have H1 := Lib.hid h1
        clear h0 h1 E1 E2 E3 E4
        have HRD : Hid (readL kindR l rest = ⟨2, 0, 0, numN l 1, numN l 2, zeroE, []⟩) := by
          show _ = _
          unfold readL
          rw [if_neg H0.out, if_pos H1.out]
        have HNA := Lib.hid (HNU.out X HSO.out.now 1 (by decide))
        have HNB := Lib.hid (HNU.out X HSO.out.now 2 (by decide))
        clear HNU
        generalize numN l 1 = n1 at HNA HRD
        generalize numN l 2 = n2 at HNB HRD
        obtain ⟨g0, g1, g2, g3, g4, g5, g6, g7, g8, g9⟩ := HQ.out.at_
        have f0 := HQ.out.frz 0; have f1 := HQ.out.frz 1; have f2 := HQ.out.frz 2; have f3 := HQ.out.frz 3; have f4 := HQ.out.frz 4; have f5 := HQ.out.frz 5; have f6 := HQ.out.frz 6; have f7 := HQ.out.frz 7; have f8 := HQ.out.frz 8; have f9 := HQ.out.frz 9
        go_wp2_with (first
          | (go_at_call_of 67 (Value.int .i64 1); refine (HNA.out).mono ?_; rintro e w4 ⟨rfl, rfl⟩)
          | (go_at_call_of 67 (Value.int .i64 2); refine (HNB.out).mono ?_; rintro e w5 ⟨rfl, rfl⟩))
        go_meet
        have hR6 := HR.out
        have hlt := HLT.out
        exact ⟨⟨2, 0, 0, n1, n2, zeroE, []⟩, .slice none 0 0, .slice none 0 0, HQ.out.put ⟨2, 0, 0, n1, n2, zeroE, []⟩ (.slice none 0 0) (.slice none 0 0), hR6.aside (by omega) ⟨2, 0, 0, n1, n2, zeroE, []⟩ (.slice none 0 0) (.slice none 0 0), fun _ _ _ => ⟨zs_nil _, pks_nil _, by show (0 : Nat) ≤ _; omega, by show (0 : Nat) ≤ _; omega, by simp []⟩, fun n hn => by simp [zeroE] at hn, (below_set (below_set (below_set (below_set (below_set (below_set (below_set (below_set (below_set (below_set (HBX.out) (by omega) _) (by omega) _) (by omega) _) (by omega) _) (by omega) _) (by omega) _) (by omega) _) (by omega) _) (by omega) _) (by omega) _), HRD.out⟩
      by_cases h3 : wordN l 0 = wBudget
      · clear hl0
        have q1 := E1.out
        rw [show decide (wordN l 0 = [101, 114, 114, 111, 114]) = false from decide_eq_false h0] at q1
        have q2 := E2.out
        rw [show decide (wordN l 0 = [115, 97, 102, 101]) = false from decide_eq_false h1] at q2
        have q4 := E4.out
        rw [show decide (wordN l 0 = [98, 117, 100, 103, 101, 116]) = true from decide_eq_true h3] at q4
        have HRD : Hid (readL kindR l rest = ⟨4, 0, 0, 0, 0, zeroE, []⟩) := by
          show _ = _
          unfold readL
          rw [if_neg h0, if_neg h1, if_neg (by rw [h3]; decide), if_pos h3]
        clear h0 h1 h3 E1 E2 E3 E4 HNU
        have g0 := HQ.out.at_.c0
        have f0 := HQ.out.frz 0
        go_wp2_with fail
        go_meet
        have hR6 := HR.out
        have hlt := HLT.out
        exact ⟨⟨4, 0, 0, 0, 0, zeroE, []⟩, .slice none 0 0, .slice none 0 0, HQ.out.set0 4, ⟨hR6.at_.other (by omega), fun j => by simpa using hR6.frz j⟩, fun _ _ _ => ⟨zs_nil _, pks_nil _, by show (0 : Nat) ≤ _; omega, by show (0 : Nat) ≤ _; omega, by simp []⟩, fun n hn => by simp [zeroE] at hn, below_set HBX.out (by omega) _, HRD.out⟩
      by_cases h2 : wordN l 0 = wViol
      · clear hl0
        have q1 := E1.out
        rw [show decide (wordN l 0 = [101, 114, 114, 111, 114]) = false from decide_eq_false h0] at q1
        have q2 := E2.out
        rw [show decide (wordN l 0 = [115, 97, 102, 101]) = false from decide_eq_false h1] at q2
        have q4 := E4.out
        rw [show decide (wordN l 0 = [98, 117, 100, 103, 101, 116]) = false from decide_eq_false h3] at q4
        have q3 := E3.out
        rw [show decide (wordN l 0 = [118, 105, 111, 108, 97, 116, 105, 111, 110]) = true from decide_eq_true h2] at q3
        have HRD : Hid (readL kindR l rest = ⟨3, 0, 0, 0, 0, ⟨kindR (wordN l 1), numN l 2, numN l 3, (l.drop 4).map fun x => (numE x).1⟩, (parseK rest).1⟩) := by
          show _ = _
          unfold readL
          rw [if_neg h0, if_neg h1, if_pos h2]
        clear h0 h1 h2 h3 E1 E2 E3 E4
        have HN2 := Lib.hid (fun u hu => HNU.out u hu 2 (by decide))
        have HN3 := Lib.hid (fun u hu => HNU.out u hu 3 (by decide))
        generalize numN l 2 = n2 at HN2 HRD
        generalize numN l 3 = n3 at HN3 HRD
        obtain ⟨g0, g1, g2, g3, g4, g5, g6, g7, g8, g9⟩ := HQ.out.at_
        have f0 := HQ.out.frz 0; have f6 := HQ.out.frz 6; have f7 := HQ.out.frz 7
        go_upto_region 16 with (first
          | (go_at_call_of 67 (Value.int .i64 2); refine (HN2.out _ (by first | exact HSO.out.now | exact (HSO.out.setCell _ (Nat.le_refl _) _).now)).mono ?_; rintro e w4 ⟨rfl, rfl⟩)
          | (go_at_call_of 67 (Value.int .i64 3); refine (HN3.out _ (by first | exact HSO.out.now | exact (HSO.out.setCell _ (Nat.le_refl _) _).now | exact ((HSO.out.setCell _ (Nat.le_refl _) _).setCell _ (Nat.le_refl _) _).now)).mono ?_; rintro e w5 ⟨rfl, rfl⟩))
        have hqx := HQ.out
        have hlt0 := HLT.out
        have hsz0 := HSZ.out
        have hoff : Off (fun i => i = w1.heap.size ∨ w1.heap.size + 1 ≤ i) X (fun u => Strs u (.slice (some ⟨b0, off0, none⟩) l.length c) l ∧ VdBox u w.heap.size ⟨0, 0, 0, 0, 0, ⟨0, 0, 0, []⟩, []⟩ (.slice none 0 0) (.slice none 0 0)) := fun u h1 h2 => ⟨(HSO.out.mono (S' := fun i => i = w1.heap.size ∨ w1.heap.size + 1 ≤ i) (fun k _ hk => by show _ ≤ _; omega)) u h1 h2, HR.out.off (S := fun i => i = w1.heap.size ∨ w1.heap.size + 1 ≤ i) (by omega) u h1 h2⟩
        have hRD0 : RdAt w w1.heap.size (w1.heap.size + 1) (((X.setCell ⟨w1.heap.size, 0, none⟩ (.int .i64 3)).setCell ⟨w1.heap.size, 6, none⟩ (.int .i64 n2)).setCell ⟨w1.heap.size, 7, none⟩ (.int .i64 n3)) 0 n2 n3 none 0 [] (fun u => Strs u (.slice (some ⟨b0, off0, none⟩) l.length c) l ∧ VdBox u w.heap.size ⟨0, 0, 0, 0, 0, ⟨0, 0, 0, []⟩, []⟩ (.slice none 0 0) (.slice none 0 0)) :=
          ⟨⟨((hqx.set0 3).at_.set6 n2).set7 n3, fun j => by simpa using hqx.frz j⟩, World.ownsRow_nil _ _ _ _, by omega, by omega, by simp [World.setCell]; omega,
            (((hoff.setCell _ (.inl rfl) _).setCell _ (.inl rfl) _).setCell _ (.inl rfl) _),
          below_set (below_set (below_set HBX.out (by omega) _) (by omega) _) (by omega) _⟩
        clear hqx hlt0 hsz0 hoff g0 g1 g2 g3 g4 g5 g6 g7 g8 g9 f0 f6 f7 HN2 HN3 hy0
        generalize World.setCell _ _ _ = V0 at hRD0 ⊢
        have HRD0 := Lib.hid hRD0
        clear hRD0
        go_upto_block 3 with fail
        go_cut [6] from 59 to 76 (fun _ wx => RdAt w w1.heap.size (w1.heap.size + 1) wx (kindR (wordN l 1)) n2 n3 none 0 [] (fun u => Strs u (.slice (some ⟨b0, off0, none⟩) l.length c) l ∧ VdBox u w.heap.size ⟨0, 0, 0, 0, 0, ⟨0, 0, 0, []⟩, []⟩ (.slice none 0 0) (.slice none 0 0)))
        case first =>
          go_wp2_with fail
          go_loopw [6] (fun k wr => ∃ i : Nat, k = .int .i64 i ∧ 2 ≤ i ∧ i ≤ 5 ∧ (1 < l.length ∨ i = 2) ∧ RdAt w w1.heap.size (w1.heap.size + 1) wr (kR i (wordN l 1)) n2 n3 none 0 [] (fun u => Strs u (.slice (some ⟨b0, off0, none⟩) l.length c) l ∧ VdBox u w.heap.size ⟨0, 0, 0, 0, 0, ⟨0, 0, 0, []⟩, []⟩ (.slice none 0 0) (.slice none 0 0))) (fun k _ => 5 - (intOf k).toNat)
          case atStart => exact ⟨2, rfl, by decide, by decide, .inr rfl, by rw [kR_2]; exact HRD0.out⟩
          case round =>
            obtain ⟨i, rfl, hi2, hi5, hor, hrd⟩ := hrel
            have HRD1 := Lib.hid hrd
            have HOR := Lib.hid hor
            clear hor hrd
            by_cases h5 : i < 5
            · have h52 : (i : Int) ≤ 4 := by omega
              by_cases h1 : 1 < l.length
              · have h12 : (1 : Int) < (l.length : Int) := by omega
                have HX1 : Hid (∀ u, Below wr.heap.size wr u → u.cell? ⟨b0, off0 + 1, none⟩ = some (.string (str (wordN l 1)))) := fun u hu => by
                  obtain ⟨b3, off3, c3, hE3, _, _, hat3⟩ := Strs.at_ (l := l) (HRD1.out.below hu).keep.now.1 (by omega)
                  cases hE3
                  have h := hat3 1 h1
                  unfold wordN
                  rw [List.getD_eq_getElem?_getD, List.getElem?_eq_getElem h1]
                  exact h
                have HNM := Lib.hid (fun u => rName_c (i : Int) u)
                have hq : decide (nameK (i : Int) = wordN l 1) = ((str (nameK (i : Int))).toList == (str (wordN l 1)).toList) := by
                  rw [str_toList, str_toList, Bool.eq_iff_iff]; simp
                go_upto_region 19 with fail
                cases hc : decide (nameK (i : Int) = wordN l 1)
                · have HK := Lib.hid (kR_no i hi2 h5 (wordN l 1) (of_decide_eq_false hc))
                  rw [hc] at hq
                  clear hc
                  replace hq := hq.symm
                  generalize str (nameK (i : Int)) = S3 at HNM hq
                  generalize str (wordN l 1) = S4 at HX1 hq
                  have x1 := HX1.out wr (Below.refl _ _)
                  go_region_held3 (fun u => u.cell? ⟨b0, off0 + 1, none⟩ = some (.string S4))
                    (exact HX1.out _ (by repeat (first | exact Below.refl _ _ | assumption | refine bdrN ?_ _ | refine bdr ?_)))
                    (first
                      | (go_at_call 35; (with_reducible refine (HNM.out _).mono ?_); rintro e w3 ⟨rfl, hb3⟩; have h3 : Below wr.heap.size wr w3 := bt (by repeat (first | exact Below.refl _ _ | assumption | refine bdrN ?_ _ | refine bdr ?_)) hb3; clear hb3))
                  all_goals
                    go_wp2_with fail
                    go_roundw
                    case rel => exact ⟨i + 1, by go_num, by omega, by omega, .inl h1, by rw [HK.out]; exact HRD1.out.below (by repeat (first | exact Below.refl _ _ | assumption | refine bdrN ?_ _ | refine bdr ?_))⟩
                    case measure => simp [intOf]; omega
                · have HK := Lib.hid (kR_yes i hi2 h5 (wordN l 1) (of_decide_eq_true hc))
                  rw [hc] at hq
                  clear hc
                  replace hq := hq.symm
                  generalize str (nameK (i : Int)) = S3 at HNM hq
                  generalize str (wordN l 1) = S4 at HX1 hq
                  have x1 := HX1.out wr (Below.refl _ _)
                  go_region_held3 (fun u => u.cell? ⟨b0, off0 + 1, none⟩ = some (.string S4))
                    (exact HX1.out _ (by repeat (first | exact Below.refl _ _ | assumption | refine bdrN ?_ _ | refine bdr ?_)))
                    (first
                      | (go_at_call 35; (with_reducible refine (HNM.out _).mono ?_); rintro e w3 ⟨rfl, hb3⟩; have h3 : Below wr.heap.size wr w3 := bt (by repeat (first | exact Below.refl _ _ | assumption | refine bdrN ?_ _ | refine bdr ?_)) hb3; clear hb3))
                  all_goals
                    have RD3 := HRD1.out.below h3
                    have c5 := RD3.box.at_.c5
                    have f5 := RD3.box.frz 5
                    go_wp2_with fail
                    go_roundw
                    case rel => exact ⟨i + 1, by go_num, by omega, by omega, .inl h1, by rw [HK.out]; exact RD3.kind _⟩
                    case measure => simp [intOf]; omega
              · have h12 : ¬ (1 : Int) < (l.length : Int) := by omega
                have hi : i = 2 := by rcases HOR.out with h | h <;> omega
                have HW : Hid (wordN l 1 = []) := by
                  show _ = _
                  unfold wordN
                  rw [List.getD_eq_getElem?_getD, List.getElem?_eq_none (by omega)]; rfl
                go_wp2_with fail
                go_meet
                have h := HRD1.out
                rw [HW.out, kR_nil] at h
                rw [HW.out]
                exact h
            · obtain rfl : i = 5 := by omega
              go_wp2_with fail
              go_meet
              have h := HRD1.out
              rw [kR_5] at h
              exact h
        case rest =>
          have HRDC := Lib.hid hcut
          clear hcut
          generalize kindR (wordN l 1) = n1 at HRDC HRD
          go_wp2_with fail
          go_loopw [7] (fun k wr => ∃ (i j : Nat) (L : List Int) (A : Option Addr) (cc : Nat), i = 4 + j ∧ j ≤ (l.drop 4).length ∧ k = .int .i64 i ∧ L = ((l.drop 4).take j).map (fun x => (numE x).1) ∧ RdAt w w1.heap.size (w1.heap.size + 1) wr n1 n2 n3 A cc L (fun u => Strs u (.slice (some ⟨b0, off0, none⟩) l.length c) l ∧ VdBox u w.heap.size ⟨0, 0, 0, 0, 0, ⟨0, 0, 0, []⟩, []⟩ (.slice none 0 0) (.slice none 0 0))) (fun k _ => (l.drop 4).length + 4 - (intOf k).toNat)
          case atStart => exact ⟨4, 0, [], none, 0, rfl, Nat.zero_le _, rfl, by simp, HRDC.out⟩
          case round =>
            obtain ⟨i, j, L, A, cc, hij, hj, rfl, hL, hrd⟩ := hrel
            rw [List.length_drop] at hj
            have hln := HLN.out
            have HRD1 := Lib.hid hrd
            have hLL : L.length = j := by rw [hL, List.length_map, List.length_take, List.length_drop]; omega
            have HLL := Lib.hid hLL
            have HL := Lib.hid hL
            by_cases hjl : i < l.length
            · have hjl2 : (i : Int) < (l.length : Int) := by omega
              have HNX : Hid (L ++ [numN l i] = ((l.drop 4).take (j + 1)).map (fun x => (numE x).1)) := by
                show _ = _
                rw [hL, List.take_succ_eq_append_getElem (by rw [List.length_drop]; omega), List.map_append, List.getElem_drop]
                unfold numN wordN
                rw [List.getD_eq_getElem?_getD, List.getElem?_eq_getElem hjl]
                subst hij; rfl
              have HNJ : Hid (∀ u, Strs u (.slice (some ⟨b0, off0, none⟩) l.length c) l → Calls Tryz.prog 67 #[(.slice (some ⟨b0, off0, none⟩) l.length c), .int .i64 i] u fun e w' => e = .returned (.int .i64 (numN l i)) ∧ Below u.heap.size u w') := fun u hu => (HNU.out u hu i (by omega)).mono (fun _ _ h => ⟨h.1, h.2 ▸ Below.refl _ _⟩)
              have p8 := hrd.box.at_.c8
              have HIJ := Lib.hid hij
              have hi00 : (0 : Int) ≤ (i : Int) := Int.natCast_nonneg _
              clear hL hrd hij
              generalize numN l i = z at HNX HNJ
              go_upto_region 24 with fail
              have HT2 : Hid (L.length + 1 ≤ maxLen ∧ (L.length + 1) * 8 ≤ 140737488355328) := by show _ ∧ _; unfold maxLen; constructor <;> omega
              clear hLL hln
              go_region_law (first
                | (go_simp; go_at_call 67; refine (HNJ.out _ (HRD1.out.below (by repeat (first | exact Below.refl _ _ | assumption | refine bdrN ?_ _ | refine bdr ?_))).keep.now.1).mono ?_; rintro e w10 ⟨rfl, hb10⟩; have hB10 : Below wr.heap.size wr w10 := bt (by repeat (first | exact Below.refl _ _ | assumption | refine bdrN ?_ _ | refine bdr ?_)) hb10; have RD10 := HRD1.out.below hB10; have c10 := RD10.box.at_.c8; have hca := ((al w10 (.cells #[.int .i64 z] 3)).cell (p := ⟨w1.heap.size, 8, none⟩) RD10.box.at_.lt).trans c10)
                | (refine step_append_lies _ (by rfl) _ _ _ (by rfl) (w1.heap.size + 1) 3 i0 _ 1 8 Tryz.underlying23 hi0 hz0 hz1 hz2 rfl (by decide) (.slice A L.length cc) L.length (L.flatMap zCell) (by rfl) ((RD10.below (al w10 _)).below (by repeat (first | exact Below.refl _ _ | assumption | refine bdrN ?_ _ | refine bdr ?_))).own ⟨w10.heap.size, 0, none⟩ 1 1 (zCell z) (by rfl) (by rfl) (World.news_of_block (cs := #[.int .i64 z]) (t := 3) (fr := (0, 0)) (heap_alloc_new w10 _)) (by simp [zCell, Value.oneCell']) (by decide) HT2.out.1 HT2.out.2 (RD10.below (al w10 _)).top (w10.heap.size + 1) (by simp) ?_; intro gg cap w11 hown11 hgrow hat hlt; have RDA := (RD10.below (al w10 (.cells #[.int .i64 z] 3))).below (bdr (Below.refl _ _)); have hnb : (Value.slice A L.length cc).ownBlock ≠ some w1.heap.size := (fun e => by have := (RDA.own.lt _ e).1; have := RDA.lt; omega); have p11 := hgrow.cell RDA.box.at_.c8 (Ne.symm hnb); have f11 := (World.frozen?_of_block (a := ⟨w1.heap.size, 8, none⟩) (hgrow.block w1.heap.size RDA.box.at_.lt (Ne.symm hnb))).trans (RDA.box.frz 8)))
              all_goals
                have hP := (RD10.below (al w10 (.cells #[.int .i64 z] 3))).push z (some ⟨gg, 0, none⟩) cap hown11 hgrow
                have hln := HLN.out
                go_wp2_with fail
                have hij := HIJ.out
                have hdl : (l.drop 4).length = l.length - 4 := List.length_drop
                go_roundw
                case rel => exact ⟨i + 1, j + 1, L ++ [z], some ⟨gg, 0, none⟩, cap, by omega, by omega, by go_num, HNX.out, hP⟩
                case measure => simp only [intOf]; omega
            · have hij2 : j = (l.drop 4).length := by rw [List.length_drop]; omega
              have HF : Hid (L = (l.drop 4).map (fun x => (numE x).1)) := by
                show _ = _
                rw [hL, hij2, List.take_length]
              have hi2 : ¬ ((i : Int) < (l.length : Int)) := by omega
              have HLEN : Hid (L.length ≤ 100000000) := by show _ ≤ _; omega
              have hrk := hrd.keep.now.2
              clear hL hLL HLL HL hij2 hrd
              by_cases hes : e < s.size
              · have hes2 : (e : Int) < (s.size : Int) := by omega
                have hx2 := HX2.out
                go_wp2_with (go_at_call 68; refine (HPP.out _).mono ?_; rintro e1 w10 hpp; obtain ⟨A6, c6, rfl, hpk6, hb10⟩ := par_shape hpp; have RD10 := HRD1.out.below hb10; have p9 := RD10.box.at_.c9; have f9 := RD10.box.frz 9)
                go_meet
                have hlt := HLT.out
                have hsm := parse_small rest HRL.out
                have htop := HRD1.out.top
                refine ⟨⟨3, 0, 0, 0, 0, ⟨n1, n2, n3, L⟩, (parseK rest).1⟩, _, _, ⟨RD10.box.at_.set9 _ _, fun j => by simpa using RD10.box.frz j⟩, ⟨RD10.keep.now.2.at_.other (by omega), fun j => by simpa using RD10.keep.now.2.frz j⟩, ?_, ?_, below_set RD10.belo (by omega) _, by have h := HRD.out; rw [← HF.out] at h; exact h⟩
                · have hz := ((off_own (S := fun k => k = w1.heap.size ∨ k ≤ w.heap.size) RD10.own (fun k hk e => by have := (RD10.own.lt k hk).1; omega)).setCell ⟨w1.heap.size, 9, none⟩ (.inl rfl) (.slice A6 (parseK rest).1.length c6)).mono (S' := fun k => k ≤ w.heap.size) (fun k _ hk => .inr hk)
                  have hp := ((hpk6.mono (S' := fun k => k = w1.heap.size ∨ k ≤ w.heap.size) (fun k _ hk => by show k < _; omega)).setCell ⟨w1.heap.size, 9, none⟩ (.inl rfl) (.slice A6 (parseK rest).1.length c6)).mono (S' := fun k => k ≤ w.heap.size) (fun k _ hk => .inr hk)
                  exact fun u h1 h2 => ⟨hz u h1 h2, hp u h1 h2, HLEN.out, by show (parseK rest).1.length ≤ _; omega, fun x hx => by have := hsm.2 x hx; omega⟩
                · intro n hn
                  have hF := HF.out
                  rw [show (⟨3, 0, 0, 0, 0, ⟨n1, n2, n3, L⟩, (parseK rest).1⟩ : Vd).bad.cells = L from rfl, hF] at hn
                  obtain ⟨y, _, rfl⟩ := List.mem_map.1 hn
                  exact numE_I64 y
              · have hes2 : ¬ (e : Int) < (s.size : Int) := by omega
                have hrn := HX3.out hes
                go_wp2_with fail
                go_meet
                have hlt := HLT.out
                have RD1 := HRD1.out
                refine ⟨⟨3, 0, 0, 0, 0, ⟨n1, n2, n3, L⟩, []⟩, _, _, RD1.box, RD1.keep.now.2, ?_, ?_, RD1.belo, by have h := HRD.out; rw [← HF.out, hrn, parse_empty] at h; rw [hrn]; exact h⟩
                · have hz := off_own (S := fun k => k ≤ w.heap.size) RD1.own (fun k hk e => by have := (RD1.own.lt k hk).1; omega)
                  exact fun u h1 h2 => ⟨hz u h1 h2, pks_nil _, HLEN.out, by show (0 : Nat) ≤ _; omega, fun x hx => by cases hx⟩
                · intro n hn
                  have hF := HF.out
                  rw [show (⟨3, 0, 0, 0, 0, ⟨n1, n2, n3, L⟩, []⟩ : Vd).bad.cells = L from rfl, hF] at hn
                  obtain ⟨y, _, rfl⟩ := List.mem_map.1 hn
                  exact numE_I64 y
      · clear hl0
        have q1 := E1.out
        rw [show decide (wordN l 0 = [101, 114, 114, 111, 114]) = false from decide_eq_false h0] at q1
        have q2 := E2.out
        rw [show decide (wordN l 0 = [115, 97, 102, 101]) = false from decide_eq_false h1] at q2
        have q3 := E3.out
        rw [show decide (wordN l 0 = [118, 105, 111, 108, 97, 116, 105, 111, 110]) = false from decide_eq_false h2] at q3
        have q4 := E4.out
        rw [show decide (wordN l 0 = [98, 117, 100, 103, 101, 116]) = false from decide_eq_false h3] at q4
        have HRD : Hid (readL kindR l rest = zeroV) := by
          show _ = _
          unfold readL
          rw [if_neg h0, if_neg h1, if_neg h2, if_neg h3]
        clear h0 h1 h2 h3 E1 E2 E3 E4 HNU
        go_wp2_with fail
        go_meet
        exact ⟨zeroV, .slice none 0 0, .slice none 0 0, HQ.out, HR.out, fun _ _ _ => ⟨zs_nil _, pks_nil _, by show (0 : Nat) ≤ _; omega, by show (0 : Nat) ≤ _; omega, by simp [zeroV]⟩, fun n hn => by simp [zeroV, zeroE] at hn, HBX.out, HRD.out⟩
    case rest =>
      obtain ⟨v, cv, sv, hq, hr, hok, hnm, hbw, hv⟩ := hcut
      obtain ⟨A1, k1, rfl, _⟩ := hok.now.cells.shape
      obtain ⟨A2, k2, rfl, _⟩ := hok.now.sched.shape
      have HOK := Lib.hid hok
      have HNM := Lib.hid hnm
      have HBW := Lib.hid hbw
      have HV := Lib.hid hv
      have HQ2 := Lib.hid hq
      have HR2 := Lib.hid hr
      obtain ⟨q0, q1, q2, q3, q4, q5, q6, q7, q8, q9⟩ := hq.at_
      obtain ⟨r0, r1, r2, r3, r4, r5, r6, r7, r8, r9⟩ := hr.at_
      have f0 := hr.frz 0; have f1 := hr.frz 1; have f2 := hr.frz 2; have f3 := hr.frz 3; have f4 := hr.frz 4; have f5 := hr.frz 5; have f6 := hr.frz 6; have f7 := hr.frz 7; have f8 := hr.frz 8; have f9 := hr.frz 9
      clear hok hnm hbw hv hq hr HQ HR HNU hy0
      have HOF : Hid (Below wc.heap.size wc wc) := Below.refl _ _
      go_wp2_with fail
      refine bodyPost_ret (v := vdV v (.slice A1 v.bad.cells.length k1) (.slice A2 v.sched.length k2)) (by simp [results, Tryz.results42, go_sem, vdV, World.cell?_setCell_other, World.cell?_setCell_same', r0, r1, r2, r3, r4, r5, r6, r7, r8, r9]; try rfl) rfl ?_
      rw [HV.out]
      exact ⟨_, _, rfl, (((((((((((((((((((((HOK.out).setCell ⟨w.heap.size, 0, none⟩ (Nat.le_refl _) _)).setCell ⟨w.heap.size, 1, none⟩ (Nat.le_refl _) _)).setCell ⟨w.heap.size, 2, none⟩ (Nat.le_refl _) _)).setCell ⟨w.heap.size, 3, none⟩ (Nat.le_refl _) _)).setCell ⟨w.heap.size, 4, none⟩ (Nat.le_refl _) _)).setCell ⟨w.heap.size, 5, none⟩ (Nat.le_refl _) _)).setCell ⟨w.heap.size, 6, none⟩ (Nat.le_refl _) _)).setCell ⟨w.heap.size, 7, none⟩ (Nat.le_refl _) _)).setCell ⟨w.heap.size, 8, none⟩ (Nat.le_refl _) _)).setCell ⟨w.heap.size, 9, none⟩ (Nat.le_refl _) _)).mono (fun k _ hk => Nat.le_of_lt hk), HNM.out, below_set (below_set (below_set (below_set (below_set (below_set (below_set (below_set (below_set (below_set (HBW.out) (Nat.le_refl _) _) (Nat.le_refl _) _) (Nat.le_refl _) _) (Nat.le_refl _) _) (Nat.le_refl _) _) (Nat.le_refl _) _) (Nat.le_refl _) _) (Nat.le_refl _) _) (Nat.le_refl _) _) (Nat.le_refl _) _⟩
end Go.Proofs.YtcgcndmlgfnjbaaGreatDoor

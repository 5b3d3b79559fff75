/- A line cut at blanks, and a word's number: the reference's walks. -/
import Derived.Test.YtcgcndmlgfnjbaaGreatDoorSchK
import Derived.Test.YtcgcndmlgfnjbaaGreatDoorRepG1
import Derived.Test.YtcgcndmlgfnjbaaGreatDoorWParse
import Derived.Test.YtcgcndmlgfnjbaaGreatDoorWalkE
import Derived.Test.YtcgcndmlgfnjbaaGreatDoorSchFct
import Derived.Test.YtcgcndmlgfnjbaaGreatDoorSchFcm
namespace Go.Proofs.YtcgcndmlgfnjbaaGreatDoor
open Go Go.RowKit
set_option linter.unusedVariables false
set_option maxRecDepth 100000 in
set_option maxHeartbeats 4000000 in
theorem rsplit_c (s : ByteArray) (hs : s.size ≤ 1000000) (w : World) :
    Calls Tryz.prog 66 #[.string s] w fun e w' => ∃ A c, e = .returned (.slice A (splitK s.data.toList).length c) ∧ Strs w' (.slice A (splitK s.data.toList).length c) (splitK s.data.toList) ∧ Below w.heap.size w w' := by
  obtain ⟨i0, hi0, hz0, hz1, hz2⟩ := info_parts info_string
  have HE0 := Lib.hid (own_empty w 9 1 (by decide))
  have hsl : s.data.toList.length = s.size := by rw [Array.length_toList]; rfl
  have HSL := Lib.hid hsl
  clear hsl
  go_enter Tryz.func66, Tryz.ntmps66
  go_wp2_with fail
  go_loopw [3, 4, 5] (fun out f k wr => ∃ (m g j : Nat) (L : List (List UInt8)), WS s.data.toList L g j ∧ L.length = m ∧ f = .int .i64 g ∧ k = .int .i64 j ∧ (∃ A c, out = .slice A m c) ∧ wr.ownsRow w.heap.size 9 1 out m (L.flatMap strCell) ∧ Below w.heap.size w wr) (fun _ _ k _ => s.size - (intOf k).toNat)
  case atStart => exact ⟨0, 0, 0, [], WS.zero _, rfl, rfl, rfl, ⟨_, _, rfl⟩, HE0.out, al _ _⟩
  case round =>
    obtain ⟨m, g, j, L, hws, hm, rfl, rfl, ⟨A, cc, rfl⟩, hown, hb⟩ := hrel
    have hg1 := hws.le
    have hj1 : j ≤ s.size := by have := hws.top; rw [HSL.out] at this; exact this
    have hml : m ≤ g := by rw [← hm]; exact hws.len
    have HWS := Lib.hid hws
    have HOWN := Lib.hid hown
    have HB := Lib.hid hb
    have HM := Lib.hid hm
    have HSZ := Lib.hid hb.size
    have HT4 : Hid (m + 1 ≤ maxLen ∧ (m + 1) * 16 ≤ 140737488355328) := by show _ ∧ _; unfold maxLen; constructor <;> omega
    have hj0 : (0 : Int) ≤ (j : Int) := Int.natCast_nonneg _
    have hg0 : (0 : Int) ≤ (g : Int) := Int.natCast_nonneg _
    have hgj : (g : Int) ≤ (j : Int) := by omega
    have hjs : (j : Int) ≤ (s.size : Int) := by omega
    clear hws hown hb hm hml
    by_cases hjl : j < s.size
    · have hjl2 : (j : Int) < (s.size : Int) := by omega
      have hby := byte_at s j hjl
      have HBY := Lib.hid hby
      cases hv : (((s[j]'hjl).toNat : Int) == 32)
      · have HN : Hid (¬ s.data.toList[j]'(by rw [HSL.out]; exact hjl) = 32) := by
          intro e
          rw [HBY.out] at e
          rw [e] at hv
          exact absurd hv (by decide)
        clear hby
        go_wp2_with fail
        go_roundw
        case rel => exact ⟨m, g, j + 1, L, HWS.out.other _ HN.out, HM.out, rfl, by go_num, ⟨A, cc, rfl⟩, HOWN.out, HB.out⟩
        case measure => simp [intOf]; omega
      · have HN : Hid (s.data.toList[j]'(by rw [HSL.out]; exact hjl) = 32) := by
          show _ = _
          rw [HBY.out]
          have h1 : (s[j]'hjl).toNat = 32 := by rw [beq_iff_eq] at hv; omega
          exact UInt8.toNat_inj.1 h1
        clear hby
        go_wp2_with (first
          | (at_builtin; refine wpl_app rfl _ _ 43 rfl w.heap.size 9 i0 _ 1 16 Tryz.underlying43 hi0 hz0 hz1 hz2 rfl (by decide) (.slice A m cc) m (L.flatMap strCell) rfl (own_below HOWN.out (al wr _)) (.slice (some ⟨wr.heap.size, 0, none⟩) 1 1) 1 ([(s.data.toList.drop g).take (j - g)].flatMap strCell) rfl (sl_str wr _ _ (ext_mid s g j)) (str_one _) HT4.out.1 HT4.out.2 (Nat.le_trans HSZ.out (al wr _).size) ?_; intro v6 w6 hown6 hb6; obtain ⟨A6, c6, rfl⟩ := own_shape hown6; have hB6 := btB (balloc HB.out _) hb6 (Nat.le_refl _)))
        go_roundw
        case rel =>
          refine ⟨m + 1, j + 1, j + 1, _, HWS.out.blank _ HN.out, by rw [List.length_append, HM.out]; rfl, by go_num, by go_num, ⟨A6, c6, rfl⟩, ?_, hB6⟩
          rw [List.flatMap_append]
          exact hown6
        case measure => simp [intOf]; omega
    · obtain rfl : j = s.size := by omega
      have HF : Hid (splitK s.data.toList = L ++ [s.data.toList.drop g]) := by
        have := HWS.out
        rw [← HSL.out] at this
        exact this.fin
      go_wp2_with (first
        | (at_builtin; refine wpl_app rfl _ _ 43 rfl w.heap.size 9 i0 _ 1 16 Tryz.underlying43 hi0 hz0 hz1 hz2 rfl (by decide) (.slice A m cc) m (L.flatMap strCell) rfl (own_below HOWN.out (al wr _)) (.slice (some ⟨wr.heap.size, 0, none⟩) 1 1) 1 ([s.data.toList.drop g].flatMap strCell) rfl (sl_str wr _ _ (ext_end s g)) (str_one _) HT4.out.1 HT4.out.2 (Nat.le_trans HSZ.out (al wr _).size) ?_; intro v6 w6 hown6 hb6; obtain ⟨A6, c6, rfl⟩ := own_shape hown6; have hB6 := btB (balloc HB.out _) hb6 (Nat.le_refl _)))
      go_ret
      rw [HF.out, List.length_append, HM.out]
      refine ⟨A6, c6, rfl, ?_, hB6⟩
      have := sl_of_own hown6
      rw [← List.flatMap_append] at this
      show SlN _ _ 1 (L ++ _).length _
      rw [List.length_append, HM.out]
      exact this
theorem num_nil : (numE []).1 = 0 := by decide
theorem num_c (l : List (List UInt8)) (i : Nat) (hx : ∀ x ∈ l, x.length ≤ 1000000) (hi : i ≤ 1000000000) (v : Value) (w : World) (hv : Strs w v l) :
    Calls Tryz.prog 67 #[v, .int .i64 i] w fun e w' => e = .returned (.int .i64 (numN l i)) ∧ w = w' := by
  by_cases hil : i < l.length
  · obtain ⟨b, off, c, rfl, hc, hb, hat⟩ := Strs.at_ hv (by omega)
    have h0 := hat i hil
    have hil2 : ¬ ((l.length : Int) ≤ (i : Int)) := by omega
    have hil3 : (i : Int) < (l.length : Int) := by omega
    have HPZ : Hid (Calls Tryz.prog 82 #[.string (str l[i])] w fun e w' => e = .returned (.tuple #[.int .i64 (numE l[i]).1, .int .i64 (numE l[i]).2]) ∧ w = w') := by
      have := rparse_c (str l[i]) w (by rw [str_size]; have := hx _ (List.getElem_mem hil); omega)
      unfold NumPost at this
      rw [str_data] at this
      exact this
    have HN : Hid (numN l i = (numE l[i]).1) := by
      show _ = _
      unfold numN wordN
      rw [List.getD_eq_getElem?_getD, List.getElem?_eq_getElem hil]; rfl
    clear hv hat hx
    generalize l[i] = y at h0 HPZ HN
    generalize numE y = z at HPZ HN
    obtain ⟨z1, z2⟩ := z
    simp only at HPZ HN
    go_enter Tryz.func67, Tryz.ntmps67
    go_wp2_with (go_at_call 82; refine (HPZ.out).mono ?_; rintro e w2 ⟨rfl, rfl⟩)
    go_ret
    exact ⟨ret_int HN.out.symm, rfl⟩
  · obtain ⟨_, A, c, rfl, _⟩ := hv
    have hil2 : (l.length : Int) ≤ (i : Int) := by omega
    have HN : Hid (numN l i = 0) := by
      show _ = _
      unfold numN wordN
      rw [List.getD_eq_getElem?_getD, List.getElem?_eq_none (by omega)]
      exact num_nil
    clear hx
    go_enter Tryz.func67, Tryz.ntmps67
    go_wp2_with fail
    go_ret
    exact ⟨ret_int HN.out.symm, rfl⟩
/-- the program: a word's number -/
theorem number_c (x : List UInt8) (hx : x.length ≤ 1000000) (w : World) (hE : Env w) :
    Calls Tryz.prog 63 #[.string (str x)] w fun e w' => e = .returned (.int .i64 (numE x).1) ∧ Below w.heap.size w w' := by
  have HPZ : Hid (Calls Tryz.prog 78 #[.string (str x)] w fun e w' => e = .returned (.tuple #[.int .i64 (numE x).1, .int .i64 (numE x).2]) ∧ Below w.heap.size w w') := by
    have := parse_c (str x) w (by rw [str_size]; omega) hE
    unfold NumBPost at this
    rw [str_data] at this
    exact this
  generalize numE x = z at HPZ ⊢
  obtain ⟨z1, z2⟩ := z
  simp only at HPZ ⊢
  clear hE
  go_enter Tryz.func63, Tryz.ntmps63
  go_wp2_with (go_at_call 78; refine (HPZ.out).mono ?_; rintro e w2 ⟨rfl, hb2⟩)
  go_ret
  exact ⟨rfl, hb2⟩
/-- the program: a word, if there is one -/
theorem word_c (l : List (List UInt8)) (i : Nat) (hi : i ≤ 1000000000) (B : Nat) (v : Value) (w : World) (hc0 : w.cell? ⟨B, 0, none⟩ = some v) (hv : Strs w v l) :
    Calls Tryz.prog 62 #[.int .i64 i, .pointer (some ⟨B, 0, none⟩)] w fun e w' => e = .returned (.string (str (wordN l i))) ∧ w = w' := by
  by_cases hil : i < l.length
  · obtain ⟨b, off, c, rfl, hc, hb, hat⟩ := Strs.at_ hv (by omega)
    have h0 := hat i hil
    have hil3 : (i : Int) < (l.length : Int) := by omega
    have HN : Hid (wordN l i = l[i]) := by
      show _ = _
      unfold wordN
      rw [List.getD_eq_getElem?_getD, List.getElem?_eq_getElem hil]; rfl
    clear hv hat
    generalize l[i] = y at h0 HN
    go_enter Tryz.func62, Tryz.ntmps62
    go_wp2_with fail
    go_ret
    exact ⟨ret_str (by rw [HN.out]), rfl⟩
  · obtain ⟨_, A, c, rfl, _⟩ := hv
    have hil2 : ¬ ((i : Int) < (l.length : Int)) := by omega
    have HN : Hid (wordN l i = []) := by
      show _ = _
      unfold wordN
      rw [List.getD_eq_getElem?_getD, List.getElem?_eq_none (by omega)]; rfl
    go_enter Tryz.func62, Tryz.ntmps62
    go_wp2_with fail
    go_ret
    exact ⟨ret_str (by rw [HN.out]; rfl), rfl⟩
theorem kind_at (x : List UInt8) : ∀ (j : Nat), j < 5 → (∀ k : Nat, k < j → ¬ nameK k = x) → nameK j = x → kindP x = j := by
  intro j hj hno h
  have e0 : nameK (0 : Nat) = nOpen := rfl
  have e1 : nameK (1 : Nat) = nSafe := rfl
  have e2 : nameK (2 : Nat) = nClaim := rfl
  have e3 : nameK (3 : Nat) = nFault := rfl
  have e4 : nameK (4 : Nat) = nStuck := rfl
  have hc : j = 0 ∨ j = 1 ∨ j = 2 ∨ j = 3 ∨ j = 4 := by omega
  rcases hc with rfl | rfl | rfl | rfl | rfl <;> subst h <;> rfl
theorem kind_no (x : List UInt8) (hno : ∀ k : Nat, k < 5 → ¬ nameK k = x) : kindP x = 0 := by
  unfold kindP
  rw [if_neg (fun h => hno 0 (by decide) (by rw [h]; rfl)), if_neg (fun h => hno 1 (by decide) (by rw [h]; rfl)), if_neg (fun h => hno 2 (by decide) (by rw [h]; rfl)), if_neg (fun h => hno 3 (by decide) (by rw [h]; rfl)), if_neg (fun h => hno 4 (by decide) (by rw [h]; rfl))]
set_option maxRecDepth 100000 in
set_option maxHeartbeats 4000000 in
theorem kind_c (x : List UInt8) (w : World) : Calls Tryz.prog 64 #[.string (str x)] w fun e w' => e = .returned (.int .i64 (kindP x)) ∧ Below w.heap.size w w' := by
  go_enter Tryz.func64, Tryz.ntmps64
  go_wp2_with fail
  go_loopw [4] (fun k wr => ∃ j : Nat, j ≤ 5 ∧ k = .int .i64 j ∧ Below w.heap.size w wr ∧ ∀ k : Nat, k < j → ¬ nameK k = x) (fun k _ => 5 - (intOf k).toNat)
  case atStart => exact ⟨0, by decide, rfl, Below.refl _ _, fun k hk => absurd hk (by omega)⟩
  case round =>
    obtain ⟨j, hj, rfl, hb, hno⟩ := hrel
    have HB := Lib.hid hb
    clear hb
    have HNO := Lib.hid hno
    have HNM := Lib.hid (pName_c (j : Int) wr)
    clear hno
    by_cases hjl : j < 5
    · have hjl2 : (j : Int) < 5 := by omega
      have hq : decide (nameK (j : Int) = x) = ((str (nameK (j : Int))).toList == (str x).toList) := by
        rw [str_toList, str_toList, Bool.eq_iff_iff]; simp
      cases hc : decide (nameK (j : Int) = x)
      · rw [hc] at hq
        have HF : Hid (∀ k : Nat, k < j + 1 → ¬ nameK k = x) := fun k hk => by
          by_cases hkj : k < j
          · exact HNO.out k hkj
          · obtain rfl : k = j := by omega
            exact of_decide_eq_false hc
        clear hc
        replace hq := hq.symm
        generalize str (nameK (j : Int)) = S at HNM hq
        go_wp2_with (go_at_call 32; refine (HNM.out).mono ?_; rintro e w2 ⟨rfl, rfl⟩)
        go_roundw
        case rel => exact ⟨j + 1, by omega, by go_num, HB.out, HF.out⟩
        case measure => simp [intOf]; omega
      · obtain rfl : nameK (j : Int) = x := of_decide_eq_true hc
        have HV := Lib.hid (kind_at _ j hjl HNO.out rfl)
        clear hc hq HNO
        generalize str (nameK (j : Int)) = S at HNM ⊢
        go_wp2_with (go_at_call 32; refine (HNM.out).mono ?_; rintro e w2 ⟨rfl, rfl⟩)
        go_ret
        exact ⟨ret_int HV.out.symm, HB.out⟩
    · obtain rfl : j = 5 := by omega
      have HV := Lib.hid (kind_no x HNO.out)
      go_wp2_with fail
      go_ret
      exact ⟨ret_int HV.out.symm, HB.out⟩
end Go.Proofs.YtcgcndmlgfnjbaaGreatDoor
/- A verdict that is being read: what is cut off, and how it lies in memory meanwhile. -/
namespace Go.Proofs.YtcgcndmlgfnjbaaGreatDoor
open Go Go.RowKit
set_option linter.unusedVariables false
theorem index_cons10 (c : UInt8) (r : List UInt8) : Lib.index (c :: r) [10] = if c = 10 then 0 else if Lib.index r [10] = -1 then -1 else Lib.index r [10] + 1 := by
  rw [Lib.index]
  by_cases h : c = 10
  · subst h; simp
  · have h2 : ([10] : List UInt8).isPrefixOf (c :: r) = false := by
      simp [List.isPrefixOf]; exact fun e => h e.symm
    rw [h2, if_neg h]
    by_cases hi : Lib.index r [10] = -1
    · simp [hi]
    · simp [hi]
theorem cut_is : ∀ (s : List UInt8), (Lib.cut s [10]).1 = (cutN s).1 ∧ (Lib.cut s [10]).2.1 = (cutN s).2
  | [] => ⟨rfl, rfl⟩
  | c :: r => by
    have ih := cut_is r
    have hge := Lib.index_ge r [10]
    unfold Lib.cut at ih ⊢
    rw [index_cons10]
    unfold cutN
    by_cases h : c = 10
    · rw [if_pos h, if_pos h]; simp
    · rw [if_neg h, if_neg h]
      by_cases hi : Lib.index r [10] = -1
      · rw [if_pos hi, if_neg (by decide)]
        rw [if_neg (by omega)] at ih
        exact ⟨by rw [← ih.1], ih.2⟩
      · rw [if_neg hi, if_pos (by omega)]
        rw [if_pos (by omega)] at ih
        have e : (Lib.index r [10] + 1).toNat = (Lib.index r [10]).toNat + 1 := by omega
        rw [e]
        refine ⟨by rw [← ih.1]; rfl, ?_⟩
        rw [← ih.2]
        show (c :: r).drop ((Lib.index r [10]).toNat + 1 + 1) = _
        rfl
theorem cutN_len : ∀ (s : List UInt8), (cutN s).1.length ≤ s.length ∧ (cutN s).2.length ≤ s.length
  | [] => ⟨Nat.le_refl _, Nat.le_refl _⟩
  | c :: r => by
    have ih := cutN_len r
    unfold cutN
    split
    · simp
    · simp only [List.length_cons]; omega
theorem numE_I64 (s : List UInt8) : I64 (numE s).1 := by
  unfold numE
  split
  · split
    · assumption
    · exact ⟨by decide, by decide⟩
  · exact ⟨by decide, by decide⟩
/-- a violation's cells, read so far -/
structure RdAt (w0 : World) (q base : Nat) (wr : World) (k wh c : Int) (A : Option Addr) (cc : Nat) (L : List Int) (Q : World → Prop) : Prop where
  box : VdBox wr q ⟨3, 0, 0, 0, 0, ⟨k, wh, c, L⟩, []⟩ (.slice A L.length cc) (.slice none 0 0)
  own : wr.ownsRow base 3 1 (.slice A L.length cc) L.length (L.flatMap zCell)
  lt : q < base
  le : w0.heap.size ≤ q
  top : base ≤ wr.heap.size
  keep : Off (fun i => i = q ∨ base ≤ i) wr Q
  belo : Below w0.heap.size w0 wr
theorem RdAt.below {w0 : World} {q base : Nat} {wr u : World} {k wh c : Int} {A : Option Addr} {cc : Nat} {L : List Int} {Q : World → Prop} (h : RdAt w0 q base wr k wh c A cc L Q) (hb : Below wr.heap.size wr u) : RdAt w0 q base u k wh c A cc L Q :=
  ⟨h.box.below hb, own_below h.own hb, h.lt, h.le, Nat.le_trans h.top hb.size, h.keep.below hb, bt h.belo hb⟩
/-- one cell more -/
theorem RdAt.push {w0 : World} {q base : Nat} {u u3 : World} {k wh c : Int} {A : Option Addr} {cc : Nat} {L : List Int} {Q : World → Prop} (h : RdAt w0 q base u k wh c A cc L Q) (n : Int) (A' : Option Addr) (cc' : Nat)
    (hown : u3.ownsRow base 3 1 (.slice A' (L.length + 1) cc') (L.length + 1) (L.flatMap zCell ++ zCell n)) (hg : u.grownBy u3 (Value.slice A L.length cc).ownBlock) :
    RdAt w0 q base (u3.setCell ⟨q, 8, none⟩ (.slice A' (L.length + 1) cc')) k wh c A' cc' (L ++ [n]) Q := by
  have hq : q < u.heap.size := h.box.at_.lt
  have hlt := h.lt
  have hne : (Value.slice A L.length cc).ownBlock ≠ some q := fun e => by have := (h.own.lt q e).1; omega
  have hblk := hg.block q hq (fun e => hne e.symm)
  have e := fun j x (hc : u.cell? ⟨q, j, none⟩ = some x) => (World.cell?_of_block (a := ⟨q, j, none⟩) hblk).trans hc
  have hat := h.box.at_
  have h3 : VdAt u3 q ⟨3, 0, 0, 0, 0, ⟨k, wh, c, L⟩, []⟩ (.slice A L.length cc) (.slice none 0 0) := ⟨e _ _ hat.c0, e _ _ hat.c1, e _ _ hat.c2, e _ _ hat.c3, e _ _ hat.c4, e _ _ hat.c5, e _ _ hat.c6, e _ _ hat.c7, e _ _ hat.c8, e _ _ hat.c9⟩
  have hl : (L ++ [n]).length = L.length + 1 := by simp
  have hs : u3.heap.size = (u3.setCell ⟨q, 8, none⟩ (.slice A' (L.length + 1) cc')).heap.size := by simp [World.setCell]
  refine ⟨⟨?_, fun j => ?_⟩, ?_, h.lt, h.le, ?_, ?_, ?_⟩
  · rw [hl]; exact h3.set8 _ _
  · have hf := (World.frozen?_of_block (a := ⟨q, j, none⟩) hblk).trans (h.box.frz j)
    simpa using hf
  · rw [hl, List.flatMap_append]
    have hr := ownsRow_setCell_below hown (a := ⟨q, 8, none⟩) h.lt (.slice A' (L.length + 1) cc')
    simpa using hr
  · rw [← hs]; exact Nat.le_trans h.top hg.size
  · exact (h.keep.grown hg (fun i hi => .inr (h.own.lt i hi).1)).setCell _ (.inl rfl) _
  · exact below_set (h.belo.grown hg (Nat.le_trans h.le (Nat.le_of_lt hq)) (fun g hg => by have := (h.own.lt g hg).1; have := h.le; omega)) h.le _
end Go.Proofs.YtcgcndmlgfnjbaaGreatDoor

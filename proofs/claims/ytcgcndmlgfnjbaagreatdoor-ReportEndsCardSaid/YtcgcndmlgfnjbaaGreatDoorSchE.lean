/- A schedule's text: both sides' walks. -/
import Derived.Test.YtcgcndmlgfnjbaaGreatDoorSchB
import Derived.Test.YtcgcndmlgfnjbaaGreatDoorSchD
import Derived.Test.YtcgcndmlgfnjbaaGreatDoorBldA
namespace Go.Proofs.YtcgcndmlgfnjbaaGreatDoor
open Go Go.RowKit
set_option linter.unusedVariables false
theorem line_len (p : Pk) (hr : rightK p = true) : (lineK p).length ≤ 225 := by
  by_cases k1 : p.kind = 1
  · have h := right_one k1
    rw [hr] at h
    have ht : inE p.t 99 = true := by
      cases h1 : inE p.t 99
      · rw [h1] at h; simp at h
      · rfl
    obtain ⟨h0, h1⟩ := in_le ht
    have := itoa_len p.t h0 (by omega)
    have e : lineK p = wStep ++ 32 :: Lib.itoa p.t := by unfold lineK; rw [if_pos k1]; simp [joinB, tailB]
    rw [e, List.length_append, List.length_cons]
    show 4 + _ ≤ _
    omega
  · by_cases k2 : p.kind = 2
    · have h := right_two k2
      rw [hr] at h
      have ht : inE p.t 99 = true ∧ inE p.i 99 = true := by
        cases h1 : inE p.t 99
        · rw [h1] at h; simp at h
        · cases h2 : inE p.i 99
          · rw [h1, h2] at h; simp at h
          · exact ⟨rfl, rfl⟩
      obtain ⟨h0, h1⟩ := in_le ht.1
      obtain ⟨h2, h3⟩ := in_le ht.2
      have := itoa_len p.t h0 (by omega)
      have := itoa_len p.i h2 (by omega)
      have e : lineK p = wOut ++ 32 :: (Lib.itoa p.t ++ 32 :: Lib.itoa p.i) := by unfold lineK; rw [if_neg k1, if_pos k2]; simp [joinB, tailB]
      rw [e, List.length_append, List.length_cons, List.length_append, List.length_cons]
      show 3 + _ ≤ _
      omega
    · by_cases k3 : p.kind = 3
      · have h := right_three k3
        rw [hr] at h
        have h2 := h.symm
        simp only [Bool.and_eq_true, decide_eq_true_eq] at h2
        have e : lineK p = wCrash ++ tailB (p.cut.map Lib.itoa) := by unfold lineK; rw [if_neg k1, if_neg k2]; rfl
        have := tail_le p.cut h2.2
        rw [e, List.length_append]
        show 5 + _ ≤ _
        omega
      · rw [right_else k1 k2 k3] at hr; cases hr
theorem textK_take (l : List Pk) (j : Nat) (h : j < l.length) : textK (l.take (j + 1)) = textK (l.take j) ++ (lineK l[j] ++ [10]) := by
  unfold textK
  rw [List.take_succ_eq_append_getElem h, List.flatMap_append, List.flatMap_cons, List.flatMap_nil, List.append_nil]
theorem textK_len : ∀ (l : List Pk), l.all rightK = true → (textK l).length ≤ 226 * l.length
  | [], _ => by simp [textK]
  | p :: l, h => by
    rw [List.all_cons, Bool.and_eq_true] at h
    have h1 := textK_len l h.2
    have h2 := line_len p h.1
    have e : (textK (p :: l)).length = (lineK p).length + 1 + (textK l).length := by simp [textK]; omega
    rw [e, List.length_cons]; omega
theorem all_take {l : List Pk} (h : ∀ j (hj : j < l.length), rightK l[j] = true) (j : Nat) : (l.take j).all rightK = true := by
  rw [List.all_eq_true]
  intro x hx
  obtain ⟨i, hi, rfl⟩ := List.mem_iff_getElem.1 (List.mem_of_mem_take hx)
  exact h i hi
theorem all_at {l : List Pk} (h : l.all rightK = true) (j : Nat) (hj : j < l.length) : rightK l[j] = true := by
  rw [List.all_eq_true] at h
  exact h _ (List.getElem_mem hj)
theorem all_not {l : List Pk} {j : Nat} (hj : j < l.length) (h : rightK l[j] = false) : l.all rightK = false := by
  rw [Bool.eq_false_iff]
  intro h2
  rw [all_at h2 j hj] at h; cases h
set_option maxRecDepth 100000 in
set_option maxHeartbeats 4000000 in
theorem oddp_c (p : Pk) (v : Value) (w : World) (hl : p.cut.length ≤ 4611686018427387904) (hv : Zs w v p.cut) :
    Calls Tryz.prog 51 #[pkV p v] w fun e w' => e = .returned (.bool (!rightK p)) ∧ Below w.heap.size w w' := by
  have HC : Hid (∀ u, Zs u v p.cut → Calls Tryz.prog 25 #[pkV p v] u fun e w' => e = .returned (.bool (rightK p)) ∧ Below u.heap.size u w') := fun u hu => pRight_c p v u hl hu
  have HZ := Lib.hid (SlN.below hv (al w (.cells #[.int .i64 p.kind, .int .i64 p.t, .int .i64 p.i, v] 48)))
  generalize rightK p = b at HC
  unfold pkV at HC ⊢
  obtain ⟨A0, c0, rfl, hc0⟩ := hv.shape
  clear hv
  go_enter Tryz.func51, Tryz.ntmps51
  go_wp2_with (go_at_call 25; refine (HC.out _ HZ.out).mono ?_; rintro e w' ⟨rfl, hb⟩)
  go_ret
  exact ⟨rfl, bt (al _ _) hb⟩
set_option maxRecDepth 100000 in
set_option maxHeartbeats 4000000 in
theorem indexP_c (l : List Pk) (hl : l.length ≤ 100000000) (hn : ∀ x ∈ l, x.cut.length ≤ 4611686018427387904) (v : Value) (w : World) (hv : Pks w v l) :
    Calls Tryz.prog 46 #[v, .func (.func 51) #[] #[]] w fun e w' => Below w.heap.size w w' ∧ ∃ z : Int, e = .returned (.int .i64 z) ∧ (decide (0 ≤ z) = !l.all rightK) := by
  obtain ⟨A0, c0, rfl, hc0⟩ := hv.shape
  have HV := Lib.hid hv
  have HN := Lib.hid hn
  clear hv hn
  go_enter Tryz.func46, Tryz.ntmps46
  go_wp2_with fail
  go_loopw [8] (fun k wr => ∃ j : Nat, j ≤ l.length ∧ k = .int .i64 j ∧ Below w.heap.size w wr ∧ ∀ j' (h : j' < l.length), j' < j → rightK (l[j']) = true) (fun k _ => l.length - (intOf k).toNat)
  case atStart => exact ⟨0, Nat.zero_le _, rfl, Below.refl _ _, fun j' _ h => absurd h (by omega)⟩
  case round =>
    obtain ⟨j, hj, rfl, hb, hno⟩ := hrel
    have HNO := Lib.hid hno
    have HB := Lib.hid hb
    clear hno
    by_cases hjl : j < l.length
    · obtain ⟨b, off, c, hE0, hcc, hbt, hat⟩ := Pks.at_ (l := l) HV.out (by omega)
      cases hE0
      obtain ⟨A1, n1, x1, hz1⟩ := hat j hjl
      have hx0 := (hb.cell (p := ⟨_, _, none⟩) hbt).trans x1.kind
      have hx1 := (hb.cell (p := ⟨_, _, none⟩) hbt).trans x1.t
      have hx2 := (hb.cell (p := ⟨_, _, none⟩) hbt).trans x1.i
      have hx3 := (hb.cell (p := ⟨_, _, none⟩) hbt).trans x1.cut
      have HCJ := Lib.hid (oddp_c (l[j]) _ wr (HN.out _ (List.getElem_mem hjl)) (SlN.below hz1 hb))
      clear hb hat x1 hz1
      have hjl2 : (j : Int) < (l.length : Int) := by omega
      cases his : rightK (l[j])
      · have HR := Lib.hid (all_not hjl his)
        rw [his] at HCJ
        clear his
        generalize l[j] = x at hx0 hx1 hx2 hx3 HCJ
        unfold pkV at HCJ
        go_wp2_with (go_at_call 51; refine (HCJ.out).mono ?_; rintro e w2 ⟨rfl, hb2⟩)
        go_ret
        exact ⟨bt HB.out hb2, j, rfl, by rw [HR.out]; simp⟩
      · have HF : Hid (∀ j' (h : j' < l.length), j' < j + 1 → rightK (l[j']) = true) := fun j' h hlt => by
          by_cases hjj : j' < j
          · exact HNO.out j' h hjj
          · obtain rfl : j' = j := by omega
            exact his
        rw [his] at HCJ
        clear his
        generalize l[j] = x at hx0 hx1 hx2 hx3 HCJ
        unfold pkV at HCJ
        go_wp2_with (go_at_call 51; refine (HCJ.out).mono ?_; rintro e w2 ⟨rfl, hb2⟩)
        go_roundw
        case rel => exact ⟨j + 1, by omega, by go_num, bt HB.out hb2, HF.out⟩
        case measure => simp [intOf]; omega
    · have HY : Hid (l.all rightK = true) := by
        show _ = _
        rw [List.all_eq_true]
        intro x hx
        obtain ⟨j', hj', rfl⟩ := List.mem_iff_getElem.1 hx
        exact HNO.out j' hj' (by omega)
      go_wp2_with fail
      go_ret
      exact ⟨HB.out, -1, rfl, by rw [HY.out]; rfl⟩
theorem containsP_c (l : List Pk) (hl : l.length ≤ 100000000) (hn : ∀ x ∈ l, x.cut.length ≤ 4611686018427387904) (v : Value) (w : World) (hv : Pks w v l) :
    Calls Tryz.prog 27 #[v, .func (.func 51) #[] #[]] w fun e w' => e = .returned (.bool (!l.all rightK)) ∧ Below w.heap.size w w' := by
  obtain ⟨A0, c0, rfl, hc0⟩ := hv.shape
  have HC := Lib.hid (indexP_c l hl hn _ w hv)
  clear hv hn
  go_enter Tryz.func27, Tryz.ntmps27
  go_wp2_with (go_at_call 46; refine (HC.out).mono ?_; rintro e w1 ⟨hb1, z, rfl, hz⟩)
  go_ret
  first | exact ⟨ret_bool hz, hb1⟩ | exact ⟨rfl, hb1⟩
set_option maxRecDepth 100000 in
set_option maxHeartbeats 4000000 in
theorem pShow_c (l : List Pk) (hl : l.length ≤ 100000000) (hn : ∀ x ∈ l, x.cut.length ≤ 4611686018427387904) (v : Value) (w : World) (hv : Pks w v l) (hE : Env w) :
    Calls Tryz.prog 33 #[v] w fun e w' => e = .returned (.string (str (showK l))) ∧ Below w.heap.size w w' := by
  obtain ⟨A0, c0, rfl, hc0⟩ := hv.shape
  have hC := containsP_c l hl hn _ w hv
  have HV := Lib.hid hv
  have HE := Lib.hid hE
  clear hv hE hn
  cases ha : l.all rightK
  · rw [ha] at hC
    have HC := Lib.hid hC
    have HX : Hid (showK l = []) := by show _ = _; unfold showK; rw [ha]; rfl
    clear hC ha
    go_enter Tryz.func33, Tryz.ntmps33
    go_wp2_with (go_at_call 27; refine (HC.out).mono ?_; rintro e w1 ⟨rfl, hb1⟩)
    go_ret
    exact ⟨ret_str (by rw [HX.out]; rfl), hb1⟩
  · rw [ha] at hC
    have HC := Lib.hid hC
    have HX : Hid (showK l = textK l) := by show _ = _; unfold showK; rw [ha]; rfl
    have HA := Lib.hid ha
    clear hC ha
    go_enter Tryz.func33, Tryz.ntmps33
    go_upto_region 4 with (go_at_call 27; refine (HC.out).mono ?_; rintro e w1 ⟨rfl, hb1⟩)
    have HN := Lib.hid (bld_new w1)
    have HB1 := Lib.hid hb1
    clear hb1
    go_upto_region 5 with fail
    go_loopw [10] (fun k wr => Below w1.heap.size w1 wr ∧ ∃ j : Nat, j ≤ l.length ∧ k = .int .i64 j ∧ Bld w1.heap.size w1.heap.size (textK (l.take j)) wr) (fun k _ => l.length - (intOf k).toNat)
    case atStart => exact ⟨al _ _, 0, Nat.zero_le _, rfl, HN.out⟩
    case round =>
      obtain ⟨hb, j, hj, rfl, hbl⟩ := hrel
      have HB := Lib.hid hb
      have HBL := Lib.hid hbl
      have HSZ : Hid (w1.heap.size ≤ wr.heap.size) := hb.size
      have HLT : Hid (w1.heap.size < wr.heap.size) := hbl.lt
      have hj0 : (0 : Int) ≤ (j : Int) := Int.natCast_nonneg _
      by_cases hjl : j < l.length
      · have hjl2 : (j : Int) < (l.length : Int) := by omega
        obtain ⟨b, off, c, hE0, hcc, hbt, hat⟩ := Pks.at_ (l := l) HV.out (by omega)
        cases hE0
        obtain ⟨A1, n1, x1, hz1⟩ := hat j hjl
        have hbw := bt HB1.out hb
        have hx0 := (hbw.cell (p := ⟨_, _, none⟩) hbt).trans x1.kind
        have hx1 := (hbw.cell (p := ⟨_, _, none⟩) hbt).trans x1.t
        have hx2 := (hbw.cell (p := ⟨_, _, none⟩) hbt).trans x1.i
        have hx3 := (hbw.cell (p := ⟨_, _, none⟩) hbt).trans x1.cut
        have hrj := all_at HA.out j hjl
        have HS := Lib.hid (textK_take l j hjl)
        have hl1 := textK_len (l.take j) (all_take (fun j hj => all_at HA.out j hj) j)
        rw [List.length_take] at hl1
        have hl2 := line_len _ hrj
        have HLN : Hid (Calls Tryz.prog 53 #[pkV l[j] (.slice A1 (l[j]).cut.length n1)] (wr.alloc (.cells #[.int .i64 l[j].kind, .int .i64 l[j].t, .int .i64 l[j].i, .slice A1 (l[j]).cut.length n1] 48)) fun e w' => e = .returned (.string (str (lineK l[j]))) ∧ Below (wr.alloc (.cells #[.int .i64 l[j].kind, .int .i64 l[j].t, .int .i64 l[j].i, .slice A1 (l[j]).cut.length n1] 48)).heap.size (wr.alloc (.cells #[.int .i64 l[j].kind, .int .i64 l[j].t, .int .i64 l[j].i, .slice A1 (l[j]).cut.length n1] 48)) w') :=
          pline_c _ hrj _ _ (SlN.below (SlN.below hz1 hbw) (al _ _)) ((HE.out.below hbw).below (al _ _))
        have hls : (str (lineK l[j])).size ≤ 225 := by rw [str_size]; exact hl2
        have HLS : Hid (str (lineK l[j]) ++ ⟨#[10]⟩ = str (lineK l[j] ++ [10])) := str_snoc _ [10]
        clear hat x1 hb hbl hbw hrj hz1
        generalize hx : l[j] = x at hx0 hx1 hx2 hx3 HS hl2 HLN hls HLS
        generalize textK (l.take j) = so at HS hl1 HBL
        unfold pkV at HLN
        have HW : Hid (∀ u, Bld w1.heap.size w1.heap.size so u → w1.heap.size ≤ u.heap.size → Calls Tryz.prog 52 #[.pointer (some ⟨w1.heap.size, 0, none⟩), .string (str (lineK x ++ [10]))] u fun e w' => e = .returned (.tuple #[.int .i64 (lineK x ++ [10]).length, .nilIface]) ∧ Bld w1.heap.size w1.heap.size (so ++ (lineK x ++ [10])) w' ∧ Below w1.heap.size u w' ∧ OK_ w1.heap.size u w') := fun u hu hs => wstr_c _ _ _ _ _ hu (by simp only [List.length_append, List.length_cons, List.length_nil]; omega) hs
        generalize hln : str (lineK x) = ln at HLN HLS hls
        generalize str (lineK x ++ [10]) = lns at HW HLS
        have hLS := HLS.out
        clear hx hl1 hl2 hln
        go_wp2_with (first
          | (go_at_call 53; refine (HLN.out).mono ?_; rintro e w2 ⟨rfl, hb2⟩; have HB2 := Lib.hid hb2; clear hb2)
          | (go_at_call 52; refine (HW.out _ (Bld.belowN (HBL.out.alloc _) HB2.out) (Nat.le_trans HSZ.out (Nat.le_trans (al wr _).size HB2.out.size))).mono ?_; rintro e w3 ⟨rfl, hb3, hl3, hk3⟩))
        go_roundw
        case rel => exact ⟨((HB.out.alloc HSZ.out _).trans (HB2.out.mono (Nat.le_trans HSZ.out (al wr _).size))).trans hl3, j + 1, by omega, by go_num, by rw [HS.out]; exact hb3⟩
        case measure => simp [intOf]; omega
      · obtain rfl : j = l.length := by omega
        have HF : Hid (str (textK (l.take l.length)) = str (showK l)) := by show _ = _; rw [List.take_length, HX.out]
        have HST := Lib.hid (bstr_c _ _ _ _ hbl hb.size)
        clear hb hbl HBL
        go_wp2_with (go_at_call 54; refine (HST.out).mono ?_; rintro e w3 ⟨rfl, hb3⟩)
        go_ret
        exact ⟨by first | exact ret_str HF.out | (rw [HX.out]; rfl), bt HB1.out (HB.out.trans hb3)⟩
end Go.Proofs.YtcgcndmlgfnjbaaGreatDoor

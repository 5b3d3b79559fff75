/- May a node be: the program's walk. -/
import Derived.Test.YtahdfglelhdcnaaDoorLwA
import Derived.Test.YtahdfglelhdcnaaDoorShwPlain
import Derived.Lib.LaidTab
import Derived.Lib.AtoiErrMem
namespace Go.Proofs.YtahdfglelhdcnaaDoor
open Go Go.RowKit
set_option linter.unusedVariables false
def nodV (x : Nod) : Value := .agg #[.int .i64 x.op, .int .i64 x.n, .string (str x.name), .int .i64 x.pos]
set_option maxRecDepth 100000 in
set_option maxHeartbeats 4000000 in
theorem may_c (x : Nod) (hx : x.name.length ≤ 1000000) (w : World) (hE : Env w) :
    Calls Tryd.prog 36 #[nodV x] w fun e w' => e = .returned (.bool (mayE x)) ∧ Below w.heap.size w w' := by
  have hnm : (x.name == []) = ((str x.name).toList == []) := by rw [str_toList]
  have HN : Hid (∀ u, Below w.heap.size w u → Calls Tryd.prog 61 #[.string (str x.name)] u (NamePost x.name u)) := fun u hu => name_c x.name hx u (hE.below hu)
  unfold NamePost at HN
  clear hE
  by_cases h1 : x.pos < 0
  · have hR : mayE x = false := by unfold mayE; rw [if_pos (by simp [h1])]
    have HR := Lib.hid hR
    have hd : decide (x.pos < 0) = true := by simp [h1]
    clear hR hnm
    unfold nodV
    go_enter Tryd.func36, Tryd.ntmps36
    go_wp2_with fail
    go_ret
    exact ⟨ret_bool HR.out.symm, al _ _⟩
  · have hd : decide (x.pos < 0) = false := by simp [h1]
    by_cases h2 : 4000 < x.pos
    · have hd2 : decide ((4000 : Int) < x.pos) = true := by simp [h2]
      have hR : mayE x = false := by unfold mayE; rw [if_pos (by simp [h2])]
      have HR := Lib.hid (show mayE x = false from hR)
      clear hR hnm
      unfold nodV
      go_enter Tryd.func36, Tryd.ntmps36
      go_wp2_with fail
      go_ret
      exact ⟨ret_bool HR.out.symm, al _ _⟩
    · have hd2 : decide ((4000 : Int) < x.pos) = false := by simp [h2]
      by_cases o1 : x.op = 1
      · have ho1 : (x.op == 1) = true := by simp [o1]
        have hM : mayE x = (decide (0 ≤ x.n) && decide (x.n ≤ 4294967296) && (x.name == [])) := by unfold mayE; rw [if_neg (by simp [h1, h2]), if_pos o1]
        rw [hnm] at hM
        cases n1 : decide (0 ≤ x.n)
        · have hR : mayE x = false := by rw [hM, n1]; rfl
          have HR := Lib.hid (show mayE x = false from hR)
          clear hR hnm hM
          unfold nodV
          go_enter Tryd.func36, Tryd.ntmps36
          go_wp2_with fail
          go_ret
          exact ⟨ret_bool HR.out.symm, al _ _⟩
        · cases n2 : decide (x.n ≤ 4294967296)
          · have hR : mayE x = false := by rw [hM, n1, n2]; rfl
            have HR := Lib.hid (show mayE x = false from hR)
            clear hR hnm hM
            unfold nodV
            go_enter Tryd.func36, Tryd.ntmps36
            go_wp2_with fail
            go_ret
            exact ⟨ret_bool HR.out.symm, al _ _⟩
          · have hR : mayE x = ((str x.name).toList == []) := by rw [hM, n1, n2]; rfl
            cases n3 : ((str x.name).toList == [])
            all_goals
              have hR2 := hR
              rw [n3] at hR2
              have HR := Lib.hid hR2
              clear hR hR2 hnm hM
              unfold nodV
              go_enter Tryd.func36, Tryd.ntmps36
              go_wp2_with fail
              go_ret
              exact ⟨ret_bool HR.out.symm, al _ _⟩
      · have ho1 : (x.op == 1) = false := by simp [o1]
        by_cases o2 : x.op = 2
        · have ho2 : (x.op == 2) = true := by simp [o2]
          have hM : mayE x = ((x.n == 0) && nameE x.name) := by unfold mayE; rw [if_neg (by simp [h1, h2]), if_neg o1, if_pos o2]
          cases n1 : (x.n == 0)
          · have hR : mayE x = false := by rw [hM, n1]; rfl
            have HR := Lib.hid (show mayE x = false from hR)
            clear hR hnm hM
            unfold nodV
            go_enter Tryd.func36, Tryd.ntmps36
            go_wp2_with fail
            go_ret
            exact ⟨ret_bool HR.out.symm, al _ _⟩
          · have hR : mayE x = nameE x.name := by rw [hM, n1]; rfl
            have HR := Lib.hid (show mayE x = nameE x.name from hR)
            clear hR hnm hM
            unfold nodV
            go_enter Tryd.func36, Tryd.ntmps36
            go_wp2_with (go_at_call 61; refine (HN.out _ (al _ _)).mono ?_; rintro e w1 ⟨rfl, hb1⟩)
            go_ret
            exact ⟨ret_bool HR.out.symm, bt (al _ _) hb1⟩
        · have ho2 : (x.op == 2) = false := by simp [o2]
          have hM : mayE x = ((x.n == 0) && (x.name == [])) := by unfold mayE; rw [if_neg (by simp [h1, h2]), if_neg o1, if_neg o2]
          rw [hnm] at hM
          cases n1 : (x.n == 0)
          · have hR : mayE x = false := by rw [hM, n1]; rfl
            have HR := Lib.hid (show mayE x = false from hR)
            clear hR hnm hM
            unfold nodV
            go_enter Tryd.func36, Tryd.ntmps36
            go_wp2_with fail
            go_ret
            exact ⟨ret_bool HR.out.symm, al _ _⟩
          · have hR : mayE x = ((str x.name).toList == []) := by rw [hM, n1]; rfl
            cases n3 : ((str x.name).toList == [])
            all_goals
              have hR2 := hR
              rw [n3] at hR2
              have HR := Lib.hid hR2
              clear hR hR2 hnm hM
              unfold nodV
              go_enter Tryd.func36, Tryd.ntmps36
              go_wp2_with fail
              go_ret
              exact ⟨ret_bool HR.out.symm, al _ _⟩
end Go.Proofs.YtahdfglelhdcnaaDoor
/- May nodes be an expression: the program's walk. -/
namespace Go.Proofs.YtahdfglelhdcnaaDoor
open Go Go.RowKit
set_option linter.unusedVariables false
set_option maxRecDepth 100000 in
set_option maxHeartbeats 4000000 in
theorem odd_c (x : Nod) (hx : x.name.length ≤ 1000000) (w : World) (hE : Env w) :
    Calls Tryd.prog 35 #[nodV x] w fun e w' => e = .returned (.bool (!mayE x)) ∧ Below w.heap.size w w' := by
  have HM : Hid (∀ u, Below w.heap.size w u → Calls Tryd.prog 36 #[nodV x] u fun e w' => e = .returned (.bool (mayE x)) ∧ Below u.heap.size u w') := fun u hu => may_c x hx u (hE.below hu)
  generalize mayE x = m at HM
  clear hE
  unfold nodV at HM ⊢
  go_enter Tryd.func35, Tryd.ntmps35
  go_wp2_with (go_at_call 36; refine (HM.out _ (al _ _)).mono ?_; rintro e w1 ⟨rfl, hb1⟩)
  go_ret
  exact ⟨rfl, bt (al _ _) hb1⟩
set_option maxRecDepth 100000 in
set_option maxHeartbeats 4000000 in
theorem indexN_c (l : List Nod) (hl : l.length ≤ 100000) (hn : ∀ x ∈ l, x.name.length ≤ 1000000) (v : Value) (w : World) (hv : Nods w v l) (hE : Env w) :
    Calls Tryd.prog 62 #[v, .func (.func 35) #[] #[]] w fun e w' => Below w.heap.size w w' ∧ ∃ z : Int, e = .returned (.int .i64 z) ∧ (decide (0 ≤ z) = !l.all mayE) := by
  obtain ⟨A0, c0, rfl, hc0⟩ := hv.shape
  have HC : Hid (∀ x ∈ l, ∀ u, Below w.heap.size w u → Calls Tryd.prog 35 #[nodV x] u fun e w' => e = .returned (.bool (!mayE x)) ∧ Below u.heap.size u w') := fun x hx u hb => odd_c x (hn x hx) u (hE.below hb)
  have HV := Lib.hid hv
  clear hE hv hn
  go_enter Tryd.func62, Tryd.ntmps62
  go_wp2_with fail
  go_loopw [8] (fun k wr => ∃ j : Nat, j ≤ l.length ∧ k = .int .i64 j ∧ Below w.heap.size w wr ∧ ∀ j' (h : j' < l.length), j' < j → mayE (l[j']) = true) (fun k _ => l.length - (intOf k).toNat)
  case atStart => exact ⟨0, Nat.zero_le _, rfl, Below.refl _ _, fun j' _ h => absurd h (by omega)⟩
  case round =>
    obtain ⟨j, hj, rfl, hb, hno⟩ := hrel
    have HNO := Lib.hid hno
    have HB := Lib.hid hb
    clear hno
    by_cases hjl : j < l.length
    · obtain ⟨b, off, c, hE0, hcc, hbt, hat⟩ := HV.out.at_ (by omega)
      cases hE0
      have x1 := hat j hjl
      have hx0 := (hb.cell (p := ⟨_, _, none⟩) hbt).trans x1.op
      have hx1 := (hb.cell (p := ⟨_, _, none⟩) hbt).trans x1.n
      have hx2 := (hb.cell (p := ⟨_, _, none⟩) hbt).trans x1.name
      have hx3 := (hb.cell (p := ⟨_, _, none⟩) hbt).trans x1.pos
      have HCJ := Lib.hid (HC.out (l[j]) (List.getElem_mem hjl) wr hb)
      clear hb hat x1
      have hjl2 : (j : Int) < (l.length : Int) := by omega
      cases his : mayE (l[j])
      · have HR : Hid (l.all mayE = false) := by
          show _ = _
          rw [Bool.eq_false_iff]
          intro h
          rw [List.all_eq_true] at h
          rw [h _ (List.getElem_mem hjl)] at his; cases his
        rw [his] at HCJ
        clear his
        generalize l[j] = x at hx0 hx1 hx2 hx3 HCJ
        unfold nodV at HCJ
        go_wp2_with (go_at_call 35; refine (HCJ.out).mono ?_; rintro e w2 ⟨rfl, hb2⟩)
        go_ret
        exact ⟨bt HB.out hb2, j, rfl, by rw [HR.out]; simp⟩
      · have HF : Hid (∀ j' (h : j' < l.length), j' < j + 1 → mayE (l[j']) = true) := fun j' h hlt => by
          by_cases hjj : j' < j
          · exact HNO.out j' h hjj
          · obtain rfl : j' = j := by omega
            exact his
        rw [his] at HCJ
        clear his
        generalize l[j] = x at hx0 hx1 hx2 hx3 HCJ
        unfold nodV at HCJ
        go_wp2_with (go_at_call 35; refine (HCJ.out).mono ?_; rintro e w2 ⟨rfl, hb2⟩)
        go_roundw
        case rel => exact ⟨j + 1, by omega, by go_num, bt HB.out hb2, HF.out⟩
        case measure => simp [intOf]; omega
    · have hje : j = l.length := by omega
      have HY : Hid (l.all mayE = true) := by
        show _ = _
        rw [List.all_eq_true]
        intro x hx
        obtain ⟨j', hj', rfl⟩ := List.mem_iff_getElem.1 hx
        exact HNO.out j' hj' (by omega)
      go_wp2_with fail
      go_ret
      exact ⟨HB.out, -1, rfl, by rw [HY.out]; rfl⟩
theorem containsN_c (l : List Nod) (hl : l.length ≤ 100000) (hn : ∀ x ∈ l, x.name.length ≤ 1000000) (v : Value) (w : World) (hv : Nods w v l) (hE : Env w) :
    Calls Tryd.prog 37 #[v, .func (.func 35) #[] #[]] w fun e w' => e = .returned (.bool (!l.all mayE)) ∧ Below w.heap.size w w' := by
  obtain ⟨A0, c0, rfl, hc0⟩ := hv.shape
  have HC := Lib.hid (indexN_c l hl hn _ w hv hE)
  clear hE hv hn
  go_enter Tryd.func37, Tryd.ntmps37
  go_wp2_with (go_at_call 62; refine (HC.out).mono ?_; rintro e w1 ⟨hb1, z, rfl, hz⟩)
  go_ret
  first | exact ⟨ret_bool hz, hb1⟩ | exact ⟨rfl, hb1⟩
set_option maxRecDepth 100000 in
set_option maxHeartbeats 4000000 in
theorem Right_c (l : List Nod) (hl : l.length ≤ 100000) (hn : ∀ x ∈ l, x.name.length ≤ 1000000) (v : Value) (w : World) (hv : Nods w v l) (hE : Env w) :
    Calls Tryd.prog 17 #[v] w fun e w' => e = .returned (.bool (rightE l)) ∧ Below w.heap.size w w' := by
  obtain ⟨A0, c0, rfl, hc0⟩ := hv.shape
  by_cases h0 : l.length = 0
  · have HR : Hid (rightE l = false) := rightE_end (by rw [endE_out (.inr (by omega))]; omega)
    have hz : ((l.length : Int) == 0) = true := by simp [h0]
    clear hE hv hn
    go_enter Tryd.func17, Tryd.ntmps17
    go_wp2_with fail
    go_ret
    exact ⟨ret_bool HR.out.symm, Below.refl _ _⟩
  · have hz : ((l.length : Int) == 0) = false := by rw [beq_eq_false_iff_ne]; omega
    by_cases h40 : 40 < l.length
    · have HR : Hid (rightE l = false) := rightE_big h40
      have h40' : decide ((40 : Int) < (l.length : Int)) = true := by simp; omega
      clear hE hv hn
      go_enter Tryd.func17, Tryd.ntmps17
      go_wp2_with fail
      go_ret
      exact ⟨ret_bool HR.out.symm, Below.refl _ _⟩
    · have h40' : decide ((40 : Int) < (l.length : Int)) = false := by simp; omega
      have HC := Lib.hid (containsN_c l hl hn _ w hv hE)
      have HEnd : Hid (∀ u, Below w.heap.size w u → Calls Tryd.prog 26 #[.slice A0 l.length c0, .int .i64 0] u fun e w' => e = .returned (.int .i64 (endE l 0)) ∧ u = w') := fun u hu => end_c l _ u (hv.below hu) hl 0
      have HDep : Hid (∀ e : Ex, e.ok → l = e.flat → ∀ u, Below w.heap.size w u → Calls Tryd.prog 34 #[.slice A0 l.length c0, .int .i64 0] u fun r w' => r = .returned (.int .i64 e.deep) ∧ Below u.heap.size u w') := fun e he hle u hu => by
        subst hle
        exact depth_c e he _ u (hv.below hu) hl
      have hne0 := h0
      clear hE hv hn h0
      cases hm : l.all mayE
      · have HR := Lib.hid (rightE_may hm)
        rw [hm] at HC
        clear hm
        go_enter Tryd.func17, Tryd.ntmps17
        go_wp2_with (go_at_call 37; refine (HC.out).mono ?_; rintro e w1 ⟨rfl, hb1⟩)
        go_ret
        exact ⟨ret_bool HR.out.symm, hb1⟩
      · by_cases he : endE l 0 = (l.length : Int)
        · obtain ⟨t, ht, hlt, htr⟩ := treeE_of_end he
          have HR : Hid (rightE l = decide (t.deep ≤ 12)) := by
            show _ = _
            unfold rightE; rw [htr]; simp only; rw [hm, decide_eq_true (show l.length ≤ 40 by omega)]; rfl
          have HD := Lib.hid (HDep.out t ht hlt)
          rw [hm] at HC
          rw [he] at HEnd
          have hbe : ((l.length : Int) != (l.length : Int)) = false := by simp
          have hdc : decide ((t.deep : Int) ≤ 12) = decide (t.deep ≤ 12) := by rw [decide_eq_decide]; omega
          clear hm he hlt htr ht HDep
          generalize t.deep = d at HR HD hdc
          go_enter Tryd.func17, Tryd.ntmps17
          go_wp2_with (first
            | (go_at_call 37; refine (HC.out).mono ?_; rintro e w1 ⟨rfl, hb1⟩)
            | (go_at_call 26; refine (HEnd.out _ hb1).mono ?_; rintro e w2 ⟨rfl, rfl⟩)
            | (go_at_call 34; refine (HD.out _ hb1).mono ?_; rintro e w2 ⟨rfl, hb2⟩))
          go_ret
          first | exact ⟨ret_bool (hdc.trans HR.out.symm), bt hb1 hb2⟩ | exact ⟨ret_bool HR.out.symm, bt hb1 hb2⟩
        · have HR := Lib.hid (rightE_end he)
          have hbe : (endE l 0 != (l.length : Int)) = true := by rw [bne_iff_ne]; exact he
          rw [hm] at HC
          clear hm he HDep
          generalize endE l 0 = z at HEnd hbe
          go_enter Tryd.func17, Tryd.ntmps17
          go_wp2_with (first
            | (go_at_call 37; refine (HC.out).mono ?_; rintro e w1 ⟨rfl, hb1⟩)
            | (go_at_call 26; refine (HEnd.out _ hb1).mono ?_; rintro e w2 ⟨rfl, rfl⟩))
          go_ret
          exact ⟨ret_bool HR.out.symm, hb1⟩
end Go.Proofs.YtahdfglelhdcnaaDoor
/- May nodes be an expression: the reference's walk. -/
namespace Go.Proofs.YtahdfglelhdcnaaDoor
open Go Go.RowKit
set_option linter.unusedVariables false
theorem mayE_eq (x : Nod) : mayE x = !(decide (x.pos < 0) || decide (4000 < x.pos) || (!(x.op == 1) && !(x.n == 0)) || (!(x.op == 2) && !((str x.name).toList == [])) || decide (x.n < 0) || decide (4294967296 < x.n) || ((x.op == 2) && !nameE x.name)) := by
  rw [str_toList]
  unfold mayE
  by_cases h : (decide (x.pos < 0) || decide (4000 < x.pos)) = true
  · rw [if_pos h, h]; rfl
  · rw [if_neg h, Bool.eq_false_iff.2 h]
    by_cases h1 : x.op = 1
    · rw [if_pos h1, h1]
      by_cases h2 : x.name = []
      · rw [h2, Bool.eq_iff_iff]; simp
      · rw [Bool.eq_iff_iff]; simp [h2]
    · have g1 : (x.op == 1) = false := by rw [beq_eq_false_iff_ne]; exact h1
      rw [if_neg h1, g1]
      by_cases h2 : x.op = 2
      · rw [if_pos h2, h2]
        by_cases h3 : x.n = 0
        · rw [h3]; simp
        · have g3 : (x.n == 0) = false := by rw [beq_eq_false_iff_ne]; exact h3
          rw [g3]; simp
      · have g2 : (x.op == 2) = false := by rw [beq_eq_false_iff_ne]; exact h2
        rw [if_neg h2, g2]
        by_cases h3 : x.n = 0
        · rw [h3]; simp
        · have g3 : (x.n == 0) = false := by rw [beq_eq_false_iff_ne]; exact h3
          rw [g3]; simp
set_option maxRecDepth 100000 in
set_option maxHeartbeats 16000000 in
theorem rRight_c (l : List Nod) (hl : l.length ≤ 100000) (hn : ∀ x ∈ l, x.name.length ≤ 1000000) (v : Value) (w : World) (hv : Nods w v l) :
    Calls Tryd.prog 18 #[v] w fun e w' => e = .returned (.bool (rightE l)) ∧ Below w.heap.size w w' := by
  obtain ⟨A0, c0, rfl, hc0⟩ := hv.shape
  by_cases h40 : 40 < l.length
  · have HR : Hid (rightE l = false) := rightE_big h40
    have h40' : decide ((40 : Int) < (l.length : Int)) = true := by simp; omega
    clear hv hn
    go_enter Tryd.func18, Tryd.ntmps18
    go_wp2_with fail
    go_ret
    exact ⟨ret_bool HR.out.symm, Below.refl _ _⟩
  · have h40' : decide ((40 : Int) < (l.length : Int)) = false := by simp; omega
    have HEnd : Hid (∀ u, Below w.heap.size w u → Calls Tryd.prog 27 #[.slice A0 l.length c0, .int .i64 0] u fun e w' => e = .returned (.int .i64 (endE l 0)) ∧ u = w') := fun u hu => rend_c l _ u (hv.below hu) hl 0
    have HDep : Hid (∀ e : Ex, e.ok → l = e.flat → ∀ u, Below w.heap.size w u → Calls Tryd.prog 32 #[.slice A0 l.length c0, .int .i64 0] u fun r w' => r = .returned (.int .i64 e.deep) ∧ u = w') := fun e he hle u hu => by
      subst hle
      exact rdeep_c e he _ u (hv.below hu) hl
    by_cases he : endE l 0 = (l.length : Int)
    · obtain ⟨t, ht, hlt, htr⟩ := treeE_of_end he
      have HRR : Hid (l.all mayE = true → rightE l = decide (t.deep ≤ 12)) := by
        show _ → _
        intro hm
        unfold rightE; rw [htr]; simp only; rw [hm, decide_eq_true (show l.length ≤ 40 by omega)]; rfl
      have HD := Lib.hid (HDep.out t ht hlt)
      rw [he] at HEnd
      have hbe : ((l.length : Int) != (l.length : Int)) = false := by simp
      have hdc : decide ((t.deep : Int) ≤ 12) = decide (t.deep ≤ 12) := by rw [decide_eq_decide]; omega
      have HV := Lib.hid hv
      have HN := Lib.hid hn
      clear he hlt htr ht HDep hv hn
      generalize t.deep = d at HRR HD hdc
      go_enter Tryd.func18, Tryd.ntmps18
      go_wp2_with (go_at_call 27; refine (HEnd.out _ (Below.refl _ _)).mono ?_; rintro e w2 ⟨rfl, rfl⟩)
      go_loopw [3] (fun k wr => ∃ j : Nat, j ≤ l.length ∧ k = .int .i64 j ∧ Below w.heap.size w wr ∧ ∀ j' (h : j' < l.length), j' < j → mayE (l[j']) = true) (fun k _ => l.length - (intOf k).toNat)
      case atStart => exact ⟨0, Nat.zero_le _, rfl, Below.refl _ _, fun j' _ h => absurd h (by omega)⟩
      case round =>
        obtain ⟨j, hj, rfl, hb, hno⟩ := hrel
        have HNO := Lib.hid hno
        have HB := Lib.hid hb
        clear hno
        by_cases hjl : j < l.length
        · obtain ⟨b, off, c, hE0, hcc, hbt, hat⟩ := HV.out.at_ (by omega)
          cases hE0
          have x1 := hat j hjl
          have hx0 := (hb.cell (p := ⟨_, _, none⟩) hbt).trans x1.op
          have hx1 := (hb.cell (p := ⟨_, _, none⟩) hbt).trans x1.n
          have hx2 := (hb.cell (p := ⟨_, _, none⟩) hbt).trans x1.name
          have hx3 := (hb.cell (p := ⟨_, _, none⟩) hbt).trans x1.pos
          have HNM : Hid (∀ u, Calls Tryd.prog 38 #[.string (str (l[j]).name)] u (NamePost (l[j]).name u)) := fun u => rname_c _ (HN.out _ (List.getElem_mem hjl)) u
          unfold NamePost at HNM
          have hjl2 : (j : Int) < (l.length : Int) := by omega
          have HBAD : Hid (mayE (l[j]) = false → rightE l = false) := fun h => rightE_may (by
            rw [Bool.eq_false_iff]
            intro g
            rw [List.all_eq_true] at g
            rw [g _ (List.getElem_mem hjl)] at h; cases h)
          have HF : Hid (mayE (l[j]) = true → ∀ j' (h : j' < l.length), j' < j + 1 → mayE (l[j']) = true) := fun his j' h hlt => by
            by_cases hjj : j' < j
            · exact HNO.out j' h hjj
            · obtain rfl : j' = j := by omega
              exact his
          clear hb hat x1
          generalize l[j] = x at hx0 hx1 hx2 hx3 HNM HBAD HF
          have HE := Lib.hid (mayE_eq x)
          cases p1 : (decide (x.pos < 0))
          · skip
            cases p2 : (decide (4000 < x.pos))
            · skip
              cases o1 : (x.op == 1)
              · skip
                have o12 : (x.op != 1) = true := by unfold bne; rw [o1]; rfl
                cases z1 : (x.n == 0)
                · skip
                  have z12 : (x.n != 0) = true := by unfold bne; rw [z1]; rfl
                  have HM : Hid (rightE l = false) := HBAD.out (by rw [HE.out]; simp [*])
                  go_wp2_with fail
                  go_ret
                  exact ⟨ret_bool HM.out.symm, bt HB.out (al _ _)⟩
                · skip
                  have z12 : (x.n != 0) = false := by unfold bne; rw [z1]; rfl
                  cases o2 : (x.op == 2)
                  · skip
                    have o22 : (x.op != 2) = true := by unfold bne; rw [o2]; rfl
                    have hz : x.n = 0 := by simpa using z1
                    have n1 : decide (x.n < 0) = false := by simp [hz]
                    have n2 : decide (4294967296 < x.n) = false := by simp [hz]
                    clear hz
                    cases e1 : ((str x.name).toList == [])
                    · skip
                      have e12 : ((str x.name).toList != []) = true := by unfold bne; rw [e1]; rfl
                      have HM : Hid (rightE l = false) := HBAD.out (by rw [HE.out]; simp [*])
                      go_wp2_with fail
                      go_ret
                      exact ⟨ret_bool HM.out.symm, bt HB.out (al _ _)⟩
                    · skip
                      have e12 : ((str x.name).toList != []) = false := by unfold bne; rw [e1]; rfl
                      have HM := Lib.hid (HF.out (by rw [HE.out]; simp [*]))
                      go_wp2_with fail
                      go_roundw
                      case rel => exact ⟨j + 1, by omega, by go_num, bt HB.out (al _ _), HM.out⟩
                      case measure => simp [intOf]; omega
                  · skip
                    have o22 : (x.op != 2) = false := by unfold bne; rw [o2]; rfl
                    have hz : x.n = 0 := by simpa using z1
                    have n1 : decide (x.n < 0) = false := by simp [hz]
                    have n2 : decide (4294967296 < x.n) = false := by simp [hz]
                    clear hz
                    cases nm : (nameE x.name)
                    · skip
                      rw [nm] at HNM
                      have HM : Hid (rightE l = false) := HBAD.out (by rw [HE.out]; simp [*])
                      go_wp2_with (go_at_call 38; refine (HNM.out _).mono ?_; rintro e w1 ⟨rfl, hb1⟩)
                      go_ret
                      exact ⟨ret_bool HM.out.symm, bt (bt HB.out (al _ _)) hb1⟩
                    · skip
                      rw [nm] at HNM
                      have HM := Lib.hid (HF.out (by rw [HE.out]; simp [*]))
                      go_wp2_with (go_at_call 38; refine (HNM.out _).mono ?_; rintro e w1 ⟨rfl, hb1⟩)
                      go_roundw
                      case rel => exact ⟨j + 1, by omega, by go_num, bt (bt HB.out (al _ _)) hb1, HM.out⟩
                      case measure => simp [intOf]; omega
              · skip
                have o12 : (x.op != 1) = false := by unfold bne; rw [o1]; rfl
                have ho : x.op = 1 := by simpa using o1
                have o2 : (x.op == 2) = false := by rw [ho]; rfl
                have o22 : (x.op != 2) = true := by rw [ho]; rfl
                clear ho
                cases e1 : ((str x.name).toList == [])
                · skip
                  have e12 : ((str x.name).toList != []) = true := by unfold bne; rw [e1]; rfl
                  have HM : Hid (rightE l = false) := HBAD.out (by rw [HE.out]; simp [*])
                  go_wp2_with fail
                  go_ret
                  exact ⟨ret_bool HM.out.symm, bt HB.out (al _ _)⟩
                · skip
                  have e12 : ((str x.name).toList != []) = false := by unfold bne; rw [e1]; rfl
                  cases n1 : (decide (x.n < 0))
                  · skip
                    cases n2 : (decide (4294967296 < x.n))
                    · skip
                      have HM := Lib.hid (HF.out (by rw [HE.out]; simp [*]))
                      go_wp2_with fail
                      go_roundw
                      case rel => exact ⟨j + 1, by omega, by go_num, bt HB.out (al _ _), HM.out⟩
                      case measure => simp [intOf]; omega
                    · skip
                      have HM : Hid (rightE l = false) := HBAD.out (by rw [HE.out]; simp [*])
                      go_wp2_with fail
                      go_ret
                      exact ⟨ret_bool HM.out.symm, bt HB.out (al _ _)⟩
                  · skip
                    have HM : Hid (rightE l = false) := HBAD.out (by rw [HE.out]; simp [*])
                    go_wp2_with fail
                    go_ret
                    exact ⟨ret_bool HM.out.symm, bt HB.out (al _ _)⟩
            · skip
              have HM : Hid (rightE l = false) := HBAD.out (by rw [HE.out]; simp [*])
              go_wp2_with fail
              go_ret
              exact ⟨ret_bool HM.out.symm, bt HB.out (al _ _)⟩
          · skip
            have HM : Hid (rightE l = false) := HBAD.out (by rw [HE.out]; simp [*])
            go_wp2_with fail
            go_ret
            exact ⟨ret_bool HM.out.symm, bt HB.out (al _ _)⟩
        · have hje : j = l.length := by omega
          have HY : Hid (l.all mayE = true) := by
            show _ = _
            rw [List.all_eq_true]
            intro x hx
            obtain ⟨j', hj', rfl⟩ := List.mem_iff_getElem.1 hx
            exact HNO.out j' hj' (by omega)
          have HR := Lib.hid (HRR.out HY.out)
          go_wp2_with (go_at_call 32; refine (HD.out _ HB.out).mono ?_; rintro e w2 ⟨rfl, rfl⟩)
          go_ret
          first | exact ⟨ret_bool (hdc.trans HR.out.symm), HB.out⟩ | exact ⟨ret_bool HR.out.symm, HB.out⟩
    · have HR := Lib.hid (rightE_end he)
      have hbe : (endE l 0 != (l.length : Int)) = true := by rw [bne_iff_ne]; exact he
      clear he HDep hv hn
      generalize endE l 0 = z at HEnd hbe
      go_enter Tryd.func18, Tryd.ntmps18
      go_wp2_with (go_at_call 27; refine (HEnd.out _ (Below.refl _ _)).mono ?_; rintro e w2 ⟨rfl, rfl⟩)
      go_ret
      exact ⟨ret_bool HR.out.symm, Below.refl _ _⟩
end Go.Proofs.YtahdfglelhdcnaaDoor
/- The texts of numbers: the walks. -/
namespace Go.Proofs.YtahdfglelhdcnaaDoor
open Go Go.RowKit
set_option linter.unusedVariables false
theorem belowGrow (w : World) (k : Nat) (os : Array Obj) : Below w.heap.size w (Sort.grow (w.drewN k) os) := by
  refine ⟨rfl, rfl, rfl, ?_, fun i hi => ?_⟩
  · simp [Sort.grow, World.drewN]
  · simp only [Sort.grow, World.drewN]
    exact Array.getElem?_append_left hi
theorem str_app (a b : List UInt8) : str (a ++ b) = str a ++ str b := (ByteArray.mk_append_mk a b).symm
theorem str_cons (a : UInt8) (b : List UInt8) : str (a :: b) = ⟨#[a]⟩ ++ str b := (ByteArray.mk_append_mk [a] b).symm
set_option maxHeartbeats 400000 in
theorem text_c (n : Int) (h0 : 0 ≤ n) (h1 : n ≤ 4294967296) (w : World) (hE : Env w) :
    Calls Tryd.prog 65 #[.int .i64 n] w fun e w' => e = .returned (.string (str (Lib.itoa n))) ∧ Below w.heap.size w w' := by
  have HE := Lib.hid hE
  have HN : Hid (-9223372036854775808 ≤ n ∧ n ≤ 9223372036854775807) := by show _ ∧ _; omega
  clear hE h0 h1
  go_enter Tryd.func65, Tryd.ntmps65
  go_wp2_with (go_at_call 79; refine (Tryd.strconv_Itoa n HN.out.1 HN.out.2 w HE.out.tab).mono ?_; rintro e w' ⟨rfl, k, os, rfl⟩)
  go_ret
  exact ⟨rfl, belowGrow _ _ _⟩
set_option maxHeartbeats 400000 in
theorem rtext_small (n : Int) (h0 : 0 ≤ n) (h1 : n < 10) (w : World) :
    Calls Tryd.prog 67 #[.int .i64 n] w fun e w' => e = .returned (.string (str (Lib.itoa n))) ∧ Below w.heap.size w w' := by
  have hd : decide (0 ≤ n) = true := by simpa using h0
  have hd1 : decide (n < 10) = true := by simpa using h1
  have hcv : ∀ u : World, (convert 89 9 (.slice (some ⟨w.heap.size, 0, none⟩) 1 1)).run Tryd.prog (w.alloc (.cells #[.int .u8 (48 + n)] 5)) = .ok (.string (str (Lib.itoa n))) (w.alloc (.cells #[.int .u8 (48 + n)] 5)) := by
    intro u
    have h := run_convert_bytes_back (P := Tryd.prog) (w.alloc (.cells #[.int .u8 (48 + n)] 5)) 89 9 5 ⟨w.heap.size, 0, none⟩ 1 (Lib.itoa n) Tryd.underlying89 Tryd.underlying5 Tryd.underlying9
    have hl : Lib.itoa n = [UInt8.ofNat (48 + n.toNat)] := by
      rw [Lib.itoa, if_neg (by omega), Lib.decDigits, dif_pos (by omega)]
    rw [hl] at h ⊢
    refine h ?_
    intro j hj
    obtain rfl : j = 0 := by simpa using hj
    have : (48 + n.toNat) % 256 = 48 + n.toNat := Nat.mod_eq_of_lt (by omega)
    simp [go_sem, this]
    omega
  have hcv := hcv w
  go_enter Tryd.func67, Tryd.ntmps67
  go_wp2_with fail
  go_ret
  exact ⟨rfl, (Below.refl _ _).alloc (Nat.le_refl _) _⟩
theorem itoa_step (n : Int) (h : 10 ≤ n) : Lib.itoa n = Lib.itoa (n / 10) ++ Lib.itoa (n % 10) := by
  unfold Lib.itoa
  rw [if_neg (by omega), if_neg (by omega), if_neg (by omega), Lib.decDigits, dif_neg (by omega), Lib.decDigits.eq_def ((n % 10).toNat), dif_pos (by omega)]
  congr 2
  · congr 1; omega
  · congr 2; omega
theorem str_itoa_le (n : Int) (h0 : 0 ≤ n) (h1 : n ≤ 4294967296) : (str (Lib.itoa n)).size ≤ 20 := by
  rw [str_size]
  obtain ⟨c, r, hc, hd, hl⟩ := num_head h0 h1
  omega
set_option maxHeartbeats 400000 in
theorem rtext_k (k : Nat) : ∀ (n : Int) (w : World), n.natAbs ≤ k → 0 ≤ n → n ≤ 4294967296 →
    Calls Tryd.prog 67 #[.int .i64 n] w fun e w' => e = .returned (.string (str (Lib.itoa n))) ∧ Below w.heap.size w w' := by
  induction k with
  | zero => intro n w hk h0 hn; exact rtext_small n (by omega) (by omega) w
  | succ k ih =>
    intro n w hk h0 hn
    by_cases h1 : n < 10
    · exact rtext_small n h0 h1 w
    · have hd : decide (0 ≤ n) = true := by simpa using h0
      have hd1 : decide (n < 10) = false := by simpa using h1
      have hit := Lib.hid (itoa_step n (by omega))
      have z1 := str_itoa_le (n / 10) (by omega) (by omega)
      have z2 := str_itoa_le (n % 10) (by omega) (by omega)
      have ih1 := Lib.hid (ih (n / 10) w (by omega) (by omega) (by omega))
      have ih2 := Lib.hid (fun w' => ih (n % 10) w' (by omega) (by omega) (by omega))
      clear ih
      go_enter Tryd.func67, Tryd.ntmps67
      go_wp2_with fail
      refine ih1.out.mono ?_
      rintro e w1 ⟨rfl, hb1⟩
      go_wp2_with fail
      refine (ih2.out _).mono ?_
      rintro e w2 ⟨rfl, hb2⟩
      go_wp2_with fail
      go_ret
      exact ⟨ret_str (by rw [hit.out, str_app]), hb1.trans (hb2.mono hb1.size)⟩
theorem rtext_c (n : Int) (h0 : 0 ≤ n) (hn : n ≤ 4294967296) (w : World) :
    Calls Tryd.prog 67 #[.int .i64 n] w fun e w' => e = .returned (.string (str (Lib.itoa n))) ∧ Below w.heap.size w w' :=
  rtext_k n.natAbs n w (Nat.le_refl _) h0 hn
end Go.Proofs.YtahdfglelhdcnaaDoor

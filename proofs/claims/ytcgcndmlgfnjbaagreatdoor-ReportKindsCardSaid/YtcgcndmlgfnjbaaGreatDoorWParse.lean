/- The program's reading of a number: the walk. -/
import Derived.Test.YtcgcndmlgfnjbaaGreatDoorNumPlain
import Derived.Test.YtcgcndmlgfnjbaaGreatDoorMem
import Derived.Test.YtcgcndmlgfnjbaaGreatDoorEnv0
import Derived.WalkKit
import Derived.WalkSpells
import Derived.WalkLawsBesides
import Derived.Lib.Hide
import Derived.Laws.RangeAny
import Derived.Lib.LaidTab
import Derived.Lib.AtoiErrMem
namespace Go.Proofs.YtcgcndmlgfnjbaaGreatDoor
open Go Go.RowKit
set_option linter.unusedVariables false
def NumBPost (s : ByteArray) (w : World) (e : Ending) (w' : World) : Prop := e = .returned (.tuple #[.int .i64 (numE s.data.toList).1, .int .i64 (numE s.data.toList).2]) ∧ Below w.heap.size w w'
theorem numB_ret {s : ByteArray} {w w' : World} {a b : Int} (h : numE s.data.toList = (a, b)) (hb : Below w.heap.size w w') : NumBPost s w (.returned (.tuple #[.int .i64 a, .int .i64 b])) w' := by
  unfold NumBPost; rw [h]; exact ⟨rfl, hb⟩
theorem num_ok {l : List UInt8} (h : formN l = true) (h2 : I64 (signed l)) : numE l = (signed l, 0) := by
  unfold numE; rw [if_pos h, if_pos h2]
theorem num_big {l : List UInt8} (h : formN l = true) (h2 : ¬ I64 (signed l)) : numE l = (0, 4) := by
  unfold numE; rw [if_pos h, if_neg h2]
theorem num_form {l : List UInt8} (h : formN l = false) : numE l = (0, 8) := by
  unfold numE; rw [h]; rfl
theorem form_false_of {l : List UInt8} (j : Nat) (h : j < (digitsOf l).length) (hc : isDig (digitsOf l)[j] = false) : formN l = false := by
  unfold formN
  have : (digitsOf l).all isDig = false := by
    rw [List.all_eq_false]
    exact ⟨_, List.getElem_mem h, by simp [hc]⟩
  rw [this]; rfl
theorem below_iter (w : World) (s : ByteArray) (p : Nat) : Below w.heap.size w (w.iter s p) := (Below.refl _ _).alloc (Nat.le_refl _) _
def dg (s : ByteArray) : ByteArray := ⟨(digitsOf s.data.toList).toArray⟩
set_option maxRecDepth 100000 in
set_option maxHeartbeats 1000000 in
theorem parse_c (s : ByteArray) (w : World) (hs : s.size ≤ 281474976710656) (hE : Env w) :
    Calls Tryz.prog 78 #[.string s] w (NumBPost s w) := by
  have HE := Lib.hid hE
  clear hE
  go_enter Tryz.func78, Tryz.ntmps78
  go_wp2_with fail
  refine (Tryz.strings_TrimPrefix s ⟨#[45]⟩ w).mono ?_
  rintro e w1 ⟨rfl, rfl⟩
  have hd : ByteArray.mk (Lib.trimPrefix s.data.toList [45]).toArray = dg s := rfl
  have HD : Hid ((dg s).data.toList = digitsOf s.data.toList) := by simp [dg, Hid]
  show _ 
  rw [show (⟨#[45]⟩ : ByteArray).data.toList = [45] from rfl, hd]
  clear hd
  go_wp2_with fail
  go_loopw [6] (fun c w' => ∃ pos : Nat, w' = w1.iter (dg s) pos ∧ pos ≤ (dg s).size ∧ ∀ j (h : j < pos) (h' : j < (dg s).size), isDig (dg s)[j] = true) (fun _ w' => (dg s).size - w'.iterPos w1.heap.size)
  case atStart => exact ⟨0, rfl, Nat.zero_le _, fun j h => absurd h (by omega)⟩
  case round =>
    obtain ⟨pos, rfl, hp, hall⟩ := hrel
    have HA := Lib.hid hall
    clear hall
    by_cases hlt : pos < (dg s).size
    · by_cases hdig : 48 ≤ ((dg s)[pos]'hlt).toNat ∧ ((dg s)[pos]'hlt).toNat ≤ 57
      · have hc1 : ¬ (((dg s)[pos]'hlt).toNat : Int) < 48 := by omega
        have hc2 : ¬ 57 < (((dg s)[pos]'hlt).toNat : Int) := by omega
        have hnx : ∀ ty, (Instr.next (.pointer (some ⟨w1.heap.size, 0, none⟩)) true ty).run Tryz.prog (w1.iter (dg s) pos) = _ := fun ty => run_next_ascii w1 (dg s) pos ty hlt (by omega)
        have HDIG := Lib.hid hdig
        clear hdig
        go_wp2
        go_roundw
        case rel =>
          refine ⟨pos + 1, rfl, by omega, fun j hj h' => ?_⟩
          by_cases hjp : j < pos
          · exact HA.out j hjp h'
          · obtain rfl : j = pos := by omega
            exact (isDig_iff _).2 HDIG.out
        case measure => simp; omega
      · have hr : ((Utf8.decode (dg s) pos).1 : Int) < 48 ∨ 57 < ((Utf8.decode (dg s) pos).1 : Int) := by
          by_cases ha : ((dg s)[pos]'hlt).toNat < 128
          · rw [decode_ascii _ _ hlt ha]; simp only; omega
          · have := (decode_high (dg s) pos hlt (by omega)).1; omega
        have HN := Lib.hid (num_form (form_false_of (l := s.data.toList) pos (by have := congrArg List.length HD.out; simp at this; omega) ((isDig_false _).2 (by
          have e : (digitsOf s.data.toList)[pos]'(by have := congrArg List.length HD.out; simp at this; omega) = (dg s)[pos]'hlt := by
            simp only [← HD.out]; rfl
          rw [e]; omega))))
        clear hdig
        have hnx : ∀ ty, (Instr.next (.pointer (some ⟨w1.heap.size, 0, none⟩)) true ty).run Tryz.prog (w1.iter (dg s) pos) = _ := fun ty => run_next_any w1 (dg s) pos ty hlt
        rcases hr with hr | hr
        · have hr1 : decide (((Utf8.decode (dg s) pos).1 : Int) < 48) = true := by simpa using hr
          go_wp2
          go_ret2
          exact numB_ret HN.out (below_iter _ _ _)
        · have hr0 : ¬ ((Utf8.decode (dg s) pos).1 : Int) < 48 := by omega
          go_wp2
          go_ret2
          exact numB_ret HN.out (below_iter _ _ _)
    · have hpe : pos = (dg s).size := by omega
      subst hpe
      have hnx : ∀ ty, (Instr.next (.pointer (some ⟨w1.heap.size, 0, none⟩)) true ty).run Tryz.prog (w1.iter (dg s) (dg s).size) = _ := fun ty => run_next_end w1 (dg s) (dg s).size ty hlt
      have hfd : (digitsOf s.data.toList).all isDig = true := by
        rw [← HD.out, List.all_eq_true]
        intro c hc
        obtain ⟨j, hj, rfl⟩ := List.mem_iff_getElem.1 hc
        exact HA.out j (by simpa using hj) (by simpa using hj)
      have hsz : (dg s).size = (digitsOf s.data.toList).length := by rw [← HD.out]; simp
      have htl : (dg s).toList = digitsOf s.data.toList := (ByteArray.toList_eq _).trans HD.out
      by_cases hz : (dg s).size = 0
      · have hD : digitsOf s.data.toList = [] := List.eq_nil_of_length_eq_zero (by omega)
        have HN := Lib.hid (num_form (l := s.data.toList) (by unfold formN; rw [hD]; rfl))
        rw [hD] at htl
        have hte : (dg s).toList.isEmpty = true := by rw [htl]; rfl
        clear hfd hsz hD hz
        go_wp2_with fail
        go_ret2
        exact numB_ret HN.out (below_iter _ _ _)
      · have hpos : 0 < (dg s).size := by omega
        have hne : ¬ (dg s).toList = [] := by rw [htl]; intro e; rw [e] at hsz; simp only [List.length_nil] at hsz; omega
        have hte : (dg s).toList.isEmpty = false := by rw [List.isEmpty_eq_false_iff]; exact hne
        have hhd : (digitsOf s.data.toList).head? = some ((dg s)[0]'hpos) := by
          rw [List.head?_eq_getElem?, ← HD.out, List.getElem?_eq_getElem (by simpa using hpos)]; rfl
        have hb255 : (((dg s)[0]'hpos).toNat : Int) < 256 := by have := ((dg s)[0]'hpos).toNat_lt; omega
        by_cases hlead : (((dg s)[0]'hpos).toNat : Int) = 48 ∧ (s.toList == [48]) = false
        · have h48 : (dg s)[0]'hpos = 48 := UInt8.toNat_inj.1 (by show ((dg s)[0]'hpos).toNat = 48; omega)
          have hs48 : ¬ s.data.toList = [48] := by have := hlead.2; rw [ByteArray.toList_eq] at this; simpa using this
          have HN := Lib.hid (num_form (l := s.data.toList) (by unfold formN; rw [hhd, h48]; simp [hs48]))
          have hl1 : (((dg s)[0]'hpos).toNat : Int) = 48 := hlead.1
          have hl1b : (((((dg s)[0]'hpos).toNat : Int)) == 48) = true := by simpa using hl1
          have hl2 := hlead.2
          clear hlead hfd hsz htl hz h48 hs48 hhd
          go_wp2_with fail
          go_ret2
          exact numB_ret HN.out (below_iter _ _ _)
        · have hform : formN s.data.toList = true := by
            unfold formN
            rw [hfd, hhd]
            have h4 : (digitsOf s.data.toList).isEmpty = false := by rw [← htl]; exact hte
            rw [h4]
            by_cases h48 : (dg s)[0]'hpos = 48
            · have : s.data.toList = [48] := by
                have h5 : ¬ (s.toList == [48]) = false := fun h => hlead ⟨by rw [h48]; rfl, h⟩
                rw [ByteArray.toList_eq] at h5; simpa using h5
              simp [this]
            · simp [h48]
          have hpi := parseIntB_form _ hform
          have HFORM := Lib.hid hform
          have hcases : ((((dg s)[0]'hpos).toNat : Int) = 48 ∧ (s.toList == [48]) = true) ∨ ((((dg s)[0]'hpos).toNat : Int) == 48) = false := by
            by_cases h48 : (((dg s)[0]'hpos).toNat : Int) = 48
            · exact .inl ⟨h48, by have h5 : ¬ (s.toList == [48]) = false := fun h => hlead ⟨h48, h⟩
                                  simpa using h5⟩
            · exact .inr (by rw [beq_eq_false_iff_ne]; exact h48)
          have HB := below_iter w1 (dg s) (dg s).size
          have HE2 := Lib.hid (HE.out.below HB)
          have HBB := Lib.hid HB
          clear hlead hfd hsz htl hz hform hhd HB
          by_cases hI : I64 (signed s.data.toList)
          · rw [if_pos hI] at hpi
            have HPI := Lib.hid hpi
            have HN := Lib.hid (num_ok HFORM.out hI)
            clear hpi hI
            rcases hcases with ⟨hl1, hl2⟩ | hl1
            · have hl1b : (((((dg s)[0]'hpos).toNat : Int)) == 48) = true := by simpa using hl1
              go_wp2_with fail
              refine (Tryz.strconv_ParseInt_10_at64_ok s (by omega) _ HPI.out _).mono ?_
              rintro e w2 ⟨rfl, hw2⟩
              have hb2 : Below w1.heap.size w1 w2 := by
                rcases hw2 with rfl | ⟨t, rfl⟩
                · exact HBB.out
                · exact HBB.out.trans ((Lib.bytesWorld_below _ _ _).mono HBB.out.size)
              clear hw2
              go_wp2_with fail
              go_ret2
              exact numB_ret HN.out hb2
            · go_wp2_with fail
              refine (Tryz.strconv_ParseInt_10_at64_ok s (by omega) _ HPI.out _).mono ?_
              rintro e w2 ⟨rfl, hw2⟩
              have hb2 : Below w1.heap.size w1 w2 := by
                rcases hw2 with rfl | ⟨t, rfl⟩
                · exact HBB.out
                · exact HBB.out.trans ((Lib.bytesWorld_below _ _ _).mono HBB.out.size)
              clear hw2
              go_wp2_with fail
              go_ret2
              exact numB_ret HN.out hb2
          · rw [if_neg hI] at hpi
            have HPI := Lib.hid hpi
            have HN := Lib.hid (num_big HFORM.out hI)
            clear hpi hI
            obtain ⟨tp, p, hrv⟩ := HE2.out.rng
            have HRV := Lib.hid hrv
            clear hrv
            rcases hcases with ⟨hl1, hl2⟩ | hl1
            · have hl1b : (((((dg s)[0]'hpos).toNat : Int)) == 48) = true := by simpa using hl1
              go_wp2_with fail
              refine (Tryz.strconv_ParseInt_10_at64_range_var s (by omega) HPI.out tp p _ HRV.out).mono ?_
              rintro e w2 ⟨N, rfl, hN, hNc, hb⟩
              have hb2 : Below w1.heap.size w1 w2 := HBB.out.trans (hb.mono HBB.out.size)
              clear hb hNc hN
              go_wp2_with fail
              go_ret2
              exact numB_ret HN.out hb2
            · go_wp2_with fail
              refine (Tryz.strconv_ParseInt_10_at64_range_var s (by omega) HPI.out tp p _ HRV.out).mono ?_
              rintro e w2 ⟨N, rfl, hN, hNc, hb⟩
              have hb2 : Below w1.heap.size w1 w2 := HBB.out.trans (hb.mono HBB.out.size)
              clear hb hNc hN
              go_wp2_with fail
              go_ret2
              exact numB_ret HN.out hb2
end Go.Proofs.YtcgcndmlgfnjbaaGreatDoor

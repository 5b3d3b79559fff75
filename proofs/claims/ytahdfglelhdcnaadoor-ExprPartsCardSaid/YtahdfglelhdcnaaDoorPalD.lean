/- The program's parser: the signs of the floors. -/
import Derived.Test.YtahdfglelhdcnaaDoorPalA
import Derived.Test.YtahdfglelhdcnaaDoorParB
namespace Go.Proofs.YtahdfglelhdcnaaDoor
open Go Go.RowKit
set_option linter.unusedVariables false
def flS (n : Nat) : List (List UInt8) := (opsOf n).map sg
theorem al6 (w : World) (o1 o2 o3 o4 o5 o6 : Obj) : Below w.heap.size w ((((((w.alloc o1).alloc o2).alloc o3).alloc o4).alloc o5).alloc o6) :=
  bt (bt (bt (bt (bt (al _ _) (al _ _)) (al _ _)) (al _ _)) (al _ _)) (al _ _)
/-- the six blocks of the table -/
def sO (n : Nat) : Obj := .cells ((flS n).map fun t => Value.string (str t)).toArray 9
theorem strs_made (w : World) (n : Nat) (L : Nat) (h : (flS n).length = L) : Strs (w.alloc (sO n)) (.slice (some ⟨w.heap.size, 0, none⟩) L L) (flS n) := by
  subst h
  have := sl_lit w ((flS n).flatMap strCell) 9 1 (flS n).length (flS n).length (flat_length strCell 1 (fun _ => rfl) _) (Nat.le_refl _)
  have e : (flS n).flatMap strCell = (flS n).map fun t => Value.string (str t) := by
    induction flS n with
    | nil => rfl
    | cons x r ih => simp only [List.flatMap_cons, List.map_cons, ih]; rfl
  unfold sO
  rw [← e]
  exact this
set_option maxHeartbeats 2000000 in
theorem floors_c (n : Nat) (hn : n < 5) (w : World) : Calls Tryd.prog 54 #[] w fun e w' => ∃ b A c, e = .returned (.slice (some ⟨b, 0, none⟩) 5 5) ∧ b < w'.heap.size ∧ w'.cell? ⟨b, n, none⟩ = some (.slice A (flS n).length c) ∧ Strs w' (.slice A (flS n).length c) (flS n) ∧ Below w.heap.size w w' := by
  go_enter Tryd.func54, Tryd.ntmps54
  go_wp2_with fail
  go_ret
  have h0 := strs_made w 0 1 rfl
  have h1 := strs_made (w.alloc (sO 0)) 1 1 rfl
  have h2 := strs_made ((w.alloc (sO 0)).alloc (sO 1)) 2 4 rfl
  have h3 := strs_made (((w.alloc (sO 0)).alloc (sO 1)).alloc (sO 2)) 3 2 rfl
  have h4 := strs_made ((((w.alloc (sO 0)).alloc (sO 1)).alloc (sO 2)).alloc (sO 3)) 4 3 rfl
  simp only [World.size_alloc] at h1 h2 h3 h4
  refine ⟨w.heap.size + 1 + 1 + 1 + 1 + 1, ?_⟩
  match n, hn with
  | 0, _ => exact ⟨some ⟨w.heap.size, 0, none⟩, 1, rfl, by simp only [World.size_alloc]; omega, by simp [go_sem, flS, opsOf], (((((h0.below (al _ _)).below (al _ _)).below (al _ _)).below (al _ _)).below (al _ _)), al6 _ _ _ _ _ _ _⟩
  | 1, _ => exact ⟨some ⟨w.heap.size + 1, 0, none⟩, 1, rfl, by simp only [World.size_alloc]; omega, by simp [go_sem, flS, opsOf], ((((h1.below (al _ _)).below (al _ _)).below (al _ _)).below (al _ _)), al6 _ _ _ _ _ _ _⟩
  | 2, _ => exact ⟨some ⟨w.heap.size + 1 + 1, 0, none⟩, 4, rfl, by simp only [World.size_alloc]; omega, by simp [go_sem, flS, opsOf], (((h2.below (al _ _)).below (al _ _)).below (al _ _)), al6 _ _ _ _ _ _ _⟩
  | 3, _ => exact ⟨some ⟨w.heap.size + 1 + 1 + 1, 0, none⟩, 2, rfl, by simp only [World.size_alloc]; omega, by simp [go_sem, flS, opsOf], ((h3.below (al _ _)).below (al _ _)), al6 _ _ _ _ _ _ _⟩
  | 4, _ => exact ⟨some ⟨w.heap.size + 1 + 1 + 1 + 1, 0, none⟩, 3, rfl, by simp only [World.size_alloc]; omega, by simp [go_sem, flS, opsOf], (h4.below (al _ _)), al6 _ _ _ _ _ _ _⟩
end Go.Proofs.YtahdfglelhdcnaaDoor
/- The program's parser: signs and operators. -/
namespace Go.Proofs.YtahdfglelhdcnaaDoor
open Go Go.RowKit
set_option linter.unusedVariables false
def sgA : Value := .agg #[.string ⟨#[]⟩, .string ⟨#[]⟩, .string ⟨#[]⟩, .string ⟨#[45]⟩, .string ⟨#[33]⟩, .string ⟨#[43]⟩, .string ⟨#[45]⟩, .string ⟨#[42]⟩, .string ⟨#[47]⟩, .string ⟨#[37]⟩, .string ⟨#[61, 61]⟩, .string ⟨#[33, 61]⟩, .string ⟨#[60]⟩, .string ⟨#[60, 61]⟩, .string ⟨#[38, 38]⟩, .string ⟨#[124, 124]⟩]
set_option maxHeartbeats 2000000 in
theorem signs_c (w : World) : Calls Tryd.prog 64 #[] w fun e w' => e = .returned sgA ∧ Below w.heap.size w w' := by
  go_enter Tryd.func64, Tryd.ntmps64
  go_wp2_with fail
  refine ret_read sgA rfl ?_ ?_
  · exact ⟨rfl, al _ _⟩
  · simp [results, Tryd.results64, go_sem, sgA]
theorem sgA_at (w : World) : ∀ (j : Nat), j < 16 → (Instr.index 80 sgA (.int .i64 (j : Int))).run Tryd.prog w = .ok (.string (str (sg j))) w
  | 0, _ => by kernel_rfl
  | 1, _ => by kernel_rfl
  | 2, _ => by kernel_rfl
  | 3, _ => by kernel_rfl
  | 4, _ => by kernel_rfl
  | 5, _ => by kernel_rfl
  | 6, _ => by kernel_rfl
  | 7, _ => by kernel_rfl
  | 8, _ => by kernel_rfl
  | 9, _ => by kernel_rfl
  | 10, _ => by kernel_rfl
  | 11, _ => by kernel_rfl
  | 12, _ => by kernel_rfl
  | 13, _ => by kernel_rfl
  | 14, _ => by kernel_rfl
  | 15, _ => by kernel_rfl
  | n + 16, h => by omega
theorem sg_many : ∀ op : Fin 16, 5 ≤ op.val → ∀ j : Fin 16, j.val < op.val → (sg j.val == sg op.val) = true → ¬ (1 : Int) < kidsE (j.val : Int) := by decide +kernel
set_option maxRecDepth 100000 in
set_option maxHeartbeats 2000000 in
theorem two_c (op : Nat) (h5 : 5 ≤ op) (h15 : op ≤ 15) (w : World) : Calls Tryd.prog 59 #[.string (str (sg op))] w fun e w' => e = .returned (.int .i64 op) ∧ Below w.heap.size w w' := by
  have HM : Hid (∀ (j : Nat) u, Calls Tryd.prog 42 #[.int .i64 j] u fun e w' => e = .returned (.int .i64 (kidsE j)) ∧ u = w') := fun j u => many_c _ u
  have HNO : Hid (∀ j, j < op → (sg j == sg op) = true → ¬ (1 : Int) < kidsE (j : Int)) := fun j hj h => sg_many ⟨op, by omega⟩ h5 ⟨j, by omega⟩ hj h
  have HK2 : Hid (kidsE (op : Int) = 2) := kidsE_two (by omega) (by omega)
  go_enter Tryd.func59, Tryd.ntmps59
  go_wp2_with (go_at_call 64; refine (signs_c _).mono ?_; rintro e w1 ⟨rfl, hb1⟩)
  go_loop [6] (fun k => ∃ j : Nat, j ≤ op ∧ k = .int .i64 j) (fun k => 16 - (intOf k).toNat)
  case atStart => exact ⟨0, Nat.zero_le _, rfl⟩
  case round =>
    obtain ⟨j, hj, rfl⟩ := hrel
    have hix := sgA_at w1 j (by omega)
    by_cases hjo : j = op
    · subst hjo
      have hs : ((str (sg j)).toList == (str (sg j)).toList) = true := by simp
      have HMj := HM.out j
      rw [HK2.out] at HMj
      have HMJ := Lib.hid HMj
      clear HMj
      generalize str (sg j) = ss at hix hs
      go_wp2_with (go_at_call 42; refine (HMJ.out _).mono ?_; rintro e w' ⟨rfl, rfl⟩)
      go_ret
      exact ⟨rfl, hb1⟩
    · cases hs : ((str (sg j)).toList == (str (sg op)).toList)
      · go_wp2_with fail
        go_round
        case rel => exact ⟨j + 1, by omega, by go_num⟩
        case measure => simp [intOf]; omega
      · have hk := HNO.out j (by omega) (by rw [str_toList, str_toList] at hs; exact hs)
        have HMJ := Lib.hid (HM.out j)
        generalize kidsE (j : Int) = kk at hk HMJ
        have hkd : decide ((1 : Int) < kk) = false := by simp; omega
        go_wp2_with (go_at_call 42; refine (HMJ.out _).mono ?_; rintro e w' ⟨rfl, rfl⟩)
        go_round
        case rel => exact ⟨j + 1, by omega, by go_num⟩
        case measure => simp [intOf]; omega
end Go.Proofs.YtahdfglelhdcnaaDoor
/- The program's parser: which of a floor's signs stands at a token. -/
namespace Go.Proofs.YtahdfglelhdcnaaDoor
open Go Go.RowKit
set_option linter.unusedVariables false
theorem below_drewN0 (w : World) (n : Nat) : Below w.heap.size w (w.drewN n) := ⟨rfl, rfl, rfl, Nat.le_refl _, fun _ _ => rfl⟩
set_option maxRecDepth 100000 in
set_option maxHeartbeats 2000000 in
theorem sgAt_c (l : List Tok) (hl : l.length ≤ 100000) (g bb : Nat) (v : Value) (i : Nat) (d : Int) (s : List UInt8) (w : World) (hp : Par w g v i d 0 0) (hc : Ctx g v l w) (hbx : w.cell? ⟨bb, 0, none⟩ = some (.pointer (some ⟨g, 0, none⟩))) :
    Calls Tryd.prog 57 #[.string (str s), .pointer (some ⟨bb, 0, none⟩)] w fun e w' => e = .returned (.bool (isE l i s)) ∧ Below w.heap.size w w' := by
  have HT : Hid (∀ n, Toks (w.drewN n) v l) := fun n => (hc.now hp.lt).below (below_drewN0 w n)
  have HI : Hid (∀ u, Toks u v l → Calls Tryd.prog 58 #[v, .int .i64 i, .string (str s)] u fun e w' => e = .returned (.bool (isE l i s)) ∧ w' = u) := fun u h => (is_c l (by omega) i s v u h).mono fun _ _ ⟨h1, h2⟩ => ⟨h1, h2.symm⟩
  obtain ⟨pl, p0, p1, p2, p3, p4, pf1, pf2, pf3, pf4⟩ := hp
  clear hc
  generalize isE l i s = b at HI
  go_enter Tryd.func57, Tryd.ntmps57
  go_wp2_with fail
  go_quiet (first | (go_at_call 58; exact Calls.quiet_of_same (HI.out _ (HT.out _))))
  go_wp2_with fail
  go_ret
  exact ⟨rfl, below_drewN0 _ _⟩
set_option maxRecDepth 100000 in
set_option maxHeartbeats 2000000 in
theorem index_c (l : List Tok) (hl : l.length ≤ 100000) (g bb : Nat) (v : Value) (i : Nat) (d : Int) (ss : List (List UInt8)) (hss : ss.length ≤ 1000) (h0 : 0 < ss.length) (V : Value) (w : World) (hV : Strs w V ss) (hp : Par w g v i d 0 0) (hc : Ctx g v l w) (hbx : w.cell? ⟨bb, 0, none⟩ = some (.pointer (some ⟨g, 0, none⟩))) (hbl : bb < w.heap.size) :
    Calls Tryd.prog 56 #[V, .func (.func 57) #[] #[.pointer (some ⟨bb, 0, none⟩)]] w fun e w' => Below w.heap.size w w' ∧ ∃ z : Int, e = .returned (.int .i64 z) ∧ ((z = -1 ∧ ∀ s ∈ ss, isE l i s = false) ∨ (∃ j : Nat, z = j ∧ ∃ h : j < ss.length, isE l i (ss[j]) = true)) := by
  have HC : Hid (∀ s u, Below w.heap.size w u → Calls Tryd.prog 57 #[.string (str s), .pointer (some ⟨bb, 0, none⟩)] u fun e w' => e = .returned (.bool (isE l i s)) ∧ Below u.heap.size u w') := fun s u hb =>
    sgAt_c l hl g bb v i d s u (hp.below hb) (hc.belowB (hb.mono (Nat.le_of_lt hp.lt))) ((hb.cell (p := ⟨bb, 0, none⟩) hbl).trans hbx)
  obtain ⟨b, off, c, rfl, hcc, hbt, hat⟩ := hV.at_ h0
  have HAT := Lib.hid hat
  clear hat hV hp hc hbx
  go_enter Tryd.func56, Tryd.ntmps56
  go_wp2_with fail
  go_loopw [8] (fun k wr => ∃ j : Nat, j ≤ ss.length ∧ k = .int .i64 j ∧ Below w.heap.size w wr ∧ ∀ j' (h : j' < ss.length), j' < j → isE l i (ss[j']) = false) (fun k _ => ss.length - (intOf k).toNat)
  case atStart => exact ⟨0, Nat.zero_le _, rfl, Below.refl _ _, fun j' _ h => absurd h (by omega)⟩
  case round =>
    obtain ⟨j, hj, rfl, hb, hno⟩ := hrel
    have HNO := Lib.hid hno
    have HB := Lib.hid hb
    clear hno
    by_cases hjl : j < ss.length
    · have hcell : wr.cell? ⟨b, off + j, none⟩ = some (.string (str (ss[j]))) := (hb.cell (p := ⟨b, off + j, none⟩) hbt).trans (HAT.out j hjl)
      have HCJ := Lib.hid (HC.out (ss[j]) wr hb)
      have hblw := Nat.lt_of_lt_of_le hbt hb.size
      clear hb
      have hjl2 : (j : Int) < (ss.length : Int) := by omega
      cases his : isE l i (ss[j])
      · have HF : Hid (∀ j' (h : j' < ss.length), j' < j + 1 → isE l i (ss[j']) = false) := fun j' h hlt => by
          by_cases hjj : j' < j
          · exact HNO.out j' h hjj
          · obtain rfl : j' = j := by omega
            exact his
        rw [his] at HCJ
        clear his
        generalize str (ss[j]) = sj at hcell HCJ
        go_wp2_with (go_at_call 57; refine (HCJ.out).mono ?_; rintro e w2 ⟨rfl, hb2⟩)
        go_roundw
        case rel => exact ⟨j + 1, by omega, by go_num, bt HB.out hb2, HF.out⟩
        case measure => simp [intOf]; omega
      · have HIS := Lib.hid his
        rw [his] at HCJ
        clear his
        generalize str (ss[j]) = sj at hcell HCJ
        go_wp2_with (go_at_call 57; refine (HCJ.out).mono ?_; rintro e w2 ⟨rfl, hb2⟩)
        go_ret
        exact ⟨bt HB.out hb2, j, rfl, .inr ⟨j, rfl, hjl, HIS.out⟩⟩
    · have hje : j = ss.length := by omega
      go_wp2_with fail
      go_ret
      refine ⟨HB.out, -1, rfl, .inl ⟨rfl, fun s hs => ?_⟩⟩
      obtain ⟨j', hj', rfl⟩ := List.mem_iff_getElem.1 hs
      exact HNO.out j' hj' (by omega)
end Go.Proofs.YtahdfglelhdcnaaDoor

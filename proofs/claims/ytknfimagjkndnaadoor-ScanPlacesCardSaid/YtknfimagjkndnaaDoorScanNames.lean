/- Names: the walks. -/
import Derived.Test.YtknfimagjkndnaaDoorScanKept
import Derived.WalkKit
import Derived.WalkSpells
import Derived.WalkLawsBesides
namespace Go.Proofs.YtknfimagjkndnaaDoor
open Go Go.RowKit
set_option linter.unusedVariables false
theorem nameE_cons (c : UInt8) (r : List UInt8) : nameE (c :: r) = (decide ((c :: r).length ≤ 16) && letterE c && !keptE (c :: r) && (c :: r).all ldE) := rfl
def NamePost (s : List UInt8) (w : World) (e : Ending) (w' : World) : Prop := e = .returned (.bool (nameE s)) ∧ Below w.heap.size w w'
set_option maxRecDepth 100000 in
set_option maxHeartbeats 400000 in
theorem name_c (s : List UInt8) (hs : s.length ≤ 1000000) (w : World) (hE : Env w) :
    Calls Tryd.prog 13 #[.string (str s)] w (NamePost s w) := by
  have HE := Lib.hid hE
  clear hE
  cases s with
  | nil =>
    have h0 : (str []).toList.isEmpty = true := by rw [str_toList]; rfl
    have h1 : (str []).toList = [] := str_toList _
    go_enter Tryd.func13, Tryd.ntmps13
    go_wp2_with fail
    go_ret
    exact ⟨rfl, Below.refl _ _⟩
  | cons c r =>
    have hsz : (str (c :: r)).size = r.length + 1 := by rw [str_size]; rfl
    have h0 : (str (c :: r)).toList.isEmpty = false := by rw [str_toList]; rfl
    have h1 : ¬ (str (c :: r)).toList = [] := by rw [str_toList]; simp
    have hp : 0 < (str (c :: r)).size := by omega
    have hc : (str (c :: r))[0]'hp = c := rfl
    have HN := Lib.hid (nameE_cons c r)
    have HK := Lib.hid (Kept_c (c :: r) hs)
    have HR := Lib.hid (run_ld (str (c :: r)) (by simp at hs; omega))
    have HRL : Hid (((((str (c :: r)).data.toList.takeWhile ldE).length : Int) == ((str (c :: r)).size : Int)) = (c :: r).all ldE) := by
      show _ = _
      rw [str_data, str_size, ← takeWhile_all, Bool.eq_iff_iff, beq_iff_eq, beq_iff_eq]
      omega
    by_cases h16 : (c :: r).length ≤ 16
    · have h16' : ¬ 16 < (str (c :: r)).size := by simp at h16; omega
      cases hl : letterE c
      · have HF : Hid (nameE (c :: r) = false) := by show _ = _; rw [HN.out, hl]; simp
        have HL : Hid (∀ u, Calls Tryd.prog 33 #[.int .u8 c.toNat] u fun e w' => e = .returned (.bool false) ∧ u = w') := fun u => by rw [← hl]; exact letter_c c u
        clear hsz h16 hl
        go_enter Tryd.func13, Tryd.ntmps13
        go_wp2_with (go_at_call 33; refine (HL.out _).mono ?_; rintro e w' ⟨rfl, rfl⟩)
        go_ret
        exact ⟨ret_bool HF.out.symm, Below.refl _ _⟩
      · have HL : Hid (∀ u, Calls Tryd.prog 33 #[.int .u8 c.toNat] u fun e w' => e = .returned (.bool true) ∧ u = w') := fun u => by rw [← hl]; exact letter_c c u
        cases hk : keptE (c :: r)
        · have HF : Hid (nameE (c :: r) = (c :: r).all ldE) := by show _ = _; rw [HN.out, hl, hk, decide_eq_true h16]; simp
          have HK2 : Hid (∀ u, Env u → Calls Tryd.prog 15 #[.string (str (c :: r))] u fun e w' => e = .returned (.bool false) ∧ Below u.heap.size u w') := fun u hu => by rw [← hk]; exact HK.out u hu
          generalize (c :: r).all ldE = av at HRL HF
          clear hsz h16 hl hk HK
          go_enter Tryd.func13, Tryd.ntmps13
          go_wp2_with (first | (go_at_call 33; refine (HL.out _).mono ?_; rintro e w' ⟨rfl, rfl⟩) | (go_at_call 15; refine (HK2.out _ HE.out).mono ?_; rintro e w2 ⟨rfl, hb⟩) | (go_at_call 24; refine (HR.out _).mono ?_; rintro e w' ⟨rfl, rfl⟩))
          go_ret
          exact ⟨ret_bool (HRL.out.trans HF.out.symm), hb⟩
        · have HF : Hid (nameE (c :: r) = false) := by show _ = _; rw [HN.out, hk]; simp
          have HK2 : Hid (∀ u, Env u → Calls Tryd.prog 15 #[.string (str (c :: r))] u fun e w' => e = .returned (.bool true) ∧ Below u.heap.size u w') := fun u hu => by rw [← hk]; exact HK.out u hu
          clear hsz h16 hl hk HK
          go_enter Tryd.func13, Tryd.ntmps13
          go_wp2_with (first | (go_at_call 33; refine (HL.out _).mono ?_; rintro e w' ⟨rfl, rfl⟩) | (go_at_call 15; refine (HK2.out _ HE.out).mono ?_; rintro e w2 ⟨rfl, hb⟩))
          go_ret
          exact ⟨ret_bool HF.out.symm, hb⟩
    · have h16' : 16 < (str (c :: r)).size := by simp at h16; omega
      have HF : Hid (nameE (c :: r) = false) := by show _ = _; rw [HN.out, decide_eq_false h16]; rfl
      clear hsz hc h16
      go_enter Tryd.func13, Tryd.ntmps13
      go_wp2_with fail
      go_ret
      exact ⟨ret_bool HF.out.symm, Below.refl _ _⟩
theorem ld_false {c : UInt8} (h : ldE c = false) : letterE c = false ∧ digitE c = false := by
  unfold ldE at h; simpa using h
set_option maxRecDepth 100000 in
set_option maxHeartbeats 800000 in
theorem rname_c (s : List UInt8) (hs : s.length ≤ 1000000) (w : World) :
    Calls Tryd.prog 14 #[.string (str s)] w (NamePost s w) := by
  cases s with
  | nil =>
    have h0 : (str []).size < 1 := by rw [str_size]; decide
    have h2 : (str []).size = 0 := by rw [str_size]; rfl
    go_enter Tryd.func14, Tryd.ntmps14
    go_wp2_with fail
    go_ret
    exact ⟨rfl, Below.refl _ _⟩
  | cons c r =>
    have hsz : (str (c :: r)).size = r.length + 1 := by rw [str_size]; rfl
    have hp : 0 < (str (c :: r)).size := by omega
    have hc : (str (c :: r))[0]'hp = c := rfl
    have HN := Lib.hid (nameE_cons c r)
    by_cases h16 : (c :: r).length ≤ 16
    · have h16' : ¬ 16 < (str (c :: r)).size := by simp at h16; omega
      cases hl : letterE c
      · have HF : Hid (nameE (c :: r) = false) := by show _ = _; rw [HN.out, hl]; simp
        have HL : Hid (∀ u, Calls Tryd.prog 30 #[.int .u8 c.toNat] u fun e w' => e = .returned (.bool false) ∧ u = w') := fun u => by rw [← hl]; exact rletter_c c u
        clear hsz h16 hl
        go_enter Tryd.func14, Tryd.ntmps14
        go_wp2_with (go_at_call 30; refine (HL.out _).mono ?_; rintro e w' ⟨rfl, rfl⟩)
        go_ret
        exact ⟨ret_bool HF.out.symm, Below.refl _ _⟩
      · have HL : Hid (∀ u, Calls Tryd.prog 30 #[.int .u8 c.toNat] u fun e w' => e = .returned (.bool true) ∧ u = w') := fun u => by rw [← hl]; exact rletter_c c u
        cases hk : keptE (c :: r)
        · have HF : Hid (nameE (c :: r) = (c :: r).all ldE) := by show _ = _; rw [HN.out, hl, hk, decide_eq_true h16]; simp
          have HK2 : Hid (∀ u, Calls Tryd.prog 16 #[.string (str (c :: r))] u fun e w' => e = .returned (.bool false) ∧ Below u.heap.size u w') := fun u => by rw [← hk]; exact rkept_c (c :: r) u
          have HS := Lib.hid hsz
          have HLEN := Lib.hid hs
          clear hsz h16 hl hk
          generalize hS : str (c :: r) = S at *
          have HSD : Hid (S.data.toList = c :: r) := by show _ = _; rw [← hS, str_data]
          clear hS
          go_enter Tryd.func14, Tryd.ntmps14
          go_wp2_with (first | (go_at_call 30; refine (HL.out _).mono ?_; rintro e w' ⟨rfl, rfl⟩) | (go_at_call 16; refine (HK2.out _).mono ?_; rintro e w2 ⟨rfl, hb⟩))
          go_loop [3] (fun i => ∃ k : Nat, k ≤ S.size ∧ i = .int .i64 k ∧ ∀ j (h : j < k) (h' : j < S.size), ldE S[j] = true) (fun i => S.size - (intOf i).toNat)
          case atStart => exact ⟨0, Nat.zero_le _, rfl, fun j h => absurd h (by omega)⟩
          case round =>
            obtain ⟨k, hk, rfl, hall⟩ := hrel
            have HA := Lib.hid hall
            clear hall HL HK2
            have hs2 : S.size ≤ 1000000 := by have := HS.out; have := HLEN.out; simp at this; omega
            by_cases hlt : k < S.size
            · have hb255 : ((S[k]'hlt).toNat : Int) < 256 := by have := (S[k]'hlt).toNat_lt; omega
              cases hd : ldE (S[k]'hlt)
              · have HX : Hid ((c :: r).all ldE = false) := by
                  show _ = _
                  rw [← HSD.out, List.all_eq_false]
                  exact ⟨S[k]'hlt, by exact List.getElem_mem (l := S.data.toList) (by simpa using hlt), by simp [hd]⟩
                have h1 := (ld_false hd).1
                have h2 := (ld_false hd).2
                have HL : Hid (∀ u, Calls Tryd.prog 30 #[.int .u8 (S[k]'hlt).toNat] u fun e w' => e = .returned (.bool false) ∧ u = w') := fun u => by rw [← h1]; exact rletter_c _ u
                have HD : Hid (∀ u, Calls Tryd.prog 31 #[.int .u8 (S[k]'hlt).toNat] u fun e w' => e = .returned (.bool false) ∧ u = w') := fun u => by rw [← h2]; exact rdigit_c _ u
                clear h1 h2 hd
                go_wp2_with (first | (go_at_call 30; refine (HL.out _).mono ?_; rintro e w' ⟨rfl, rfl⟩) | (go_at_call 31; refine (HD.out _).mono ?_; rintro e w' ⟨rfl, rfl⟩))
                go_ret
                exact ⟨ret_bool (by rw [HF.out, HX.out]), hb⟩
              · have HDT := Lib.hid hd
                cases h1 : letterE (S[k]'hlt)
                · have h2 : digitE (S[k]'hlt) = true := by unfold ldE at hd; rw [h1] at hd; simpa using hd
                  have HL : Hid (∀ u, Calls Tryd.prog 30 #[.int .u8 (S[k]'hlt).toNat] u fun e w' => e = .returned (.bool false) ∧ u = w') := fun u => by rw [← h1]; exact rletter_c _ u
                  have HD : Hid (∀ u, Calls Tryd.prog 31 #[.int .u8 (S[k]'hlt).toNat] u fun e w' => e = .returned (.bool true) ∧ u = w') := fun u => by rw [← h2]; exact rdigit_c _ u
                  clear h1 h2 hd
                  go_wp2_with (first | (go_at_call 30; refine (HL.out _).mono ?_; rintro e w' ⟨rfl, rfl⟩) | (go_at_call 31; refine (HD.out _).mono ?_; rintro e w' ⟨rfl, rfl⟩))
                  go_round
                  case rel =>
                    refine ⟨k + 1, by omega, by go_num, fun j h h' => ?_⟩
                    by_cases hj : j < k
                    · exact HA.out j hj h'
                    · obtain rfl : j = k := by omega
                      exact HDT.out
                  case measure => simp [intOf]; omega
                · have HL : Hid (∀ u, Calls Tryd.prog 30 #[.int .u8 (S[k]'hlt).toNat] u fun e w' => e = .returned (.bool true) ∧ u = w') := fun u => by rw [← h1]; exact rletter_c _ u
                  clear h1 hd
                  go_wp2_with (go_at_call 30; refine (HL.out _).mono ?_; rintro e w' ⟨rfl, rfl⟩)
                  go_round
                  case rel =>
                    refine ⟨k + 1, by omega, by go_num, fun j h h' => ?_⟩
                    by_cases hj : j < k
                    · exact HA.out j hj h'
                    · obtain rfl : j = k := by omega
                      exact HDT.out
                  case measure => simp [intOf]; omega
            · have HX : Hid ((c :: r).all ldE = true) := by
                show _ = _
                rw [← HSD.out, List.all_eq_true]
                intro x hx
                obtain ⟨j, hj, rfl⟩ := List.mem_iff_getElem.1 hx
                exact HA.out j (by have : j < S.size := by simpa using hj
                                   omega) (by simpa using hj)
              go_wp2_with fail
              go_ret
              exact ⟨ret_bool (by rw [HF.out, HX.out]), hb⟩
        · have HF : Hid (nameE (c :: r) = false) := by show _ = _; rw [HN.out, hk]; simp
          have HK2 : Hid (∀ u, Calls Tryd.prog 16 #[.string (str (c :: r))] u fun e w' => e = .returned (.bool true) ∧ Below u.heap.size u w') := fun u => by rw [← hk]; exact rkept_c (c :: r) u
          clear hsz h16 hl hk
          go_enter Tryd.func14, Tryd.ntmps14
          go_wp2_with (first | (go_at_call 30; refine (HL.out _).mono ?_; rintro e w' ⟨rfl, rfl⟩) | (go_at_call 16; refine (HK2.out _).mono ?_; rintro e w2 ⟨rfl, hb⟩))
          go_ret
          exact ⟨ret_bool HF.out.symm, hb⟩
    · have h16' : 16 < (str (c :: r)).size := by simp at h16; omega
      have HF : Hid (nameE (c :: r) = false) := by show _ = _; rw [HN.out, decide_eq_false h16]; rfl
      have h00 : ¬ (str (c :: r)).size < 1 := by omega
      clear hsz hc h16
      go_enter Tryd.func14, Tryd.ntmps14
      go_wp2_with fail
      go_ret
      exact ⟨ret_bool HF.out.symm, Below.refl _ _⟩
end Go.Proofs.YtknfimagjkndnaaDoor

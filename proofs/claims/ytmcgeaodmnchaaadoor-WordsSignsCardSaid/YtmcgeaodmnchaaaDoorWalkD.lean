/- What package-level variables hold, kept over calls that write nothing old; the texts of numbers. -/
import Derived.Test.YtmcgeaodmnchaaaDoorWalkC
import Derived.Test.YtmcgeaodmnchaaaDoorShelf
import Derived.WalkKit
import Derived.WalkSpells
import Derived.WalkLawsBesides
import Derived.Lib.LaidTab
import Derived.Lib.AtoiErrMem
namespace Go.Proofs.YtmcgeaodmnchaaaDoor
open Go.RowKit
set_option linter.unusedVariables false
/-- what the package-level variables hold that the texts of numbers read -/
structure Env (w : World) : Prop where
  hs : 0 < w.heap.size
  hr : 1 < w.heap.size
  ht : 2 < w.heap.size
  tab : Lib.TabIs Tryd.prog w "internal/strconv.uint64pow10" .u64 Lib.pow10Tab
  syn : ∃ tp p, w.var? Tryd.prog "strconv.ErrSyntax" = some #[.iface tp p]
  rng : ∃ tp p, w.var? Tryd.prog "strconv.ErrRange" = some #[.iface tp p]
theorem Env.below {w w' : World} (h : Env w) (hb : Below w.heap.size w w') : Env w' := by
  have := hb.size
  have h1 := h.hs; have h2 := h.hr; have h3 := h.ht
  obtain ⟨a, b, h4⟩ := h.syn
  obtain ⟨c, d, h5⟩ := h.rng
  exact ⟨by omega, by omega, by omega, var?_below hb (by kernel_rfl) h3 h.tab, ⟨a, b, var?_below hb (by kernel_rfl) h1 h4⟩, ⟨c, d, var?_below hb (by kernel_rfl) h2 h5⟩⟩
theorem belowGrow (w : World) (k : Nat) (os : Array Obj) : Below w.heap.size w (Sort.grow (w.drewN k) os) := by
  refine ⟨rfl, rfl, rfl, ?_, fun i hi => ?_⟩
  · simp [Sort.grow, World.drewN]
  · simp only [Sort.grow, World.drewN]
    exact Array.getElem?_append_left hi
/-- bytes as a string -/
def str (l : List UInt8) : ByteArray := ⟨l.toArray⟩
set_option maxHeartbeats 400000 in
theorem text_c (n : Int) (hn : I64 n) (w : World) (hE : Env w) :
    Calls Tryd.prog 21 #[.int .i64 n] w fun e w' => e = .returned (.string (str (Lib.itoa n))) ∧ Below w.heap.size w w' := by
  have HE := Lib.hid hE
  have HN := Lib.hid hn
  clear hE hn
  go_enter Tryd.func21, Tryd.ntmps21
  go_wp2_with (go_at_call 27; refine (Tryd.strconv_Itoa n HN.out.1 HN.out.2 w HE.out.tab).mono ?_; rintro e w' ⟨rfl, k, os, rfl⟩)
  go_ret
  exact ⟨rfl, belowGrow _ _ _⟩
/-- one digit -/
theorem rtext_small (n : Int) (h0 : 0 ≤ n) (h1 : n < 10) (w : World) :
    Calls Tryd.prog 22 #[.int .i64 n] w fun e w' => e = .returned (.string (str (Lib.itoa n))) ∧ Below w.heap.size w w' := by
  have hd : decide (0 ≤ n) = true := by simpa using h0
  have hd1 : decide (n < 10) = true := by simpa using h1
  have hcv : ∀ u : World, (convert 42 9 (.slice (some ⟨w.heap.size, 0, none⟩) 1 1)).run Tryd.prog (w.alloc (.cells #[.int .u8 (48 + n)] 5)) = .ok (.string (str (Lib.itoa n))) (w.alloc (.cells #[.int .u8 (48 + n)] 5)) := by
    intro u
    have h := run_convert_bytes_back (P := Tryd.prog) (w.alloc (.cells #[.int .u8 (48 + n)] 5)) 42 9 5 ⟨w.heap.size, 0, none⟩ 1 (Lib.itoa n) Tryd.underlying42 Tryd.underlying5 Tryd.underlying9
    have hl : Lib.itoa n = [UInt8.ofNat (48 + n.toNat)] := by
      rw [Lib.itoa, if_neg (by omega), Lib.decDigits, dif_pos (by omega)]
    rw [hl] at h ⊢
    refine h ?_
    intro j hj
    obtain rfl : j = 0 := by simpa using hj
    have : (48 + n.toNat) % 256 = 48 + n.toNat := Nat.mod_eq_of_lt (by omega)
    simp [go_sem, this]
    omega
  have hcv := hcv w
  go_enter Tryd.func22, Tryd.ntmps22
  go_wp2_with fail
  go_ret
  exact ⟨rfl, (Below.refl _ _).alloc (Nat.le_refl _) _⟩
theorem itoa_pos (n : Int) (h : 10 ≤ n) : Lib.itoa n = Lib.itoa (n / 10) ++ Lib.itoa (n % 10) := by
  unfold Lib.itoa
  rw [if_neg (by omega), if_neg (by omega), if_neg (by omega), Lib.decDigits, dif_neg (by omega), Lib.decDigits.eq_def ((n % 10).toNat), dif_pos (by omega)]
  congr 2
  · congr 1; omega
  · congr 2; omega
theorem itoa_neg1 (n : Int) (h : n < 0) (h1 : -10 < n) : Lib.itoa n = 45 :: Lib.itoa (-n) := by
  unfold Lib.itoa
  rw [if_pos h, if_neg (by omega)]
  congr 2; omega
theorem itoa_neg (n : Int) (h : n ≤ -10) : Lib.itoa n = Lib.itoa (n.tdiv 10) ++ Lib.itoa (-(n.tmod 10)) := by
  have e1 : n.tdiv 10 = -((-n) / 10) := by
    rw [← Int.neg_neg n, Int.neg_tdiv, Int.tdiv_eq_ediv_of_nonneg (by omega)]; simp
  have e2 : n.tmod 10 = -((-n) % 10) := by
    rw [← Int.neg_neg n, Int.neg_tmod, Int.tmod_eq_emod_of_nonneg (by omega)]; simp
  rw [e1, e2]
  unfold Lib.itoa
  rw [if_pos (by omega), if_pos (by omega), if_neg (by omega), Lib.decDigits, dif_neg (by omega), Lib.decDigits.eq_def ((- -(-n % 10)).toNat), dif_pos (by omega)]
  simp only [List.cons_append]
  congr 3
  · congr 1; omega
  · congr 2; omega
theorem decDigits_len : ∀ (k u : Nat), u < 10 ^ (k + 1) → (Lib.decDigits u).length ≤ k + 1
  | 0, u, h => by rw [Lib.decDigits, dif_pos (by simpa using h)]; simp
  | k + 1, u, h => by
    rw [Lib.decDigits]
    split
    · simp
    · have := decDigits_len k (u / 10) (by rw [Nat.pow_succ] at h; omega)
      simp; omega
theorem itoa_len (n : Int) (h : I64 n) : (Lib.itoa n).length ≤ 20 := by
  have := h.1; have := h.2
  have e : (10 : Nat) ^ (18 + 1) = 10000000000000000000 := by decide +kernel
  unfold Lib.itoa
  split
  · have := decDigits_len 18 n.natAbs (by omega)
    simp; omega
  · have := decDigits_len 18 n.toNat (by omega)
    omega
theorem ret_str {a b : ByteArray} (h : a = b) : Ending.returned (.string a) = .returned (.string b) := by rw [h]
theorem str_app (a b : List UInt8) : str (a ++ b) = str a ++ str b := (ByteArray.mk_append_mk a b).symm
theorem str_cons (a : UInt8) (b : List UInt8) : str (a :: b) = ⟨#[a]⟩ ++ str b := (ByteArray.mk_append_mk [a] b).symm
theorem str_size (l : List UInt8) : (str l).size = l.length := by simp [str, ByteArray.size]
theorem str_itoa_le (n : Int) (h : I64 n) : (str (Lib.itoa n)).size ≤ 20 := by rw [str_size]; exact itoa_len n h
set_option maxHeartbeats 400000 in
theorem rtext_k (k : Nat) : ∀ (n : Int) (w : World), n.natAbs ≤ k → I64 n →
    Calls Tryd.prog 22 #[.int .i64 n] w fun e w' => e = .returned (.string (str (Lib.itoa n))) ∧ Below w.heap.size w w' := by
  induction k with
  | zero => intro n w hk hn; exact rtext_small n (by omega) (by omega) w
  | succ k ih =>
    intro n w hk hn
    have hn1 := hn.1; have hn2 := hn.2
    by_cases h0 : 0 ≤ n
    · by_cases h1 : n < 10
      · exact rtext_small n h0 h1 w
      · have hd : decide (0 ≤ n) = true := by simpa using h0
        have hd1 : decide (n < 10) = false := by simpa using h1
        have hit := Lib.hid (itoa_pos n (by omega))
        have z1 := str_itoa_le (n / 10) ⟨by omega, by omega⟩
        have z2 := str_itoa_le (n % 10) ⟨by omega, by omega⟩
        have ih1 := Lib.hid (ih (n / 10) w (by omega) ⟨by omega, by omega⟩)
        have ih2 := Lib.hid (fun w' => ih (n % 10) w' (by omega) ⟨by omega, by omega⟩)
        clear ih
        go_enter Tryd.func22, Tryd.ntmps22
        go_wp2_with fail
        refine ih1.out.mono ?_
        rintro e w1 ⟨rfl, hb1⟩
        go_wp2_with fail
        refine (ih2.out _).mono ?_
        rintro e w2 ⟨rfl, hb2⟩
        go_wp2_with fail
        go_ret
        exact ⟨ret_str (by rw [hit.out, str_app]), hb1.trans (hb2.mono hb1.size)⟩
    · have hd : decide (0 ≤ n) = false := by simpa using h0
      have hd1 : ¬ (0 < n) := by omega
      by_cases h1 : -10 < n
      · have hq : n.tdiv 10 = 0 := by
          have e := Int.neg_tdiv (-n) 10; rw [Int.neg_neg, Int.tdiv_eq_ediv_of_nonneg (a := -n) (by omega)] at e; omega
        have hr : n.tmod 10 = n := by
          have e := Int.neg_tmod (-n) 10; rw [Int.neg_neg, Int.tmod_eq_emod_of_nonneg (a := -n) (by omega)] at e; omega
        have hit := Lib.hid (itoa_neg1 n (by omega) h1)
        have z1 := str_itoa_le (-n) ⟨by omega, by omega⟩
        have ih1 := Lib.hid (rtext_small (-n) (by omega) (by omega) w)
        have hw0 : wrap64 0 = 0 := by decide +kernel
        have hw1 : wrap64 (-n) = -n := wrap64_id _ ⟨by omega, by omega⟩
        clear ih
        go_enter Tryd.func22, Tryd.ntmps22
        go_wp2_with fail
        refine ih1.out.mono ?_
        rintro e w1 ⟨rfl, hb1⟩
        go_wp2_with fail
        go_ret
        exact ⟨ret_str (by rw [hit.out, str_cons]), hb1⟩
      · have e1 : n.tdiv 10 = -((-n) / 10) := by
          rw [← Int.neg_neg n, Int.neg_tdiv, Int.tdiv_eq_ediv_of_nonneg (by omega)]; simp
        have e2 : n.tmod 10 = -((-n) % 10) := by
          rw [← Int.neg_neg n, Int.neg_tmod, Int.tmod_eq_emod_of_nonneg (by omega)]; simp
        have hit := Lib.hid (itoa_neg n (by omega))
        have z1 := str_itoa_le (n.tdiv 10) ⟨by omega, by omega⟩
        have z2 := str_itoa_le (-(n.tmod 10)) ⟨by omega, by omega⟩
        have ih1 := Lib.hid (ih (n.tdiv 10) w (by omega) ⟨by omega, by omega⟩)
        have ih2 := Lib.hid (fun w' => ih (-(n.tmod 10)) w' (by omega) ⟨by omega, by omega⟩)
        have hq0 : (n.tdiv 10 == 0) = false := by rw [beq_eq_false_iff_ne]; omega
        have hw1 : wrap64 (n.tdiv 10) = n.tdiv 10 := wrap64_id _ ⟨by omega, by omega⟩
        have hw2 : wrap64 (-(n.tmod 10)) = -(n.tmod 10) := wrap64_id _ ⟨by omega, by omega⟩
        clear ih e1 e2
        go_enter Tryd.func22, Tryd.ntmps22
        go_wp2_with fail
        refine ih1.out.mono ?_
        rintro e w1 ⟨rfl, hb1⟩
        go_wp2_with fail
        refine (ih2.out _).mono ?_
        rintro e w2 ⟨rfl, hb2⟩
        go_wp2_with fail
        go_ret
        exact ⟨ret_str (by rw [hit.out, str_app]), hb1.trans (hb2.mono hb1.size)⟩
theorem rtext_c (n : Int) (hn : I64 n) (w : World) :
    Calls Tryd.prog 22 #[.int .i64 n] w fun e w' => e = .returned (.string (str (Lib.itoa n))) ∧ Below w.heap.size w w' :=
  rtext_k n.natAbs n w (Nat.le_refl _) hn
end Go.Proofs.YtmcgeaodmnchaaaDoor

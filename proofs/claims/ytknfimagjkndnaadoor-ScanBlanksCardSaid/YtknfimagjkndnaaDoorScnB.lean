/- The program's scanning: one token: the walk. -/
import Derived.Test.YtknfimagjkndnaaDoorScnA
import Derived.Test.YtknfimagjkndnaaDoorRScanC
import Derived.Deep.RegionHeld3
import Derived.WalkKit
import Derived.WalkSpells
import Derived.WalkLawsBesides
import Derived.BigQuiet
import Derived.Deep.QuietTactic
namespace Go.Proofs.YtknfimagjkndnaaDoor
open Go Go.RowKit
set_option linter.unusedVariables false
def tokVal (t : Tok) : Value := .agg #[.int .i64 t.kind, .string (str t.text), .int .i64 t.n, .int .i64 t.pos]
def tokRes : (Tok × Nat) ⊕ Int → Value
  | .inl (t, _) => .tuple #[tokVal t, .int .i64 0]
  | .inr e => .tuple #[tokVal ⟨0, [], 0, 0⟩, .int .i64 e]
def TokenPost (s : ByteArray) (w : World) (e : Ending) (w' : World) : Prop := e = .returned (tokRes (tokE s.data.toList 0)) ∧ Below w.heap.size w w'
theorem token_ret {s : ByteArray} {R : (Tok × Nat) ⊕ Int} (hR : tokE s.data.toList 0 = R) {w w' : World} {v : Value} (hv : v = tokRes R) (hb : Below w.heap.size w w') : TokenPost s w (.returned v) w' := by
  subst hR; subst hv; exact ⟨rfl, hb⟩
theorem dl_self (s : ByteArray) (hk : 0 < s.size) : s.data.toList = (s[0]'hk) :: s.data.toList.drop 1 := by
  have := drop_at s 0 hk
  rw [List.drop_zero] at this
  exact this
theorem ext_take (s : ByteArray) (n : Nat) : s.extract 0 n = str (s.data.toList.take n) := by
  rw [← str_of (s.extract 0 n)]
  congr 1
  rw [← ByteArray.toList_eq, extract_toList]
  simp
theorem tok_below {w w1 : World} {o : Obj} (h : Below (w.alloc o).heap.size (w.alloc o) w1) (a b c d : Value) :
    Below w.heap.size w ((((w1.setCell ⟨w.heap.size, 0, none⟩ a).setCell ⟨w.heap.size, 1, none⟩ b).setCell ⟨w.heap.size, 2, none⟩ c).setCell ⟨w.heap.size, 3, none⟩ d) :=
  (((((((Below.refl _ w).alloc (Nat.le_refl _) o).trans (h.mono (by rw [World.size_alloc]; omega))).setCell (p := ⟨w.heap.size, 0, none⟩) (Nat.le_refl _) a).setCell (p := ⟨w.heap.size, 1, none⟩) (Nat.le_refl _) b).setCell (p := ⟨w.heap.size, 2, none⟩) (Nat.le_refl _) c).setCell (p := ⟨w.heap.size, 3, none⟩) (Nat.le_refl _) d)
set_option maxRecDepth 100000 in
set_option maxHeartbeats 1000000 in
theorem token_letter (s : ByteArray) (hs : s.size ≤ 1000000) (hk : 0 < s.size) (hl : letterE (s[0]'hk) = true) (w : World) :
    Calls Tryd.prog 28 #[.string s] w (TokenPost s w) := by
  have HD := Lib.hid (dl_self s hk)
  have HL : Hid (∀ u, Calls Tryd.prog 33 #[.int .u8 (s[0]'hk).toNat] u fun e w' => e = .returned (.bool true) ∧ u = w') := fun u => by rw [← hl]; exact letter_c _ u
  have HR := Lib.hid (run_tld s (by omega))
  have HT := Lib.hid (tok_letter' (r := s.data.toList.drop 1) hl 0)
  have hle : (s.data.toList.takeWhile ldE).length ≤ s.size := by have := takeWhile_le ldE s.data.toList; simpa using this
  have HP : Hid (s.data.toList.takeWhile ldE = s.data.toList.take (s.data.toList.takeWhile ldE).length) := List.prefix_iff_eq_take.1 (List.takeWhile_prefix _)
  have hb255 : ((s[0]'hk).toNat : Int) < 256 := by have := (s[0]'hk).toNat_lt; omega
  clear hl
  rw [← HD.out] at HT
  by_cases h16 : (s.data.toList.takeWhile ldE).length ≤ 16
  · have HR2 : Hid (tokE s.data.toList 0 = .inl (⟨1, s.data.toList.takeWhile ldE, 0, 0⟩, (s.data.toList.takeWhile ldE).length)) := by
      have := HT.out; rw [if_pos h16] at this; exact this
    clear HT
    generalize hn : (s.data.toList.takeWhile ldE).length = n at *
    generalize s.data.toList.takeWhile ldE = tw at *
    have h16' : ¬ ((16 : Int) < (n : Int)) := by omega
    have HX : Hid (s.extract 0 n = str tw) := by show _ = _; rw [ext_take, ← HP.out]
    have hX := HX.out
    clear hn HP
    go_enter Tryd.func28, Tryd.ntmps28
    go_wp2_with (first | (go_at_call 33; refine (HL.out _).mono ?_; rintro e w' ⟨rfl, rfl⟩) | (go_at_call 24; refine (HR.out _).mono ?_; rintro e w' ⟨rfl, rfl⟩))
    exact bodyPost_ret (v := .tuple #[tokVal ⟨1, tw, 0, 0⟩, .int .i64 0]) (by simp [results, Tryd.results28, go_sem, tokVal]) rfl (token_ret HR2.out rfl ((Below.refl _ _).alloc (Nat.le_refl _) _))
  · have HR2 : Hid (tokE s.data.toList 0 = .inr 2) := by
      have := HT.out; rw [if_neg h16] at this; exact this
    clear HT
    generalize hn : (s.data.toList.takeWhile ldE).length = n at *
    have h16' : ((16 : Int) < (n : Int)) := by omega
    clear hn HP
    go_enter Tryd.func28, Tryd.ntmps28
    go_wp2_with (first | (go_at_call 33; refine (HL.out _).mono ?_; rintro e w' ⟨rfl, rfl⟩) | (go_at_call 24; refine (HR.out _).mono ?_; rintro e w' ⟨rfl, rfl⟩))
    exact bodyPost_ret (v := .tuple #[tokVal ⟨0, [], 0, 0⟩, .int .i64 2]) (by simp [results, Tryd.results28, go_sem, tokVal]; rfl) rfl (token_ret HR2.out rfl ((Below.refl _ _).alloc (Nat.le_refl _) _))
set_option maxRecDepth 100000 in
set_option maxHeartbeats 1000000 in
theorem token_sign (s : ByteArray) (hs : s.size ≤ 1000000) (hk : 0 < s.size) (hl : letterE (s[0]'hk) = false) (hl2 : digitE (s[0]'hk) = false) (w : World) (hE : Env w) :
    Calls Tryd.prog 28 #[.string s] w (TokenPost s w) := by
  have HD := Lib.hid (dl_self s hk)
  have HL : Hid (∀ u, Calls Tryd.prog 33 #[.int .u8 (s[0]'hk).toNat] u fun e w' => e = .returned (.bool false) ∧ u = w') := fun u => by rw [← hl]; exact letter_c _ u
  have HDG : Hid (∀ u, Calls Tryd.prog 35 #[.int .u8 (s[0]'hk).toNat] u fun e w' => e = .returned (.bool false) ∧ u = w') := fun u => by rw [← hl2]; exact digit_c _ u
  have HT := Lib.hid (tok_sign' (r := s.data.toList.drop 1) hl hl2 0)
  have HS := Lib.hid (fun u hu => psign_c s hs hk u hu)
  have hsl : signE s.data.toList ≤ s.size := by have := signE_le s.data.toList; simpa using this
  have hb255 : ((s[0]'hk).toNat : Int) < 256 := by have := (s[0]'hk).toNat_lt; omega
  have HE := Lib.hid (hE.below ((Below.refl _ w).alloc (Nat.le_refl _) (.cells #[.int .i64 0, .string ByteArray.empty, .int .i64 0, .int .i64 0] 31)))
  clear hl hl2 hE
  rw [← HD.out] at HT
  by_cases h0 : signE s.data.toList = 0
  · have HR2 : Hid (tokE s.data.toList 0 = .inr 3) := by
      have := HT.out; rw [if_pos h0] at this; exact this
    have HS2 : Hid (∀ u : World, Env u → Calls Tryd.prog 45 #[.string s] u fun e w' => e = .returned (.int .i64 0) ∧ Below u.heap.size u w') := fun u hu => by
      have := HS.out u hu; unfold SignPost at this; rw [h0] at this; exact this
    clear HT HS h0 hsl
    go_enter Tryd.func28, Tryd.ntmps28
    go_wp2_with (first | (go_at_call 33; refine (HL.out _).mono ?_; rintro e w' ⟨rfl, rfl⟩) | (go_at_call 35; refine (HDG.out _).mono ?_; rintro e w' ⟨rfl, rfl⟩) | (go_at_call 45; refine (HS2.out _ HE.out).mono ?_; rintro e w1 ⟨rfl, hb⟩; obtain ⟨hz, hc0, hc1, hc2, hc3, hf0, hf1, hf2, hf3⟩ := tok_block hb; have HB := Lib.hid hb; clear hb))
    exact bodyPost_ret (v := .tuple #[tokVal ⟨0, [], 0, 0⟩, .int .i64 3]) (by simp [results, Tryd.results28, go_sem, tokVal, hc0, hc1, hc2, hc3]; try rfl) rfl (token_ret HR2.out rfl (tok_below HB.out _ _ _ _))
  · have HR2 : Hid (tokE s.data.toList 0 = .inl (⟨3, s.data.toList.take (signE s.data.toList), 0, 0⟩, signE s.data.toList)) := by
      have := HT.out; rw [if_neg h0] at this; exact this
    generalize hn : signE s.data.toList = n at *
    have HS2 : Hid (∀ u : World, Env u → Calls Tryd.prog 45 #[.string s] u fun e w' => e = .returned (.int .i64 n) ∧ Below u.heap.size u w') := fun u hu => by
      have := HS.out u hu; unfold SignPost at this; rw [hn] at this; exact this
    have HX := Lib.hid (ext_take s n)
    have hn0 : ((n : Int) == 0) = false := by rw [beq_eq_false_iff_ne]; omega
    generalize s.data.toList.take n = tx at *
    have hX := HX.out
    clear HT HS h0 hn
    go_enter Tryd.func28, Tryd.ntmps28
    go_wp2_with (first | (go_at_call 33; refine (HL.out _).mono ?_; rintro e w' ⟨rfl, rfl⟩) | (go_at_call 35; refine (HDG.out _).mono ?_; rintro e w' ⟨rfl, rfl⟩) | (go_at_call 45; refine (HS2.out _ HE.out).mono ?_; rintro e w1 ⟨rfl, hb⟩; obtain ⟨hz, hc0, hc1, hc2, hc3, hf0, hf1, hf2, hf3⟩ := tok_block hb; have HB := Lib.hid hb; clear hb))
    exact bodyPost_ret (v := .tuple #[tokVal ⟨3, tx, 0, 0⟩, .int .i64 0]) (by simp [results, Tryd.results28, go_sem, tokVal, hc0, hc1, hc2, hc3]; try rfl) rfl (token_ret HR2.out rfl (tok_below HB.out _ _ _ _))
end Go.Proofs.YtknfimagjkndnaaDoor

/- The fixed calls on scanning: the statements' walk. -/
import Derived.Test.YtknfimagjkndnaaDoorShoB
import Derived.Test.YtknfimagjkndnaaDoorScnD
import Derived.Test.YtknfimagjkndnaaDoorScanPlace
namespace Go.Proofs.YtknfimagjkndnaaDoor
open Go Go.RowKit
set_option linter.unusedVariables false
def fs1 : List UInt8 := [120, 49, 32, 60, 61, 32, 49, 48, 32, 47, 47, 32, 110, 111]
def fs2 : List UInt8 := [97, 32, 35, 32, 98]
def fs3 : List UInt8 := [52, 50, 57, 52, 57, 54, 55, 50, 57, 55]
def fs4 : List UInt8 := [97, 32, 97, 98, 99, 100, 101, 102, 103, 104, 105, 106, 107, 108, 109, 110, 111, 112, 113]
def fsT : List Tok := [⟨1, [120, 49], 0, 0⟩, ⟨3, [60, 61], 0, 3⟩, ⟨2, [49, 48], 10, 6⟩]
set_option maxRecDepth 100000 in
theorem fs1_p : scanE fs1 = (fsT, 0, 0) := by kernel_rfl
set_option maxRecDepth 100000 in
theorem fs2_p : scanE fs2 = ([], 3, 2) := by kernel_rfl
set_option maxRecDepth 100000 in
theorem fs3_p : scanE fs3 = ([], 4, 0) := by kernel_rfl
set_option maxRecDepth 100000 in
theorem fs4_p : scanE fs4 = ([], 2, 2) := by kernel_rfl
theorem scan_at (l : List UInt8) (s : ByteArray) (hs : s = str l) (hl : l.length ≤ 1000000) (w : World) (hE : Env w) (T : List Tok) (n : Nat) (e p : Int) (hn : T.length = n) (hR : scanE l = (T, e, p)) :
    Calls Tryd.prog 10 #[.string s] w fun r w' => ∃ A c, r = .returned (.tuple #[.slice A n c, .int .i64 e, .int .i64 p]) ∧ Toks w' (.slice A n c) T ∧ Below w.heap.size w w' := by
  subst hs hn
  refine (pscan_c (str l) (by rw [str_size]; exact hl) w hE).mono ?_
  rintro r w' h
  unfold ScanPost at h
  rw [str_data, hR] at h
  obtain ⟨v, rfl, hv, hb⟩ := h
  obtain ⟨A, c, rfl, hc⟩ := Toks.shape hv
  exact ⟨A, c, rfl, hv, hb⟩
theorem want_fs (w : World) : Toks (w.alloc (.cells #[.int .i64 1, .string ⟨#[120, 49]⟩, .int .i64 0, .int .i64 0, .int .i64 3, .string ⟨#[60, 61]⟩, .int .i64 0, .int .i64 3, .int .i64 2, .string ⟨#[49, 48]⟩, .int .i64 10, .int .i64 6] 31)) (.slice (some ⟨w.heap.size, 0, none⟩) 3 3) fsT := by
  have h : fsT.flatMap Tok.cells = [.int .i64 1, .string ⟨#[120, 49]⟩, .int .i64 0, .int .i64 0, .int .i64 3, .string ⟨#[60, 61]⟩, .int .i64 0, .int .i64 3, .int .i64 2, .string ⟨#[49, 48]⟩, .int .i64 10, .int .i64 6] := by kernel_rfl
  show SlN _ _ 4 3 (fsT.flatMap Tok.cells)
  rw [h]
  exact sl_lit w _ 31 4 3 3 rfl (Nat.le_refl _)
theorem fs_shw : shwE fsT = [120, 49, 32, 60, 61, 32, 49, 48] := by kernel_rfl
theorem fs_tail : (tailE fsT).length ≤ 100000000 := by decide
theorem fx_same (w : World) (v u : Value) (hv : Toks w v fsT) (hu : Toks w u fsT) :
    Calls Tryd.prog 12 #[v, u, .bool true] w fun e w' => e = .returned (.bool true) ∧ Below w.heap.size w w' := by
  have := rsameT_c fsT fsT (by decide) (by decide) v u true w hv hu
  rw [sameT_refl] at this
  exact this
theorem fx_show (w : World) (v : Value) (hv : Toks w v fsT) :
    Calls Tryd.prog 18 #[v] w fun e w' => e = .returned (.string ⟨#[120, 49, 32, 60, 61, 32, 49, 48]⟩) ∧ Below w.heap.size w w' := by
  have := show_c fsT (by decide) fs_tail v w hv
  rw [fs_shw] at this
  exact this
theorem fx_name (s : ByteArray) (l : List UInt8) (hs : s = str l) (hl : l.length ≤ 1000) (b : Bool) (hb : nameE l = b) (w : World) (hE : Env w) :
    Calls Tryd.prog 13 #[.string s] w fun e w' => e = .returned (.bool b) ∧ Below w.heap.size w w' := by
  subst hs hb
  exact name_c l (by omega) w hE
theorem fx_kept (w : World) (hE : Env w) :
    Calls Tryd.prog 15 #[.string ⟨#[115, 102, 101, 110, 99, 101]⟩] w fun e w' => e = .returned (.bool true) ∧ Below w.heap.size w w' := by
  have := Kept_c [115, 102, 101, 110, 99, 101] (by decide) w hE
  rw [show keptE [115, 102, 101, 110, 99, 101] = true by decide] at this
  exact this
theorem fx_is1 (w : World) (v : Value) (hv : Toks w v fsT) :
    Calls Tryd.prog 20 #[v, .int .i64 1, .string ⟨#[60, 61]⟩] w fun e w' => e = .returned (.bool true) ∧ w = w' := by
  have := is_c fsT (by decide) 1 [60, 61] v w hv
  unfold IsPost at this
  rw [show isE fsT 1 [60, 61] = true by decide] at this
  exact this
theorem fx_is2 (w : World) (v : Value) (hv : Toks w v fsT) :
    Calls Tryd.prog 20 #[v, .int .i64 2, .string ⟨#[49, 48]⟩] w fun e w' => e = .returned (.bool false) ∧ w = w' := by
  have := is_c fsT (by decide) 2 [49, 48] v w hv
  unfold IsPost at this
  rw [show isE fsT 2 [49, 48] = false by decide] at this
  exact this
theorem fx_pl1 (w : World) (v : Value) (hv : Toks w v fsT) :
    Calls Tryd.prog 22 #[v, .int .i64 3] w fun e w' => e = .returned (.int .i64 8) ∧ Below w.heap.size w w' := by
  have := place_c fsT (by decide) 3 v w hv
  unfold PlacePostD at this
  rw [show placeE fsT 3 = 8 by decide +kernel] at this
  exact this
theorem fx_pl2 (w : World) :
    Calls Tryd.prog 22 #[.slice none 0 0, .int .i64 0] w fun e w' => e = .returned (.int .i64 0) ∧ Below w.heap.size w w' := by
  have := place_c [] (by decide) 0 (.slice none 0 0) w (Sl.nil _ _ _)
  unfold PlacePostD at this
  rw [show placeE [] 0 = 0 by decide +kernel] at this
  exact this
set_option maxRecDepth 100000 in
set_option maxHeartbeats 8000000 in
theorem fixed_c (w : World) (hE : Env w) : Calls Tryd.prog 17 #[] w fun e w' => e = .returned (.bool true) ∧ Below w.heap.size w w' := by
  have HE := Lib.hid hE
  clear hE
  go_enter Tryd.func17, Tryd.ntmps17
  go_upto_region 2 with (first
    | (go_at_call 10; refine (scan_at fs1 _ rfl (by decide) _ HE.out fsT 3 0 0 rfl fs1_p).mono ?_; rintro e p1 ⟨A1, c1, rfl, hn1, hbp1⟩))
  have HB1 := Lib.hid hbp1
  have HT1 := Lib.hid hn1
  clear hbp1 hn1
  go_upto_region 3 with (first
    | (go_at_call 10; refine (scan_at fs2 _ rfl (by decide) _ (HE.out.below HB1.out) [] 0 3 2 rfl fs2_p).mono ?_; rintro e p2 ⟨A2, c2, rfl, hn2, hbp2⟩))
  have HB2 := Lib.hid (bt HB1.out hbp2)
  have HT2 := Lib.hid (SlN.below HT1.out hbp2)
  clear hbp2 hn2 HT1 HB1
  go_upto_region 4 with (first
    | (go_at_call 10; refine (scan_at fs3 _ rfl (by decide) _ (HE.out.below HB2.out) [] 0 4 0 rfl fs3_p).mono ?_; rintro e p3 ⟨A3, c3, rfl, hn3, hbp3⟩))
  have HB3 := Lib.hid (bt HB2.out hbp3)
  have HT3 := Lib.hid (SlN.below HT2.out hbp3)
  clear hbp3 hn3 HT2 HB2
  go_upto_region 5 with (first
    | (go_at_call 10; refine (scan_at fs4 _ rfl (by decide) _ (HE.out.below HB3.out) [] 0 2 2 rfl fs4_p).mono ?_; rintro e p4 ⟨A4, c4, rfl, hn4, hbp4⟩))
  have HB4 := Lib.hid (bt HB3.out hbp4)
  have HT4 := Lib.hid (SlN.below HT3.out hbp4)
  have HW4 := Lib.hid (want_fs p4)
  clear hbp4 hn4 HT3 HB3
  have HLU : Hid (∀ u, Below p4.heap.size p4 u → Toks u (.slice A1 3 c1) fsT) := fun u hu => SlN.below HT4.out hu
  have HEU : Hid (∀ u, Below p4.heap.size p4 u → Env u) := fun u hu => HE.out.below (bt HB4.out hu)
  clear HT4 HE
  go_wp2_with (first
    | (go_at_call 12; refine (fx_same _ _ _ (HLU.out _ (al _ _)) HW4.out).mono ?_; rintro e w8 ⟨rfl, hb8⟩; have h8 : Below p4.heap.size p4 w8 := bt (al _ _) hb8; clear hb8 HW4)
    | (go_at_call 18; refine (fx_show _ _ (HLU.out _ h8)).mono ?_; rintro e w9 ⟨rfl, hb9⟩; have h9 := bt h8 hb9; clear hb9 h8)
    | (go_at_call_of 13 (Value.string ⟨#[97, 95, 49]⟩); refine (fx_name _ [97, 95, 49] rfl (by decide) true (by decide) _ (HEU.out _ h9)).mono ?_; rintro e w10 ⟨rfl, hb10⟩; have h10 := bt h9 hb10; clear hb10 h9)
    | (go_at_call_of 13 (Value.string ⟨#[108, 111, 111, 112]⟩); refine (fx_name _ [108, 111, 111, 112] rfl (by decide) false (by decide) _ (HEU.out _ h10)).mono ?_; rintro e w11 ⟨rfl, hb11⟩; have h11 := bt h10 hb11; clear hb11 h10)
    | (go_at_call_of 13 (Value.string ⟨#[49, 97]⟩); refine (fx_name _ [49, 97] rfl (by decide) false (by decide) _ (HEU.out _ h11)).mono ?_; rintro e w12 ⟨rfl, hb12⟩; have h12 := bt h11 hb12; clear hb12 h11)
    | (go_at_call 15; refine (fx_kept _ (HEU.out _ h12)).mono ?_; rintro e w13 ⟨rfl, hb13⟩; have h13 := bt h12 hb13; clear hb13 h12)
    | (go_at_call_of 20 (Value.string ⟨#[60, 61]⟩); refine (fx_is1 _ _ (HLU.out _ h13)).mono ?_; rintro e w14 ⟨rfl, rfl⟩)
    | (go_at_call_of 20 (Value.string ⟨#[49, 48]⟩); refine (fx_is2 _ _ (HLU.out _ h13)).mono ?_; rintro e w15 ⟨rfl, rfl⟩)
    | (go_at_call_of 22 (Value.int .i64 3); refine (fx_pl1 _ _ (HLU.out _ h13)).mono ?_; rintro e w16 ⟨rfl, hb16⟩; have h16 := bt h13 hb16; clear hb16 h13)
    | (go_at_call_of 22 (Value.int .i64 0); refine (fx_pl2 _).mono ?_; rintro e w17 ⟨rfl, hb17⟩; have h17 := bt h16 hb17; clear hb17 h16))
  go_ret
  exact ⟨rfl, bt HB4.out h17⟩
end Go.Proofs.YtknfimagjkndnaaDoor

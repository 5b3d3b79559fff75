/- The fixed calls on schedules: the statements' walk. -/
import Derived.Test.YtimekgplallkiaaDoorSchV
import Derived.Test.YtimekgplallkiaaDoorSchU
import Derived.Test.YtimekgplallkiaaDoorSchFcm
import Derived.Test.YtimekgplallkiaaDoorSchQ
import Derived.Test.YtimekgplallkiaaDoorSchF
import Derived.Test.YtimekgplallkiaaDoorSchH
import Derived.Test.YtimekgplallkiaaDoorSchB
namespace Go.Proofs.YtimekgplallkiaaDoor
open Go Go.RowKit
set_option linter.unusedVariables false
def fsS : List UInt8 := [115, 116, 101, 112, 32, 48, 10, 111, 117, 116, 32, 48, 32, 49, 10, 99, 114, 97, 115, 104, 32, 49, 32, 48, 10, 115, 116, 101, 112, 32, 50, 10]
def fs2 : List UInt8 := [115, 116, 101, 112, 32, 48, 10, 115, 116, 101, 112, 32, 48, 48, 10]
def fs3 : List UInt8 := [99, 114, 97, 115, 104, 10, 115, 116, 101, 112, 32, 49]
def fs4 : List UInt8 := [115, 116, 101, 112, 32, 49, 48, 48, 10]
def fsL : List Pk := [⟨1, 0, 0, []⟩, ⟨2, 0, 1, []⟩, ⟨3, 0, 0, [1, 0]⟩, ⟨1, 2, 0, []⟩]
set_option maxRecDepth 100000 in
theorem fsS_p : parseK fsS = (fsL, 0, 0) := by kernel_rfl
set_option maxRecDepth 100000 in
theorem fs2_p : parseK fs2 = ([], 8, 1) := by kernel_rfl
set_option maxRecDepth 100000 in
theorem fs3_p : parseK fs3 = ([], 8, 1) := by kernel_rfl
set_option maxRecDepth 100000 in
theorem fs4_p : parseK fs4 = ([], 8, 0) := by kernel_rfl
set_option maxRecDepth 100000 in
theorem fsS_s : showK fsL = fsS := by kernel_rfl
theorem fs0_s : showK [zeroK] = [] := by kernel_rfl
theorem fsL_c : cutsK fsL = [fsL.take 2, fsL.drop 3] := by kernel_rfl
theorem fs_small : ∀ x ∈ fsL, x.cut.length ≤ 25 := by decide
theorem fs_small1 : ∀ x ∈ fsL.drop 1, x.cut.length ≤ 25 := by decide
/-- a text's picks, as the statements ask for them -/
theorem parse_at (l : List UInt8) (s : ByteArray) (hs : s = str l) (hl : l.length ≤ 1000000) (w : World) (hE : Env w) (P : List Pk) (n : Nat) (e p : Int) (hn : P.length = n) (hR : parseK l = (P, e, p)) :
    Calls Tryd.prog 21 #[.string s] w fun r w' => ∃ A c, r = .returned (.tuple #[.slice A n c, .int .i64 e, .int .i64 p]) ∧ Pks w' (.slice A n c) P ∧ Below w.heap.size w w' := by
  subst hs hn
  refine (pparse_c l hl w hE).mono ?_
  rintro r w' h
  unfold ParPost at h
  rw [hR] at h
  obtain ⟨v, rfl, hv, hb⟩ := h
  obtain ⟨A, c, rfl, hc⟩ := hv.shape
  exact ⟨A, c, rfl, hv, hb⟩
theorem want_fs (w : World) : Pks ((w.alloc (.cells #[.int .i64 1, .int .i64 0] 3)).alloc (.cells #[.int .i64 1, .int .i64 0, .int .i64 0, .slice none 0 0, .int .i64 2, .int .i64 0, .int .i64 1, .slice none 0 0, .int .i64 3, .int .i64 0, .int .i64 0, .slice (some ⟨w.heap.size, 0, none⟩) 2 2, .int .i64 1, .int .i64 2, .int .i64 0, .slice none 0 0] 27)) (.slice (some ⟨w.heap.size + 1, 0, none⟩) 4 4) fsL := by
  refine ⟨[⟨⟨1, 0, 0, []⟩, .slice none 0 0⟩, ⟨⟨2, 0, 1, []⟩, .slice none 0 0⟩, ⟨⟨3, 0, 0, [1, 0]⟩, .slice (some ⟨w.heap.size, 0, none⟩) 2 2⟩, ⟨⟨1, 2, 0, []⟩, .slice none 0 0⟩], rfl, ?_, ?_⟩
  · have h := sl_lit (w.alloc (.cells #[.int .i64 1, .int .i64 0] 3)) [.int .i64 1, .int .i64 0, .int .i64 0, .slice none 0 0, .int .i64 2, .int .i64 0, .int .i64 1, .slice none 0 0, .int .i64 3, .int .i64 0, .int .i64 0, .slice (some ⟨w.heap.size, 0, none⟩) 2 2, .int .i64 1, .int .i64 2, .int .i64 0, .slice none 0 0] 27 4 4 4 rfl (Nat.le_refl _)
    rw [World.size_alloc] at h
    exact h
  · intro x hx
    have hz : Zs (w.alloc (.cells #[.int .i64 1, .int .i64 0] 3)) (.slice (some ⟨w.heap.size, 0, none⟩) 2 2) [1, 0] := sl_lit w [.int .i64 1, .int .i64 0] 3 1 2 2 rfl (Nat.le_refl _)
    simp only [List.mem_cons, List.not_mem_nil, or_false] at hx
    rcases hx with rfl | rfl | rfl | rfl
    · exact zs_nil _
    · exact zs_nil _
    · exact SlN.below hz (al _ _)
    · exact zs_nil _
theorem prs_two {w : World} {v u : Value} {a b : List Pk} (hv : Pks w v a) (hu : Pks w u b) : PRs (w.alloc (.cells #[v, u] 22)) (.slice (some ⟨w.heap.size, 0, none⟩) 2 2) [a, b] := by
  refine ⟨[⟨v, a⟩, ⟨u, b⟩], rfl, sl_lit w [v, u] 22 1 2 2 rfl (Nat.le_refl _), fun x hx => ?_⟩
  simp only [List.mem_cons, List.not_mem_nil, or_false] at hx
  rcases hx with rfl | rfl
  · exact hv.below (al _ _)
  · exact hu.below (al _ _)
theorem fx_show (w : World) (v : Value) (hv : Pks w v fsL) (hE : Env w) : Calls Tryd.prog 11 #[v] w fun e w' => e = .returned (.string ⟨#[115, 116, 101, 112, 32, 48, 10, 111, 117, 116, 32, 48, 32, 49, 10, 99, 114, 97, 115, 104, 32, 49, 32, 48, 10, 115, 116, 101, 112, 32, 50, 10]⟩) ∧ Below w.heap.size w w' := by
  have := pShow_c fsL (by decide) (small_up fs_small) v w hv hE
  rwa [fsS_s] at this
theorem fx_show0 (w : World) (hE : Env w) : Calls Tryd.prog 11 #[.slice (some ⟨w.heap.size, 0, none⟩) 1 1] (w.alloc (.cells #[.int .i64 0, .int .i64 0, .int .i64 0, .slice none 0 0] 27)) fun e w' => e = .returned (.string ⟨#[]⟩) ∧ Below w.heap.size w w' := by
  have hp : Pks (w.alloc (.cells #[.int .i64 0, .int .i64 0, .int .i64 0, .slice none 0 0] 27)) (.slice (some ⟨w.heap.size, 0, none⟩) 1 1) [zeroK] :=
    ⟨[⟨zeroK, .slice none 0 0⟩], rfl, sl_pick w ⟨zeroK, .slice none 0 0⟩, fun x hx => by simp only [List.mem_cons, List.not_mem_nil, or_false] at hx; subst hx; exact zs_nil _⟩
  refine (pShow_c [zeroK] (by decide) (by decide) _ _ hp (hE.below (al _ _))).mono ?_
  rintro e w' ⟨rfl, hb⟩
  exact ⟨by rw [fs0_s]; rfl, (al w _).trans (hb.mono (al w _).size)⟩
theorem fx_picks (w : World) (v u : Value) (hv : Pks w v fsL) (hu : Pks w u fsL) : Calls Tryd.prog 19 #[v, u] w fun e w' => e = .returned (.bool true) ∧ Below w.heap.size w w' := by
  refine (rPicks_c fsL fsL (by decide) (by decide) (small_up fs_small) (small_up fs_small) v u w hv hu).mono ?_
  rintro e w' ⟨rfl, q, rfl⟩
  exact ⟨by simp, bdrN (Below.refl _ _) _⟩
theorem fx_cuts (w : World) (v : Value) (hv : Pks w v fsL) : Calls Tryd.prog 16 #[v] w fun e w' => ∃ A c, e = .returned (.slice A 2 c) ∧ PRs w' (.slice A 2 c) [fsL.take 2, fsL.drop 3] ∧ Below w.heap.size w w' := by
  have := pCuts_c fsL (by decide) (small_mid fs_small) v w hv
  unfold CutPost at this
  rw [fsL_c] at this
  exact this
theorem fx_rows (w : World) (v u : Value) (hv : PRs w v [fsL.take 2, fsL.drop 3]) (hu : PRs w u [fsL.take 2, fsL.drop 3]) : Calls Tryd.prog 15 #[v, u] w fun e w' => e = .returned (.bool true) ∧ Below w.heap.size w w' := by
  have hok : RowsOk [fsL.take 2, fsL.drop 3] := ⟨by decide, by decide⟩
  refine (rRows_c _ _ hok hok v u w hv hu).mono ?_
  rintro e w' ⟨rfl, q, rfl⟩
  exact ⟨by simp, bdrN (Below.refl _ _) _⟩
theorem fx_crash (w : World) (v : Value) (hv : Pks w v fsL) : Calls Tryd.prog 13 #[v] w fun e w' => e = .returned (.int .i64 1) ∧ Below w.heap.size w w' :=
  pCrashes_c fsL (by decide) (small_mid fs_small) v w hv
theorem fx_right1 (w : World) : Calls Tryd.prog 9 #[.agg #[.int .i64 2, .int .i64 0, .int .i64 1, .slice none 0 0]] w fun e w' => e = .returned (.bool true) ∧ Below w.heap.size w w' :=
  pRight_c ⟨2, 0, 1, []⟩ (.slice none 0 0) w (by decide) (zs_nil _)
theorem fx_right2 (w : World) : Calls Tryd.prog 9 #[.agg #[.int .i64 1, .int .i64 0, .int .i64 1, .slice none 0 0]] w fun e w' => e = .returned (.bool false) ∧ Below w.heap.size w w' :=
  pRight_c ⟨1, 0, 1, []⟩ (.slice none 0 0) w (by decide) (zs_nil _)
theorem fx_same1 (w : World) (v u : Value) (hv : Pks w v fsL) (hu : Pks w u fsL) : Calls Tryd.prog 18 #[v, u] w fun e w' => e = .returned (.bool true) ∧ Below w.heap.size w w' := by
  have := pSame_c fsL fsL (by decide) (by decide) (small_up fs_small) (small_up fs_small) v u w hv hu
  rwa [decide_eq_true rfl] at this
theorem fx_same2 (w : World) (v u : Value) (hv : Pks w v fsL) (hu : Pks w u (fsL.drop 1)) : Calls Tryd.prog 18 #[v, u] w fun e w' => e = .returned (.bool false) ∧ Below w.heap.size w w' := by
  have := pSame_c fsL (fsL.drop 1) (by decide) (by decide) (small_up fs_small) (small_up fs_small1) v u w hv hu
  rwa [decide_eq_false (by decide)] at this
def QS (u : World) (b : Nat) : Prop := u.cell? ⟨b, 4, none⟩ = some (.int .i64 2) ∧ u.cell? ⟨b, 5, none⟩ = some (.int .i64 0) ∧ u.cell? ⟨b, 6, none⟩ = some (.int .i64 1) ∧ u.cell? ⟨b, 7, none⟩ = some (.slice none 0 0)
theorem QS.below {u u' : World} {b : Nat} (h : QS u b) (hb : Below u.heap.size u u') : QS u' b := by
  have hlt := World.block_lt_of_cell? u _ h.1
  exact ⟨(hb.cell (p := ⟨b, 4, none⟩) hlt).trans h.1, (hb.cell (p := ⟨b, 5, none⟩) hlt).trans h.2.1, (hb.cell (p := ⟨b, 6, none⟩) hlt).trans h.2.2.1, (hb.cell (p := ⟨b, 7, none⟩) hlt).trans h.2.2.2⟩
theorem want_qs (w : World) : QS ((w.alloc (.cells #[.int .i64 1, .int .i64 0] 3)).alloc (.cells #[.int .i64 1, .int .i64 0, .int .i64 0, .slice none 0 0, .int .i64 2, .int .i64 0, .int .i64 1, .slice none 0 0, .int .i64 3, .int .i64 0, .int .i64 0, .slice (some ⟨w.heap.size, 0, none⟩) 2 2, .int .i64 1, .int .i64 2, .int .i64 0, .slice none 0 0] 27)) (w.heap.size + 1) := by
  have h := fun j u h => cells_new (w.alloc (.cells #[.int .i64 1, .int .i64 0] 3)) #[.int .i64 1, .int .i64 0, .int .i64 0, .slice none 0 0, .int .i64 2, .int .i64 0, .int .i64 1, .slice none 0 0, .int .i64 3, .int .i64 0, .int .i64 0, .slice (some ⟨w.heap.size, 0, none⟩) 2 2, .int .i64 1, .int .i64 2, .int .i64 0, .slice none 0 0] 27 j u h
  rw [World.size_alloc] at h
  exact ⟨h 4 _ rfl, h 5 _ rfl, h 6 _ rfl, h 7 _ rfl⟩
set_option maxRecDepth 100000 in
set_option maxHeartbeats 8000000 in
theorem fixed_c (w : World) (hE : Env w) : Calls Tryd.prog 20 #[] w fun e w' => e = .returned (.bool true) ∧ Below w.heap.size w w' := by
  have HE := Lib.hid hE
  have HW := Lib.hid (want_fs w)
  have HQ := Lib.hid (want_qs w)
  have HBW : Hid (Below w.heap.size w ((w.alloc (.cells #[.int .i64 1, .int .i64 0] 3)).alloc (.cells #[.int .i64 1, .int .i64 0, .int .i64 0, .slice none 0 0, .int .i64 2, .int .i64 0, .int .i64 1, .slice none 0 0, .int .i64 3, .int .i64 0, .int .i64 0, .slice (some ⟨w.heap.size, 0, none⟩) 2 2, .int .i64 1, .int .i64 2, .int .i64 0, .slice none 0 0] 27))) := balloc (al w _) _
  clear hE
  go_enter Tryd.func20, Tryd.ntmps20
  go_upto_region 2 with fail
  generalize World.alloc _ _ = w1 at HW HQ HBW ⊢
  have HE1 := Lib.hid (HE.out.below HBW.out)
  go_upto_region 4 with (go_at_call 21; refine (parse_at fsS _ rfl (by decide) _ HE1.out fsL 4 0 0 rfl fsS_p).mono ?_; rintro e w2 ⟨A2, c2, rfl, hp2, hb2⟩)
  have HW2 := Lib.hid (HW.out.below hb2)
  have HB2 := Lib.hid (bt HBW.out hb2)
  have HM2 := Lib.hid hp2
  have HE2 := Lib.hid (HE1.out.below hb2)
  have HQ2 := Lib.hid (HQ.out.below hb2)
  clear hp2 hb2 HQ HW HBW HE1
  go_upto_region 5 with (go_at_call 21; refine (parse_at fs2 _ rfl (by decide) _ HE2.out [] 0 8 1 rfl fs2_p).mono ?_; rintro e w3 ⟨A3, c3, rfl, hp3, hb3⟩)
  have HW3 := Lib.hid (HW2.out.below hb3)
  have HB3 := Lib.hid (bt HB2.out hb3)
  have HM3 := Lib.hid (HM2.out.below hb3)
  have HE3 := Lib.hid (HE2.out.below hb3)
  have HQ3 := Lib.hid (HQ2.out.below hb3)
  clear hp3 hb3 HQ2 HW2 HB2 HM2 HE2
  go_upto_region 6 with (go_at_call 21; refine (parse_at fs3 _ rfl (by decide) _ HE3.out [] 0 8 1 rfl fs3_p).mono ?_; rintro e w4 ⟨A4, c4, rfl, hp4, hb4⟩)
  have HW4 := Lib.hid (HW3.out.below hb4)
  have HB4 := Lib.hid (bt HB3.out hb4)
  have HM4 := Lib.hid (HM3.out.below hb4)
  have HE4 := Lib.hid (HE3.out.below hb4)
  have HQ4 := Lib.hid (HQ3.out.below hb4)
  clear hp4 hb4 HQ3 HW3 HB3 HM3 HE3
  go_upto_region 7 with (go_at_call 21; refine (parse_at fs4 _ rfl (by decide) _ HE4.out [] 0 8 0 rfl fs4_p).mono ?_; rintro e w5 ⟨A5, c5, rfl, hp5, hb5⟩)
  have HW5 := Lib.hid (HW4.out.below hb5)
  have HB5 := Lib.hid (bt HB4.out hb5)
  have HM5 := Lib.hid (HM4.out.below hb5)
  have HE5 := Lib.hid (HE4.out.below hb5)
  have HQ5 := Lib.hid (HQ4.out.below hb5)
  clear hp5 hb5 HQ4 HW4 HB4 HM4 HE4
  go_upto_region 8 with (go_at_call 16; refine (fx_cuts _ _ HW5.out).mono ?_; rintro e w6 ⟨A6, c6, rfl, hr6, hb6⟩)
  have HB6 := Lib.hid (bt HB5.out hb6)
  have HLU : Hid (∀ u, Below w6.heap.size w6 u → Pks u (.slice (some ⟨w.heap.size + 1, 0, none⟩) 4 4) fsL) := fun u hu => (HW5.out.below hb6).below hu
  have HMU : Hid (∀ u, Below w6.heap.size w6 u → Pks u (.slice A2 4 c2) fsL) := fun u hu => (HM5.out.below hb6).below hu
  have HEU : Hid (∀ u, Below w6.heap.size w6 u → Env u) := fun u hu => (HE5.out.below hb6).below hu
  have HRU : Hid (∀ u, Below w6.heap.size w6 u → PRs u (.slice A6 2 c6) [fsL.take 2, fsL.drop 3]) := fun u hu => hr6.below hu
  have HQU : Hid (∀ u, Below w6.heap.size w6 u → QS u (w.heap.size + 1)) := fun u hu => (HQ5.out.below hb6).below hu
  have hq0 := HQU.out w6 (Below.refl _ _)
  obtain ⟨q0, q1, q2, q3⟩ := hq0
  clear hr6 hb6 HE HB5 HW5 HM5 HE5 HQ5
  simp only [List.append_eq, List.cons_append, List.nil_append]
  go_region_held3 (fun w' => w'.cell? ⟨w.heap.size + 1, 4, none⟩ = some (.int .i64 2) ∧ w'.cell? ⟨w.heap.size + 1, 5, none⟩ = some (.int .i64 0) ∧ w'.cell? ⟨w.heap.size + 1, 6, none⟩ = some (.int .i64 1) ∧ w'.cell? ⟨w.heap.size + 1, 7, none⟩ = some (.slice none 0 0))
    (exact HQU.out _ (by repeat (first | exact Below.refl _ _ | assumption | exact al _ _ | refine balloc ?_ _ | refine bdrN ?_ _ | refine bdr ?_)))
    (first
    | (go_at_call 11; (with_reducible refine (fx_show _ _ (HLU.out _ (by repeat (first | exact Below.refl _ _ | assumption | refine bdrN ?_ _ | refine bdr ?_))) (HEU.out _ (by repeat (first | exact Below.refl _ _ | assumption | refine bdrN ?_ _ | refine bdr ?_)))).mono ?_); rintro e w7 ⟨rfl, hb7⟩; have h7 : Below w6.heap.size w6 w7 := bt (by repeat (first | exact Below.refl _ _ | assumption | refine bdrN ?_ _ | refine bdr ?_)) hb7; clear hb7)
    | (go_at_call 19; (with_reducible refine (fx_picks _ _ _ (HMU.out _ h7) (HLU.out _ h7)).mono ?_); rintro e w8 ⟨rfl, hb8⟩; have h8 := bt h7 hb8; clear hb8 h7)
    | (go_at_call 11; (with_reducible refine (fx_show0 w8 (HEU.out _ h8)).mono ?_); rintro e w9 ⟨rfl, hb9⟩; have h9 := bt h8 hb9; clear hb9 h8)
    | (go_at_call 15; (with_reducible refine (fx_rows _ _ _ (HRU.out _ (balloc h9 _)) (prs_two (pks_sub (HLU.out _ h9) 0 2 (by decide) (by decide)) (pks_sub (HLU.out _ h9) 3 4 (by decide) (by decide)))).mono ?_); rintro e w10 ⟨rfl, hb10⟩; have h10 := bt h9 (bt (al _ _) hb10); clear hb10 h9)
    | (go_at_call 13; (with_reducible refine (fx_crash _ _ (HLU.out _ h10)).mono ?_); rintro e w11 ⟨rfl, hb11⟩; have h11 := bt h10 hb11; clear hb11 h10)
    | (go_at_call 9; (with_reducible refine (fx_right1 _).mono ?_); rintro e w12 ⟨rfl, hb12⟩; have h12 := bt h11 hb12; clear hb12 h11)
    | (go_at_call 9; (with_reducible refine (fx_right2 _).mono ?_); rintro e w13 ⟨rfl, hb13⟩; have h13 := bt h12 hb13; clear hb13 h12)
    | (go_at_call 18; (with_reducible refine (fx_same1 _ _ _ (HLU.out _ h13) (HMU.out _ h13)).mono ?_); rintro e w14 ⟨rfl, hb14⟩; have h14 := bt h13 hb14; clear hb14 h13)
    | (go_at_call 18; (with_reducible refine (fx_same2 _ _ _ (HLU.out _ h14) (pks_sub (HLU.out _ h14) 1 4 (by decide) (by decide))).mono ?_); rintro e w15 ⟨rfl, hb15⟩; have h15 := bt h14 hb15; clear hb15 h14))
  all_goals
    go_wp2_with fail
    go_ret
    exact ⟨rfl, bt HB6.out h15⟩
end Go.Proofs.YtimekgplallkiaaDoor

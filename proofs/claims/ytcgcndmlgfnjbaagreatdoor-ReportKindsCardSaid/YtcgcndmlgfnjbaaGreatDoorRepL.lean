/- The verdict that a text may be: the program's walk. -/
import Derived.Test.YtcgcndmlgfnjbaaGreatDoorRepJ1
import Derived.Test.YtcgcndmlgfnjbaaGreatDoorSchQ
import Derived.Deep.RegionHeld3
import Derived.Deep.AppendLies
namespace Go.Proofs.YtcgcndmlgfnjbaaGreatDoor
open Go Go.RowKit
set_option linter.unusedVariables false
/-- the verdict that a line's words and the rest may be -/
def readL (f : List UInt8 → Int) (l : List (List UInt8)) (rest : List UInt8) : Vd :=
  if wordN l 0 = wError then ⟨1, numN l 1, numN l 3, 0, 0, zeroE, []⟩
  else if wordN l 0 = wSafe then ⟨2, 0, 0, numN l 1, numN l 2, zeroE, []⟩
  else if wordN l 0 = wViol then ⟨3, 0, 0, 0, 0, ⟨f (wordN l 1), numN l 2, numN l 3, (l.drop 4).map fun x => (numE x).1⟩, (parseK rest).1⟩
  else if wordN l 0 = wBudget then ⟨4, 0, 0, 0, 0, zeroE, []⟩
  else zeroV
theorem read_is (f : List UInt8 → Int) (s : List UInt8) : readV f s = readL f (splitK (cutN s).1) (cutN s).2 := rfl
def RdPost (v : Vd) (w : World) (e : Ending) (w' : World) : Prop := ∃ cv sv, e = .returned (vdV v cv sv) ∧ Off (Old w.heap.size) w' (fun u => VdOk u v cv sv) ∧ VdNums v ∧ Below w.heap.size w w'
theorem pcut_c (s : List UInt8) (hs : s.length ≤ 1000000) (w : World) (hE : Env w) :
    Calls Tryz.prog 60 #[.string (str s), .string ⟨#[10]⟩] w fun e w' => (∃ b, e = .returned (.tuple #[.string (str (cutN s).1), .string (str (cutN s).2), .bool b])) ∧ Below w.heap.size w w' := by
  obtain ⟨m, hm⟩ := hE.mlen
  have h := Tryz.strings_Cut (str s) ⟨#[10]⟩ m w (by rw [str_size]; omega) hm
  rw [str_data, show (⟨#[10]⟩ : ByteArray).data.toList = [10] from rfl, (cut_is s).1, (cut_is s).2] at h
  refine h.mono ?_
  rintro e w' ⟨rfl, q, rfl⟩
  exact ⟨⟨_, rfl⟩, bdrN (Below.refl _ _) _⟩
/-- a verdict laid over another one -/
theorem VdBox.put {w : World} {q : Nat} {v0 : Vd} {c0 s0 : Value} (h : VdBox w q v0 c0 s0) (v : Vd) (cv sv : Value) : VdBox ((((((((((w.setCell ⟨q, 0, none⟩ (.int .i64 v.kind)).setCell ⟨q, 1, none⟩ (.int .i64 v.e)).setCell ⟨q, 2, none⟩ (.int .i64 v.pos)).setCell ⟨q, 3, none⟩ (.int .i64 v.paths)).setCell ⟨q, 4, none⟩ (.int .i64 v.ends)).setCell ⟨q, 5, none⟩ (.int .i64 v.bad.kind)).setCell ⟨q, 6, none⟩ (.int .i64 v.bad.what)).setCell ⟨q, 7, none⟩ (.int .i64 v.bad.crashes)).setCell ⟨q, 8, none⟩ cv).setCell ⟨q, 9, none⟩ sv) q v cv sv := by
  refine ⟨⟨?_, ?_, ?_, ?_, ?_, ?_, ?_, ?_, ?_, ?_⟩, fun j => by simpa using h.frz j⟩
  · simp [World.cell?_setCell_other, World.cell?_setCell_same', h.at_.c0]
  · simp [World.cell?_setCell_other, World.cell?_setCell_same', h.at_.c1]
  · simp [World.cell?_setCell_other, World.cell?_setCell_same', h.at_.c2]
  · simp [World.cell?_setCell_other, World.cell?_setCell_same', h.at_.c3]
  · simp [World.cell?_setCell_other, World.cell?_setCell_same', h.at_.c4]
  · simp [World.cell?_setCell_other, World.cell?_setCell_same', h.at_.c5]
  · simp [World.cell?_setCell_other, World.cell?_setCell_same', h.at_.c6]
  · simp [World.cell?_setCell_other, World.cell?_setCell_same', h.at_.c7]
  · simp [World.cell?_setCell_other, World.cell?_setCell_same', h.at_.c8]
  · simp [World.cell?_setCell_other, World.cell?_setCell_same', h.at_.c9]
/-- beside it -/
theorem VdBox.aside {w : World} {q r : Nat} {v0 : Vd} {c0 s0 : Value} (h : VdBox w r v0 c0 s0) (hne : ¬ r = q) (v : Vd) (cv sv : Value) : VdBox ((((((((((w.setCell ⟨q, 0, none⟩ (.int .i64 v.kind)).setCell ⟨q, 1, none⟩ (.int .i64 v.e)).setCell ⟨q, 2, none⟩ (.int .i64 v.pos)).setCell ⟨q, 3, none⟩ (.int .i64 v.paths)).setCell ⟨q, 4, none⟩ (.int .i64 v.ends)).setCell ⟨q, 5, none⟩ (.int .i64 v.bad.kind)).setCell ⟨q, 6, none⟩ (.int .i64 v.bad.what)).setCell ⟨q, 7, none⟩ (.int .i64 v.bad.crashes)).setCell ⟨q, 8, none⟩ cv).setCell ⟨q, 9, none⟩ sv) r v0 c0 s0 :=
  ⟨((((((((((h.at_.other hne).other hne).other hne).other hne).other hne).other hne).other hne).other hne).other hne).other hne), fun j => by simpa using h.frz j⟩
theorem VdBox.set0 {w : World} {b : Nat} {k e p pa en : Int} {bad : En} {sc : List Pk} {cv sv : Value} (h : VdBox w b ⟨k, e, p, pa, en, bad, sc⟩ cv sv) (x : Int) : VdBox (w.setCell ⟨b, 0, none⟩ (.int .i64 x)) b ⟨x, e, p, pa, en, bad, sc⟩ cv sv := by
  obtain ⟨⟨h0, h1, h2, h3, h4, h5, h6, h7, h8, h9⟩, hf⟩ := h
  exact ⟨⟨by simp [World.cell?_setCell_same', h0], by simpa [World.cell?_setCell_other] using h1, by simpa [World.cell?_setCell_other] using h2, by simpa [World.cell?_setCell_other] using h3, by simpa [World.cell?_setCell_other] using h4, by simpa [World.cell?_setCell_other] using h5, by simpa [World.cell?_setCell_other] using h6, by simpa [World.cell?_setCell_other] using h7, by simpa [World.cell?_setCell_other] using h8, by simpa [World.cell?_setCell_other] using h9⟩, fun j => by simpa using hf j⟩
/-- a slice in a block that does not turn -/
theorem off_blk {S : Nat → Prop} {w : World} {b c n size : Nat} {xs : List Value} (h : SlN w (.slice (some ⟨b, 0, none⟩) n c) size n xs) (hS : ¬ S b) : Off S w (fun u => SlN u (.slice (some ⟨b, 0, none⟩) n c) size n xs) := fun w' h1 h2 => by
  obtain ⟨hl, A, c', hv, hc, hf⟩ := h
  refine ⟨hl, A, c', hv, hc, fun h0 => ?_⟩
  obtain ⟨b', off, hA, hlt, hcell⟩ := hf h0
  have hb : b' = b := by
    rw [hA] at hv
    simp only [Value.slice.injEq, Option.some.injEq, Addr.mk.injEq] at hv
    exact hv.1.1.symm
  exact ⟨b', off, hA, Nat.lt_of_lt_of_le hlt h1, fun j u hj => (World.cell?_of_block (a := ⟨b', off + j, none⟩) (h2 b' hlt (by rw [hb]; exact hS))).trans (hcell j u hj)⟩
theorem off_cell {S : Nat → Prop} {w : World} {b o : Nat} {v : Value} (h : w.cell? ⟨b, o, none⟩ = some v) (hS : ¬ S b) : Off S w (fun u => u.cell? ⟨b, o, none⟩ = some v) := fun w' h1 h2 =>
  (World.cell?_of_block (a := ⟨b, o, none⟩) (h2 b (World.block_lt_of_cell? w ⟨b, o, none⟩ h) hS)).trans h
theorem VdBox.off {S : Nat → Prop} {w : World} {b : Nat} {v : Vd} {cv sv : Value} (h : VdBox w b v cv sv) (hS : ¬ S b) : Off S w (fun u => VdBox u b v cv sv) := fun w' h1 h2 => by
  have hk := h2 b h.at_.lt hS
  have e := fun j x (hc : w.cell? ⟨b, j, none⟩ = some x) => (World.cell?_of_block (a := ⟨b, j, none⟩) hk).trans hc
  have hat := h.at_
  exact ⟨⟨e _ _ hat.c0, e _ _ hat.c1, e _ _ hat.c2, e _ _ hat.c3, e _ _ hat.c4, e _ _ hat.c5, e _ _ hat.c6, e _ _ hat.c7, e _ _ hat.c8, e _ _ hat.c9⟩, fun j => (World.frozen?_of_block (a := ⟨b, j, none⟩) hk).trans (h.frz j)⟩
theorem word_eq (x k : List UInt8) : ((str x).toList == k) = decide (x = k) := by
  rw [str_toList, Bool.eq_iff_iff]; simp
set_option maxRecDepth 100000 in
set_option maxHeartbeats 8000000 in
theorem read_c (s : List UInt8) (hs : s.length ≤ 1000000) (w : World) (hE : Env w) :
    Calls Tryz.prog 41 #[.string (str s)] w (RdPost (readV kindP s) w) := by
  obtain ⟨i0, hi0, hz0, hz1, hz2⟩ := info_parts info_int
  rw [read_is]
  have hc1 := cutN_len s
  have HCUT : Hid (∀ u, Env u → _) := fun u hu => pcut_c s hs u hu
  generalize (cutN s).1 = c1 at hc1 HCUT ⊢
  generalize (cutN s).2 = rest at hc1 HCUT ⊢
  have hsp := split_le c1
  have HSP : Hid (∀ u, Env u → _) := fun u hu => psplit_c c1 (by omega) u hu
  generalize splitK c1 = l at hsp HSP ⊢
  have HLX : Hid (∀ x ∈ l, x.length ≤ 1000000) := fun x hx => by have := hsp.1 x hx; omega
  have hln : l.length ≤ 1000001 := by omega
  have hrl : rest.length ≤ 1000000 := by omega
  have HLN := Lib.hid hln
  have HRL := Lib.hid hrl
  have HE := Lib.hid hE
  have HBX0 : Hid (Below w.heap.size w (w.alloc (.cells (vdA zeroV (.slice none 0 0) (.slice none 0 0)) 28))) := al w _
  have HR0 := Lib.hid (vdBox_new w zeroV (.slice none 0 0) (.slice none 0 0))
  clear hE hs hc1 hsp hln hrl
  unfold vdA zeroV zeroE at HBX0 HR0
  simp only at HBX0 HR0
  unfold RdPost
  go_enter Tryz.func41, Tryz.ntmps41
  go_upto_region 1 with fail
  generalize World.alloc _ _ = U at HBX0 HR0 ⊢
  go_upto_region 2 with (go_at_call 60; refine (HCUT.out _ (HE.out.below HBX0.out)).mono ?_; rintro e w1 ⟨⟨bb, rfl⟩, hb1⟩)
  have HB1 := Lib.hid (bt HBX0.out hb1)
  have HR1 := Lib.hid (HR0.out.below hb1)
  clear HBX0 HR0 hb1 HCUT
  go_upto_region 5 with (go_at_call 61; refine (HSP.out _ (HE.out.below HB1.out)).mono ?_; rintro e w2 ⟨rfl, hv2, hb2⟩)
  have hX1 := (HR1.out.below hb2).below (al w2 (.cells #[.slice (some ⟨w1.heap.size, 0, none⟩) l.length l.length] 43))
  have hX2 : (w2.alloc (.cells #[.slice (some ⟨w1.heap.size, 0, none⟩) l.length l.length] 43)).cell? ⟨w2.heap.size, 0, none⟩ = some (.slice (some ⟨w1.heap.size, 0, none⟩) l.length l.length) := cells_new _ _ _ _ _ rfl
  have hX3 : Strs (w2.alloc (.cells #[.slice (some ⟨w1.heap.size, 0, none⟩) l.length l.length] 43)) (.slice (some ⟨w1.heap.size, 0, none⟩) l.length l.length) l := SlN.below hv2 (al _ _)
  have hX4 : Below w.heap.size w (w2.alloc (.cells #[.slice (some ⟨w1.heap.size, 0, none⟩) l.length l.length] 43)) := balloc (bt HB1.out hb2) _
  have hX5 : w.heap.size < w2.heap.size := Nat.lt_of_lt_of_le HR1.out.at_.lt hb2.size
  have hX6 : w1.heap.size < w2.heap.size ∨ l.length = 0 := by
    obtain ⟨_, A, c, he, _, hf⟩ := hv2
    by_cases h0 : 0 < l.length
    · obtain ⟨b, off, hA, hlt, _⟩ := hf h0
      rw [hA] at he
      simp only [Value.slice.injEq, Option.some.injEq, Addr.mk.injEq] at he
      exact .inl (by omega)
    · exact .inr (by omega)
  have hsz : (w2.alloc (.cells #[.slice (some ⟨w1.heap.size, 0, none⟩) l.length l.length] 43)).heap.size = w2.heap.size + 1 := World.size_alloc _ _
  have hX7 := off_blk (S := fun k => w2.heap.size < k) hX3 (by have := hb2.size; omega)
  clear HB1 HR1 hb2 hv2 HSP
  generalize Value.slice (some ⟨w1.heap.size, 0, none⟩) l.length l.length = lv at hX1 hX2 hX3 hX4 hX7 hsz ⊢
  generalize w2.alloc _ = Y at hX1 hX2 hX3 hX4 hX7 hsz ⊢
  have hQ := vdBox_new Y zeroV (.slice none 0 0) (.slice none 0 0)
  rw [hsz] at hQ
  unfold vdA zeroV zeroE at hQ
  simp only at hQ
  have hY := al Y (.cells #[.int .i64 0, .int .i64 0, .int .i64 0, .int .i64 0, .int .i64 0, .int .i64 0, .int .i64 0, .int .i64 0, .slice none 0 0, .slice none 0 0] 28)
  have HR := Lib.hid (hX1.below hY)
  have hC := (hY.cell (p := ⟨w2.heap.size, 0, none⟩) (by simp only; omega)).trans hX2
  have hST := SlN.below hX3 hY
  have HSO := Lib.hid (hX7.below hY)
  have HBX := Lib.hid (bt hX4 hY)
  clear hX1 hX2 hX3 hX4 hX7 hsz hY
  generalize Y.alloc _ = X at HR hC hST HSO HBX hQ ⊢
  have HQ := Lib.hid hQ
  clear hQ
  have HWX : Hid (∀ u, Below X.heap.size X u → ∀ i : Nat, i ≤ 1000000000 → Calls Tryz.prog 62 #[.int .i64 i, .pointer (some ⟨w2.heap.size, 0, none⟩)] u fun e w' => e = .returned (.string (str (wordN l i))) ∧ u = w') := fun u hu i hi =>
    word_c l i hi w2.heap.size lv u ((hu.cell (p := ⟨w2.heap.size, 0, none⟩) (by have := HQ.out.at_.lt; simp only; omega)).trans hC) (SlN.below hST hu)
  have HWL : Hid (∀ i, (wordN l i).length ≤ 1000000) := fun i => by
    unfold wordN
    rw [List.getD_eq_getElem?_getD]
    by_cases hi : i < l.length
    · rw [List.getElem?_eq_getElem hi]; exact HLX.out _ (List.getElem_mem hi)
    · rw [List.getElem?_eq_none (by omega)]; simp
  have HNU : Hid (∀ u, Below X.heap.size X u → ∀ i : Nat, Calls Tryz.prog 63 #[.string (str (wordN l i))] u fun e w' => e = .returned (.int .i64 (numN l i)) ∧ Below u.heap.size u w') := fun u hu i =>
    number_c (wordN l i) (HWL.out i) u (HE.out.below (bt HBX.out hu))
  have HLT : Hid (w.heap.size < w2.heap.size) := hX5
  have HW0 : Hid (Calls Tryz.prog 62 #[.int .i64 0, .pointer (some ⟨w2.heap.size, 0, none⟩)] X fun e w' => e = .returned (.string (str (wordN l 0))) ∧ X = w') := HWX.out X (Below.refl _ _) 0 (by decide)
  clear hX6
  go_upto_block 0 with (go_at_call 62; refine (HW0.out).mono ?_; rintro e w5 ⟨rfl, rfl⟩)
  have E1 := Lib.hid (word_eq (wordN l 0) [101, 114, 114, 111, 114])
  have E2 := Lib.hid (word_eq (wordN l 0) [115, 97, 102, 101])
  have E3 := Lib.hid (word_eq (wordN l 0) [118, 105, 111, 108, 97, 116, 105, 111, 110])
  have E4 := Lib.hid (word_eq (wordN l 0) [98, 117, 100, 103, 101, 116])
  clear HW0
  generalize str (wordN l 0) = S0 at E1 E2 E3 E4 ⊢
  go_cut [9] from 21 to 80 (fun _ wx => ∃ v cv sv, VdBox wx (w2.heap.size + 1) v cv sv ∧ VdBox wx w.heap.size ⟨0, 0, 0, 0, 0, ⟨0, 0, 0, []⟩, []⟩ (.slice none 0 0) (.slice none 0 0) ∧ Off (fun k => k ≤ w.heap.size) wx (fun u => VdOk u v cv sv) ∧ VdNums v ∧ Below w.heap.size w wx ∧ readL kindP l rest = v)
  case first =>
    have HQX : Hid (∀ u, Below X.heap.size X u → VdBox u (w2.heap.size + 1) ⟨0, 0, 0, 0, 0, ⟨0, 0, 0, []⟩, []⟩ (.slice none 0 0) (.slice none 0 0) ∧ VdBox u w.heap.size ⟨0, 0, 0, 0, 0, ⟨0, 0, 0, []⟩, []⟩ (.slice none 0 0) (.slice none 0 0)) := fun u hu => ⟨HQ.out.below hu, HR.out.below hu⟩
    have HOF : Hid (Off (fun k => w2.heap.size < k) X (fun u => u.cell? ⟨w2.heap.size, 0, none⟩ = some lv ∧ Strs u lv l ∧ VdBox u w.heap.size ⟨0, 0, 0, 0, 0, ⟨0, 0, 0, []⟩, []⟩ (.slice none 0 0) (.slice none 0 0))) := fun u h1 h2 => ⟨off_cell (S := fun k => w2.heap.size < k) hC (by simp) u h1 h2, HSO.out u h1 h2, HR.out.off (S := fun k => w2.heap.size < k) (by have := HLT.out; omega) u h1 h2⟩
    clear hC hST
    by_cases h0 : wordN l 0 = wError
    · have q1 := E1.out
      rw [show decide (wordN l 0 = [101, 114, 114, 111, 114]) = true from decide_eq_true h0] at q1
      have H0 := Lib.hid h0
      clear h0 E1 E2 E3 E4
      have HW1 : Hid (∀ u, Below X.heap.size X u → Calls Tryz.prog 62 #[.int .i64 1, .pointer (some ⟨w2.heap.size, 0, none⟩)] u fun e w' => e = .returned (.string (str (wordN l 1))) ∧ u = w') := fun u hu => HWX.out u hu 1 (by decide)
      have HN1 := Lib.hid (fun u hu => HNU.out u hu 1)
      have HW3 : Hid (∀ u, Below X.heap.size X u → Calls Tryz.prog 62 #[.int .i64 3, .pointer (some ⟨w2.heap.size, 0, none⟩)] u fun e w' => e = .returned (.string (str (wordN l 3))) ∧ u = w') := fun u hu => HWX.out u hu 3 (by decide)
      have HN3 := Lib.hid (fun u hu => HNU.out u hu 3)
      have HRD : Hid (readL kindP l rest = ⟨1, numN l 1, numN l 3, 0, 0, zeroE, []⟩) := by
        show _ = _
        unfold readL
        rw [if_pos H0.out]
      clear HWX HNU
      generalize str (wordN l 1) = S1 at HW1 HN1
      generalize str (wordN l 3) = S2 at HW3 HN3
      generalize numN l 1 = n1 at HN1 HRD
      generalize numN l 3 = n2 at HN3 HRD
      go_wp2_with (first
        | (go_at_call_of 62 (Value.int .i64 1); refine (HW1.out _ (Below.refl _ _)).mono ?_; rintro e w4 ⟨rfl, rfl⟩)
        | (go_at_call_of 63 (Value.string S1); refine (HN1.out _ (Below.refl _ _)).mono ?_; rintro e w5 ⟨rfl, hb5⟩)
        | (go_at_call_of 62 (Value.int .i64 3); refine (HW3.out _ hb5).mono ?_; rintro e w6 ⟨rfl, rfl⟩)
        | (go_at_call_of 63 (Value.string S2); refine (HN3.out _ hb5).mono ?_; rintro e w7 ⟨rfl, hb6⟩; obtain ⟨g0, g1, g2, g3, g4, g5, g6, g7, g8, g9⟩ := (HQX.out _ (bt hb5 hb6)).1.at_; have f0 := (HQX.out _ (bt hb5 hb6)).1.frz 0; have f1 := (HQX.out _ (bt hb5 hb6)).1.frz 1; have f2 := (HQX.out _ (bt hb5 hb6)).1.frz 2; have f3 := (HQX.out _ (bt hb5 hb6)).1.frz 3; have f4 := (HQX.out _ (bt hb5 hb6)).1.frz 4; have f5 := (HQX.out _ (bt hb5 hb6)).1.frz 5; have f6 := (HQX.out _ (bt hb5 hb6)).1.frz 6; have f7 := (HQX.out _ (bt hb5 hb6)).1.frz 7; have f8 := (HQX.out _ (bt hb5 hb6)).1.frz 8; have f9 := (HQX.out _ (bt hb5 hb6)).1.frz 9))
      go_meet
      have hR6 := (HQX.out _ (bt hb5 hb6)).2
      have hlt := HLT.out
      exact ⟨⟨1, n1, n2, 0, 0, zeroE, []⟩, .slice none 0 0, .slice none 0 0, (HQX.out _ (bt hb5 hb6)).1.put ⟨1, n1, n2, 0, 0, zeroE, []⟩ (.slice none 0 0) (.slice none 0 0), hR6.aside (by omega) ⟨1, n1, n2, 0, 0, zeroE, []⟩ (.slice none 0 0) (.slice none 0 0), fun _ _ _ => ⟨zs_nil _, pks_nil _, by show (0 : Nat) ≤ _; omega, by show (0 : Nat) ≤ _; omega, by simp []⟩, fun n hn => by simp [zeroE] at hn, (below_set (below_set (below_set (below_set (below_set (below_set (below_set (below_set (below_set (below_set (bt HBX.out (bt hb5 hb6)) (by omega) _) (by omega) _) (by omega) _) (by omega) _) (by omega) _) (by omega) _) (by omega) _) (by omega) _) (by omega) _) (by omega) _), HRD.out⟩
    by_cases h1 : wordN l 0 = wSafe
    · have q1 := E1.out
      rw [show decide (wordN l 0 = [101, 114, 114, 111, 114]) = false from decide_eq_false h0] at q1
      have q2 := E2.out
      rw [show decide (wordN l 0 = [115, 97, 102, 101]) = true from decide_eq_true h1] at q2
      have H0 := Lib.hid h0
      have H1 := Lib.hid h1
      clear h0 h1 E1 E2 E3 E4
      have HW1 : Hid (∀ u, Below X.heap.size X u → Calls Tryz.prog 62 #[.int .i64 1, .pointer (some ⟨w2.heap.size, 0, none⟩)] u fun e w' => e = .returned (.string (str (wordN l 1))) ∧ u = w') := fun u hu => HWX.out u hu 1 (by decide)
      have HN1 := Lib.hid (fun u hu => HNU.out u hu 1)
      have HW2 : Hid (∀ u, Below X.heap.size X u → Calls Tryz.prog 62 #[.int .i64 2, .pointer (some ⟨w2.heap.size, 0, none⟩)] u fun e w' => e = .returned (.string (str (wordN l 2))) ∧ u = w') := fun u hu => HWX.out u hu 2 (by decide)
      have HN2 := Lib.hid (fun u hu => HNU.out u hu 2)
      have HRD : Hid (readL kindP l rest = ⟨2, 0, 0, numN l 1, numN l 2, zeroE, []⟩) := by
        show _ = _
        unfold readL
        rw [if_neg H0.out, if_pos H1.out]
      clear HWX HNU
      generalize str (wordN l 1) = S1 at HW1 HN1
      generalize str (wordN l 2) = S2 at HW2 HN2
      generalize numN l 1 = n1 at HN1 HRD
      generalize numN l 2 = n2 at HN2 HRD
      go_wp2_with (first
        | (go_at_call_of 62 (Value.int .i64 1); refine (HW1.out _ (Below.refl _ _)).mono ?_; rintro e w4 ⟨rfl, rfl⟩)
        | (go_at_call_of 63 (Value.string S1); refine (HN1.out _ (Below.refl _ _)).mono ?_; rintro e w5 ⟨rfl, hb5⟩)
        | (go_at_call_of 62 (Value.int .i64 2); refine (HW2.out _ hb5).mono ?_; rintro e w6 ⟨rfl, rfl⟩)
        | (go_at_call_of 63 (Value.string S2); refine (HN2.out _ hb5).mono ?_; rintro e w7 ⟨rfl, hb6⟩; obtain ⟨g0, g1, g2, g3, g4, g5, g6, g7, g8, g9⟩ := (HQX.out _ (bt hb5 hb6)).1.at_; have f0 := (HQX.out _ (bt hb5 hb6)).1.frz 0; have f1 := (HQX.out _ (bt hb5 hb6)).1.frz 1; have f2 := (HQX.out _ (bt hb5 hb6)).1.frz 2; have f3 := (HQX.out _ (bt hb5 hb6)).1.frz 3; have f4 := (HQX.out _ (bt hb5 hb6)).1.frz 4; have f5 := (HQX.out _ (bt hb5 hb6)).1.frz 5; have f6 := (HQX.out _ (bt hb5 hb6)).1.frz 6; have f7 := (HQX.out _ (bt hb5 hb6)).1.frz 7; have f8 := (HQX.out _ (bt hb5 hb6)).1.frz 8; have f9 := (HQX.out _ (bt hb5 hb6)).1.frz 9))
      go_meet
      have hR6 := (HQX.out _ (bt hb5 hb6)).2
      have hlt := HLT.out
      exact ⟨⟨2, 0, 0, n1, n2, zeroE, []⟩, .slice none 0 0, .slice none 0 0, (HQX.out _ (bt hb5 hb6)).1.put ⟨2, 0, 0, n1, n2, zeroE, []⟩ (.slice none 0 0) (.slice none 0 0), hR6.aside (by omega) ⟨2, 0, 0, n1, n2, zeroE, []⟩ (.slice none 0 0) (.slice none 0 0), fun _ _ _ => ⟨zs_nil _, pks_nil _, by show (0 : Nat) ≤ _; omega, by show (0 : Nat) ≤ _; omega, by simp []⟩, fun n hn => by simp [zeroE] at hn, (below_set (below_set (below_set (below_set (below_set (below_set (below_set (below_set (below_set (below_set (bt HBX.out (bt hb5 hb6)) (by omega) _) (by omega) _) (by omega) _) (by omega) _) (by omega) _) (by omega) _) (by omega) _) (by omega) _) (by omega) _) (by omega) _), HRD.out⟩
    by_cases h2 : wordN l 0 = wViol
    · have q1 := E1.out
      rw [show decide (wordN l 0 = [101, 114, 114, 111, 114]) = false from decide_eq_false h0] at q1
      have q2 := E2.out
      rw [show decide (wordN l 0 = [115, 97, 102, 101]) = false from decide_eq_false h1] at q2
      have q3 := E3.out
      rw [show decide (wordN l 0 = [118, 105, 111, 108, 97, 116, 105, 111, 110]) = true from decide_eq_true h2] at q3
      have HRD : Hid (readL kindP l rest = ⟨3, 0, 0, 0, 0, ⟨kindP (wordN l 1), numN l 2, numN l 3, (l.drop 4).map fun x => (numE x).1⟩, (parseK rest).1⟩) := by
        show _ = _
        unfold readL
        rw [if_neg h0, if_neg h1, if_pos h2]
      clear h0 h1 h2 E1 E2 E3 E4
      have HW1 : Hid (∀ u, Below X.heap.size X u → Calls Tryz.prog 62 #[.int .i64 1, .pointer (some ⟨w2.heap.size, 0, none⟩)] u fun e w' => e = .returned (.string (str (wordN l 1))) ∧ u = w') := fun u hu => HWX.out u hu 1 (by decide)
      have HW2 : Hid (∀ u, Below X.heap.size X u → Calls Tryz.prog 62 #[.int .i64 2, .pointer (some ⟨w2.heap.size, 0, none⟩)] u fun e w' => e = .returned (.string (str (wordN l 2))) ∧ u = w') := fun u hu => HWX.out u hu 2 (by decide)
      have HW3 : Hid (∀ u, Below X.heap.size X u → Calls Tryz.prog 62 #[.int .i64 3, .pointer (some ⟨w2.heap.size, 0, none⟩)] u fun e w' => e = .returned (.string (str (wordN l 3))) ∧ u = w') := fun u hu => HWX.out u hu 3 (by decide)
      have HN2 := Lib.hid (fun u hu => HNU.out u hu 2)
      have HN3 := Lib.hid (fun u hu => HNU.out u hu 3)
      have HKI := Lib.hid (fun u => kind_c (wordN l 1) u)
      clear HWX HNU
      generalize str (wordN l 1) = S1 at HW1 HKI
      generalize str (wordN l 2) = S2 at HW2 HN2
      generalize str (wordN l 3) = S3 at HW3 HN3
      generalize kindP (wordN l 1) = n1 at HKI HRD
      generalize numN l 2 = n2 at HN2 HRD
      generalize numN l 3 = n3 at HN3 HRD
      go_upto_region 12 with (first
        | (go_at_call_of 62 (Value.int .i64 1); refine (HW1.out _ (Below.refl _ _)).mono ?_; rintro e w4 ⟨rfl, rfl⟩)
        | (go_at_call 64; refine (HKI.out _).mono ?_; rintro e w5 ⟨rfl, hb5⟩)
        | (go_at_call_of 62 (Value.int .i64 2); refine (HW2.out _ hb5).mono ?_; rintro e w6 ⟨rfl, rfl⟩)
        | (go_at_call_of 63 (Value.string S2); refine (HN2.out _ hb5).mono ?_; rintro e w7 ⟨rfl, hb6⟩; have hb7 := bt hb5 hb6)
        | (go_at_call_of 62 (Value.int .i64 3); refine (HW3.out _ hb7).mono ?_; rintro e w8 ⟨rfl, rfl⟩)
        | (go_at_call_of 63 (Value.string S3); refine (HN3.out _ hb7).mono ?_; rintro e w9 ⟨rfl, hb8⟩; have hb9 := bt hb7 hb8; obtain ⟨g0, g1, g2, g3, g4, g5, g6, g7, g8, g9⟩ := (HQX.out _ hb9).1.at_; have f0 := (HQX.out _ hb9).1.frz 0; have f5 := (HQX.out _ hb9).1.frz 5; have f6 := (HQX.out _ hb9).1.frz 6; have f7 := (HQX.out _ hb9).1.frz 7; have f8 := (HQX.out _ hb9).1.frz 8))
      have hqx := (HQX.out _ hb9).1
      have hq9 : w2.heap.size + 1 < w9.heap.size := hqx.at_.lt
      have hlt0 := HLT.out
      have hRD0 : RdAt w (w2.heap.size + 1) w9.heap.size (((((w9.setCell ⟨w2.heap.size + 1, 0, none⟩ (.int .i64 3)).setCell ⟨w2.heap.size + 1, 5, none⟩ (.int .i64 n1)).setCell ⟨w2.heap.size + 1, 6, none⟩ (.int .i64 n2)).setCell ⟨w2.heap.size + 1, 7, none⟩ (.int .i64 n3)).setCell ⟨w2.heap.size + 1, 8, none⟩ (.slice none 0 0)) n1 n2 n3 none 0 [] (fun u => u.cell? ⟨w2.heap.size, 0, none⟩ = some lv ∧ Strs u lv l ∧ VdBox u w.heap.size ⟨0, 0, 0, 0, 0, ⟨0, 0, 0, []⟩, []⟩ (.slice none 0 0) (.slice none 0 0)) :=
        ⟨⟨((((hqx.set0 3).at_.set5 n1).set6 n2).set7 n3).set8 [] _, fun j => by simpa using hqx.frz j⟩, World.ownsRow_nil _ _ _ _, hq9, by omega, by simp [World.setCell],
          (((((((HOF.out.below hb9).mono (S' := fun i => i = w2.heap.size + 1 ∨ w9.heap.size ≤ i) (fun k _ hk => by rcases hk with hk | hk <;> omega)).setCell _ (.inl rfl) _).setCell _ (.inl rfl) _).setCell _ (.inl rfl) _).setCell _ (.inl rfl) _).setCell _ (.inl rfl) _),
          below_set (below_set (below_set (below_set (below_set (bt HBX.out hb9) (by omega) _) (by omega) _) (by omega) _) (by omega) _) (by omega) _⟩
      have HNW : Hid (∀ u, Below w.heap.size w u → ∀ y ∈ l, Calls Tryz.prog 63 #[.string (str y)] u fun e w' => e = .returned (.int .i64 (numE y).1) ∧ Below u.heap.size u w') := fun u hu y hy => number_c y (HLX.out y hy) u (HE.out.below hu)
      have HQ9 : Hid (w2.heap.size + 1 < w9.heap.size) := hq9
      clear hqx hq9 hlt0 hb5 hb6 hb7 hb8 hb9 g0 g1 g2 g3 g4 g5 g6 g7 g8 g9 f0 f5 f6 f7 f8 HW1 HW2 HW3 HN2 HN3 HKI HOF HQX HSO
      generalize World.setCell _ _ _ = V0 at hRD0 ⊢
      have HRD0 := Lib.hid hRD0
      clear hRD0
      go_wp2_with fail
      go_loopw [9] (fun k wr => ∃ (i j : Nat) (L : List Int) (A : Option Addr) (cc : Nat), i = 4 + j ∧ j ≤ (l.drop 4).length ∧ k = .int .i64 i ∧ L = ((l.drop 4).take j).map (fun x => (numE x).1) ∧ RdAt w (w2.heap.size + 1) w9.heap.size wr n1 n2 n3 A cc L (fun u => u.cell? ⟨w2.heap.size, 0, none⟩ = some lv ∧ Strs u lv l ∧ VdBox u w.heap.size ⟨0, 0, 0, 0, 0, ⟨0, 0, 0, []⟩, []⟩ (.slice none 0 0) (.slice none 0 0))) (fun k _ => (l.drop 4).length + 4 - (intOf k).toNat)
      case atStart => exact ⟨4, 0, [], none, 0, rfl, Nat.zero_le _, rfl, by simp, HRD0.out⟩
      case round =>
        obtain ⟨i, j, L, A, cc, hij, hj, rfl, hL, hrd⟩ := hrel
        rw [List.length_drop] at hj
        have hln := HLN.out
        have HRD1 := Lib.hid hrd
        obtain ⟨hcl, hsl, hbr⟩ := hrd.keep.now
        have hLL : L.length = j := by rw [hL, List.length_map, List.length_take, List.length_drop]; omega
        have HLL := Lib.hid hLL
        have HL := Lib.hid hL
        by_cases hjl : i < l.length
        · obtain ⟨b3, off3, c3, hE3, hcc3, hbt3, hat3⟩ := Strs.at_ (l := l) hsl (by omega)
          subst hE3
          have hy0 := hat3 i hjl
          have hjl2 : (i : Int) < (l.length : Int) := by omega
          have HNX : Hid (L ++ [(numE l[i]).1] = ((l.drop 4).take (j + 1)).map (fun x => (numE x).1)) := by
            show _ = _
            rw [hL, List.take_succ_eq_append_getElem (by rw [List.length_drop]; omega), List.map_append, List.getElem_drop]
            subst hij; rfl
          have HNJ := Lib.hid (fun u hu => HNW.out u hu (l[i]) (List.getElem_mem hjl))
          have p8 := hrd.box.at_.c8
          have HIJ := Lib.hid hij
          have hi00 : (0 : Int) ≤ (i : Int) := Int.natCast_nonneg _
          clear hat3 hL hrd hsl hbr hij
          generalize l[i] = y at hy0 HNX HNJ
          generalize (numE y).1 = z at HNX HNJ
          go_upto_region 15 with fail
          have HT2 : Hid (L.length + 1 ≤ maxLen ∧ (L.length + 1) * 8 ≤ 140737488355328) := by show _ ∧ _; unfold maxLen; constructor <;> omega
          have HWB : Hid (Below w.heap.size w wr) := HRD1.out.belo
          clear hLL hln
          go_region_law (first
            | (go_simp; go_at_call 63; refine (HNJ.out _ (bt HWB.out (by repeat (first | exact Below.refl _ _ | assumption | refine bdrN ?_ _ | refine bdr ?_)))).mono ?_; rintro e w10 ⟨rfl, hb10⟩; have hB10 : Below wr.heap.size wr w10 := bt (by repeat (first | exact Below.refl _ _ | assumption | refine bdrN ?_ _ | refine bdr ?_)) hb10; have RD10 := HRD1.out.below hB10; have c10 := RD10.box.at_.c8; have hca := ((al w10 (.cells #[.int .i64 z] 3)).cell (p := ⟨w2.heap.size + 1, 8, none⟩) RD10.box.at_.lt).trans c10)
            | (refine step_append_lies _ (by rfl) _ _ _ (by rfl) w9.heap.size 3 i0 _ 1 8 Tryz.underlying23 hi0 hz0 hz1 hz2 rfl (by decide) (.slice A L.length cc) L.length (L.flatMap zCell) (by rfl) ((RD10.below (al w10 _)).below (by repeat (first | exact Below.refl _ _ | assumption | refine bdrN ?_ _ | refine bdr ?_))).own ⟨w10.heap.size, 0, none⟩ 1 1 (zCell z) (by rfl) (by rfl) (World.news_of_block (cs := #[.int .i64 z]) (t := 3) (fr := (0, 0)) (heap_alloc_new w10 _)) (by simp [zCell, Value.oneCell']) (by decide) HT2.out.1 HT2.out.2 (RD10.below (al w10 _)).top (w10.heap.size + 1) (by simp) ?_; intro gg cap w11 hown11 hgrow hat hlt; have RDA := (RD10.below (al w10 (.cells #[.int .i64 z] 3))).below (bdr (Below.refl _ _)); have hnb : (Value.slice A L.length cc).ownBlock ≠ some (w2.heap.size + 1) := (fun e => by have := (RDA.own.lt _ e).1; have := RDA.lt; omega); have p11 := hgrow.cell RDA.box.at_.c8 (Ne.symm hnb); have f11 := (World.frozen?_of_block (a := ⟨w2.heap.size + 1, 8, none⟩) (hgrow.block (w2.heap.size + 1) RDA.box.at_.lt (Ne.symm hnb))).trans (RDA.box.frz 8)))
          all_goals
            have hP := (RD10.below (al w10 (.cells #[.int .i64 z] 3))).push z (some ⟨gg, 0, none⟩) cap hown11 hgrow
            have hln := HLN.out
            go_wp2_with fail
            have hij := HIJ.out
            have hdl : (l.drop 4).length = l.length - 4 := List.length_drop
            go_roundw
            case rel => exact ⟨i + 1, j + 1, L ++ [z], some ⟨gg, 0, none⟩, cap, by omega, by omega, by go_num, HNX.out, hP⟩
            case measure => simp only [intOf]; omega
        · have hij2 : j = (l.drop 4).length := by rw [List.length_drop]; omega
          have HF : Hid (L = (l.drop 4).map (fun x => (numE x).1)) := by
            show _ = _
            rw [hL, hij2, List.take_length]
          have hi2 : ¬ ((i : Int) < (l.length : Int)) := by omega
          obtain ⟨A5, c5, hE5, _⟩ := hsl.shape
          subst hE5
          have HPP := Lib.hid (fun u hu => pparse_c rest HRL.out u hu)
          clear hL hLL HLL HL hij2 hbr hrd
          go_wp2_with (go_at_call 65; refine (HPP.out _ (HE.out.below HRD1.out.belo)).mono ?_; rintro e w10 hpp; obtain ⟨A6, c6, rfl, hpk6, hb10⟩ := par_shape hpp; have RD10 := HRD1.out.below hb10; have p9 := RD10.box.at_.c9; have f9 := RD10.box.frz 9)
          go_meet
          have hlt := HLT.out
          have hq9 := HQ9.out
          have hsm := parse_small rest HRL.out
          have htop := HRD1.out.top
          have hlen : L.length ≤ 100000000 := by
            have hF := HF.out
            rw [hF, List.length_map, List.length_drop]
            have := HLN.out; omega
          refine ⟨⟨3, 0, 0, 0, 0, ⟨n1, n2, n3, L⟩, (parseK rest).1⟩, _, _, ⟨RD10.box.at_.set9 _ _, fun j => by simpa using RD10.box.frz j⟩, ⟨RD10.keep.now.2.2.at_.other (by omega), fun j => by simpa using RD10.keep.now.2.2.frz j⟩, ?_, ?_, below_set RD10.belo (by omega) _, by have h := HRD.out; rw [← HF.out] at h; exact h⟩
          · have hz := ((off_own (S := fun k => k = w2.heap.size + 1 ∨ k ≤ w.heap.size) RD10.own (fun k hk e => by have := (RD10.own.lt k hk).1; omega)).setCell ⟨w2.heap.size + 1, 9, none⟩ (.inl rfl) (.slice A6 (parseK rest).1.length c6)).mono (S' := fun k => k ≤ w.heap.size) (fun k _ hk => .inr hk)
            have hp := ((hpk6.mono (S' := fun k => k = w2.heap.size + 1 ∨ k ≤ w.heap.size) (fun k _ hk => by show k < _; omega)).setCell ⟨w2.heap.size + 1, 9, none⟩ (.inl rfl) (.slice A6 (parseK rest).1.length c6)).mono (S' := fun k => k ≤ w.heap.size) (fun k _ hk => .inr hk)
            exact fun u h1 h2 => ⟨hz u h1 h2, hp u h1 h2, hlen, by show (parseK rest).1.length ≤ _; omega, fun x hx => by have := hsm.2 x hx; omega⟩
          · intro n hn
            have hF := HF.out
            rw [show (⟨3, 0, 0, 0, 0, ⟨n1, n2, n3, L⟩, (parseK rest).1⟩ : Vd).bad.cells = L from rfl, hF] at hn
            obtain ⟨y, _, rfl⟩ := List.mem_map.1 hn
            exact numE_I64 y
    by_cases h3 : wordN l 0 = wBudget
    · have q1 := E1.out
      rw [show decide (wordN l 0 = [101, 114, 114, 111, 114]) = false from decide_eq_false h0] at q1
      have q2 := E2.out
      rw [show decide (wordN l 0 = [115, 97, 102, 101]) = false from decide_eq_false h1] at q2
      have q3 := E3.out
      rw [show decide (wordN l 0 = [118, 105, 111, 108, 97, 116, 105, 111, 110]) = false from decide_eq_false h2] at q3
      have q4 := E4.out
      rw [show decide (wordN l 0 = [98, 117, 100, 103, 101, 116]) = true from decide_eq_true h3] at q4
      have HRD : Hid (readL kindP l rest = ⟨4, 0, 0, 0, 0, zeroE, []⟩) := by
        show _ = _
        unfold readL
        rw [if_neg h0, if_neg h1, if_neg h2, if_pos h3]
      clear h0 h1 h2 h3 E1 E2 E3 E4 HWX HNU
      have g0 := HQ.out.at_.c0
      have f0 := HQ.out.frz 0
      go_wp2_with fail
      go_meet
      have hR6 := HR.out
      have hlt := HLT.out
      exact ⟨⟨4, 0, 0, 0, 0, zeroE, []⟩, .slice none 0 0, .slice none 0 0, HQ.out.set0 4, ⟨hR6.at_.other (by omega), fun j => by simpa using hR6.frz j⟩, fun _ _ _ => ⟨zs_nil _, pks_nil _, by show (0 : Nat) ≤ _; omega, by show (0 : Nat) ≤ _; omega, by simp []⟩, fun n hn => by simp [zeroE] at hn, below_set HBX.out (by omega) _, HRD.out⟩
    · have q1 := E1.out
      rw [show decide (wordN l 0 = [101, 114, 114, 111, 114]) = false from decide_eq_false h0] at q1
      have q2 := E2.out
      rw [show decide (wordN l 0 = [115, 97, 102, 101]) = false from decide_eq_false h1] at q2
      have q3 := E3.out
      rw [show decide (wordN l 0 = [118, 105, 111, 108, 97, 116, 105, 111, 110]) = false from decide_eq_false h2] at q3
      have q4 := E4.out
      rw [show decide (wordN l 0 = [98, 117, 100, 103, 101, 116]) = false from decide_eq_false h3] at q4
      have HRD : Hid (readL kindP l rest = zeroV) := by
        show _ = _
        unfold readL
        rw [if_neg h0, if_neg h1, if_neg h2, if_neg h3]
      clear h0 h1 h2 h3 E1 E2 E3 E4 HWX HNU
      go_wp2_with fail
      go_meet
      exact ⟨zeroV, .slice none 0 0, .slice none 0 0, HQ.out, HR.out, fun _ _ _ => ⟨zs_nil _, pks_nil _, by show (0 : Nat) ≤ _; omega, by show (0 : Nat) ≤ _; omega, by simp [zeroV]⟩, fun n hn => by simp [zeroV, zeroE] at hn, HBX.out, HRD.out⟩
  case rest =>
    obtain ⟨v, cv, sv, hq, hr, hok, hnm, hbw, hv⟩ := hcut
    obtain ⟨A1, k1, rfl, _⟩ := hok.now.cells.shape
    obtain ⟨A2, k2, rfl, _⟩ := hok.now.sched.shape
    have HOK := Lib.hid hok
    have HNM := Lib.hid hnm
    have HBW := Lib.hid hbw
    have HV := Lib.hid hv
    have HQ2 := Lib.hid hq
    have HR2 := Lib.hid hr
    obtain ⟨q0, q1, q2, q3, q4, q5, q6, q7, q8, q9⟩ := hq.at_
    obtain ⟨r0, r1, r2, r3, r4, r5, r6, r7, r8, r9⟩ := hr.at_
    have f0 := hr.frz 0; have f1 := hr.frz 1; have f2 := hr.frz 2; have f3 := hr.frz 3; have f4 := hr.frz 4; have f5 := hr.frz 5; have f6 := hr.frz 6; have f7 := hr.frz 7; have f8 := hr.frz 8; have f9 := hr.frz 9
    clear hok hnm hbw hv hq hr HQ HR HWX HNU hC hST
    have HOF : Hid (Below wc.heap.size wc wc) := Below.refl _ _
    go_wp2_with fail
    refine bodyPost_ret (v := vdV v (.slice A1 v.bad.cells.length k1) (.slice A2 v.sched.length k2)) (by simp [results, Tryz.results41, go_sem, vdV, World.cell?_setCell_other, World.cell?_setCell_same', r0, r1, r2, r3, r4, r5, r6, r7, r8, r9]; try rfl) rfl ?_
    rw [HV.out]
    exact ⟨_, _, rfl, (((((((((((((((((((((HOK.out).setCell ⟨w.heap.size, 0, none⟩ (Nat.le_refl _) _)).setCell ⟨w.heap.size, 1, none⟩ (Nat.le_refl _) _)).setCell ⟨w.heap.size, 2, none⟩ (Nat.le_refl _) _)).setCell ⟨w.heap.size, 3, none⟩ (Nat.le_refl _) _)).setCell ⟨w.heap.size, 4, none⟩ (Nat.le_refl _) _)).setCell ⟨w.heap.size, 5, none⟩ (Nat.le_refl _) _)).setCell ⟨w.heap.size, 6, none⟩ (Nat.le_refl _) _)).setCell ⟨w.heap.size, 7, none⟩ (Nat.le_refl _) _)).setCell ⟨w.heap.size, 8, none⟩ (Nat.le_refl _) _)).setCell ⟨w.heap.size, 9, none⟩ (Nat.le_refl _) _)).mono (fun k _ hk => Nat.le_of_lt hk), HNM.out, below_set (below_set (below_set (below_set (below_set (below_set (below_set (below_set (below_set (below_set (HBW.out) (Nat.le_refl _) _) (Nat.le_refl _) _) (Nat.le_refl _) _) (Nat.le_refl _) _) (Nat.le_refl _) _) (Nat.le_refl _) _) (Nat.le_refl _) _) (Nat.le_refl _) _) (Nat.le_refl _) _) (Nat.le_refl _) _⟩
end Go.Proofs.YtcgcndmlgfnjbaaGreatDoor

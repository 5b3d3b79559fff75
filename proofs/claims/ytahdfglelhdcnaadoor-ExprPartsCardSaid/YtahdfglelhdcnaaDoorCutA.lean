/- At most sixty nodes, names of at most forty bytes: the statements' walk. -/
import Derived.Test.YtahdfglelhdcnaaDoorLawA
namespace Go.Proofs.YtahdfglelhdcnaaDoor
open Go Go.RowKit
set_option linter.unusedVariables false
def cutN (x : Nod) : Nod := ⟨x.op, x.n, x.name.take 40, x.pos⟩
def cutL (l : List Nod) : List Nod := (l.take 60).map cutN
theorem cutL_len (l : List Nod) : (cutL l).length ≤ 60 := by unfold cutL; rw [List.length_map, List.length_take]; omega
theorem cutL_names (l : List Nod) : ∀ x ∈ cutL l, x.name.length ≤ 1000000 := fun x hx => by
  unfold cutL at hx
  obtain ⟨y, _, rfl⟩ := List.mem_map.1 hx
  show (y.name.take 40).length ≤ _
  rw [List.length_take]; omega
theorem str_cut (s : List UInt8) : (str s).extract 0 (min ((str s).size : Int) 40).toNat = str (s.take 40) := by
  apply ByteArray.ext
  rw [ByteArray.data_extract]
  apply Array.ext'
  rw [str_size]
  simp only [str, Array.toList_extract, List.toList_toArray]
  show (s.take (min (s.length : Int) 40).toNat).drop 0 = _
  rw [List.drop_zero]
  by_cases h : s.length ≤ 40
  · rw [List.take_of_length_le (by omega), List.take_of_length_le h]
  · congr 1; omega
theorem sl_litN (w : World) (S : Obj) (x : Nod) : SlN ((w.alloc S).alloc (.cells #[.int .i64 x.op, .int .i64 x.n, .string (str x.name), .int .i64 x.pos] 30)) (.slice (some ⟨w.heap.size + 1, 0, none⟩) 1 1) 4 1 ([x].flatMap Nod.cells) := by
  have := sl_lit (w.alloc S) (Nod.cells x) 30 4 1 1 rfl (Nat.le_refl _)
  rw [World.size_alloc] at this
  rw [show [x].flatMap Nod.cells = Nod.cells x by simp]
  exact this
theorem cut_take (l : List Nod) (j : Nat) (h : j < l.length) : (l.take (j + 1)).map cutN = (l.take j).map cutN ++ [cutN l[j]] := by
  rw [List.take_succ_eq_append_getElem h, List.map_append]; rfl
set_option maxRecDepth 100000 in
set_option maxHeartbeats 8000000 in
theorem Cut_c (l : List Nod) (hl : l.length ≤ 9223372036854775807) (hn : ∀ x ∈ l, x.name.length ≤ 9223372036854775807) (v : Value) (w : World) (hv : Nods w v l) :
    Calls Tryd.prog 16 #[v] w fun e w' => ∃ V, e = .returned V ∧ Nods w' V (cutL l) ∧ Below w.heap.size w w' := by
  obtain ⟨i0, hi0, hz0, hz1, hz2⟩ := info_parts info_nod
  obtain ⟨A0, c0, rfl, hc0⟩ := hv.shape
  have HV := Lib.hid hv
  have HE0 := Lib.hid (own_empty w 30 4 (by decide))
  clear hv
  go_enter Tryd.func16, Tryd.ntmps16
  go_wp2_with fail
  go_loopw [3, 4] (fun out k wr => ∃ j : Nat, j ≤ l.length ∧ j ≤ 60 ∧ k = .int .i64 j ∧ (∃ A c, out = .slice A j c) ∧ wr.ownsRow w.heap.size 30 4 out j (((l.take j).map cutN).flatMap Nod.cells) ∧ Below w.heap.size w wr) (fun _ k _ => 60 - (intOf k).toNat)
  case atStart => exact ⟨0, Nat.zero_le _, by omega, rfl, ⟨_, _, rfl⟩, HE0.out, al _ _⟩
  case round =>
    obtain ⟨j, hj, hj60, rfl, ⟨A, cc, rfl⟩, hown, hb⟩ := hrel
    have HOWN := Lib.hid hown
    have HB := Lib.hid hb
    have HSZ := Lib.hid hb.size
    have hj0 : (0 : Int) ≤ (j : Int) := Int.natCast_nonneg _
    by_cases hjl : j < l.length
    · have hjl2 : (j : Int) < (l.length : Int) := by omega
      by_cases hj6 : j < 60
      · have hj62 : (j : Int) < 60 := by omega
        obtain ⟨b, off, c, hE0, hcc, hbt, hat⟩ := Nods.at_ (l := l) HV.out (by omega)
        cases hE0
        have x1 := hat j hjl
        have hx0 := (hb.cell (p := ⟨_, _, none⟩) hbt).trans x1.op
        have hx1 := (hb.cell (p := ⟨_, _, none⟩) hbt).trans x1.n
        have hx2 := (hb.cell (p := ⟨_, _, none⟩) hbt).trans x1.name
        have hx3 := (hb.cell (p := ⟨_, _, none⟩) hbt).trans x1.pos
        have HS := Lib.hid (cut_take l j hjl)
        have hnz := hn _ (List.getElem_mem hjl)
        have hsc := str_cut (l[j]).name
        have HT4 : Hid (j + 1 ≤ maxLen ∧ (j + 1) * 40 ≤ 140737488355328) := by show _ ∧ _; unfold maxLen; constructor <;> omega
        have HLEN : Hid (((l.take j).map cutN).length = j) := by show _ = _; rw [List.length_map, List.length_take]; omega
        clear hb hat x1 hown
        generalize l[j] = x at hx0 hx1 hx2 hx3 HS hnz hsc
        generalize (l.take j).map cutN = ps at HS HOWN HLEN
        have hzz : (str x.name).size ≤ 9223372036854775807 := by rw [str_size]; exact hnz
        go_wp2_with (first
          | (at_builtin; refine wpl_app rfl _ _ 24 rfl w.heap.size 30 i0 _ 4 40 Tryd.underlying24 hi0 hz0 hz1 hz2 rfl (by decide) (.slice A j cc) j (ps.flatMap Nod.cells) rfl (own_below HOWN.out (balloc (al wr _) _)) (.slice (some ⟨wr.heap.size + 1, 0, none⟩) 1 1) 1 ([cutN x].flatMap Nod.cells) rfl (sl_litN wr _ (cutN x)) (nod_one _) HT4.out.1 HT4.out.2 (Nat.le_trans HSZ.out (Nat.le_trans (al wr _).size (al _ _).size)) ?_; intro v6 w6 hown6 hb6; obtain ⟨A6, c6, rfl⟩ := own_shape hown6; have hB6 := btB (btB HB.out (balloc (al wr _) _) HSZ.out) hb6 (Nat.le_refl _)))
        go_roundw
        case rel =>
          refine ⟨j + 1, by omega, by omega, by go_num, ⟨A6, c6, rfl⟩, ?_, hB6⟩
          rw [HS.out, List.flatMap_append]
          exact hown6
        case measure => simp [intOf]; omega
      · have hj62 : ¬ ((j : Int) < 60) := by omega
        obtain rfl : j = 60 := by omega
        go_wp2_with fail
        go_ret
        refine ⟨_, rfl, ?_, HB.out⟩
        have := sl_of_own HOWN.out
        show SlN _ _ 4 (cutL l).length _
        rw [show (cutL l).length = 60 by unfold cutL; rw [List.length_map, List.length_take]; omega]
        exact this
    · have hje : Hid (j = l.length) := by show _ = _; omega
      have hjl2 : ¬ ((j : Int) < (l.length : Int)) := by omega
      have HC : Hid (cutL l = (l.take j).map cutN) := by
        show _ = _
        unfold cutL
        rw [List.take_of_length_le (by have := hje.out; omega), List.take_of_length_le (by omega)]
      go_wp2_with fail
      go_ret
      refine ⟨_, rfl, ?_, HB.out⟩
      rw [HC.out]
      have := sl_of_own HOWN.out
      show SlN _ _ 4 ((l.take j).map cutN).length _
      rw [show ((l.take j).map cutN).length = j by rw [List.length_map, List.length_take]; have := hje.out; omega]
      exact this
end Go.Proofs.YtahdfglelhdcnaaDoor

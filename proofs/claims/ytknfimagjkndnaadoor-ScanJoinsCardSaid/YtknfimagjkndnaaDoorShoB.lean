/- Tokens shown: the program's walk. -/
import Derived.Test.YtknfimagjkndnaaDoorShoA
import Derived.Test.YtknfimagjkndnaaDoorBldA
namespace Go.Proofs.YtknfimagjkndnaaDoor
open Go Go.RowKit
set_option linter.unusedVariables false
set_option maxRecDepth 100000 in
set_option maxHeartbeats 4000000 in
theorem show_c (l : List Tok) (hl : l.length ≤ 100000) (hn : (tailE l).length ≤ 100000000) (v : Value) (w : World) (hv : Toks w v l) :
    Calls Tryd.prog 18 #[v] w fun e w' => e = .returned (.string (str (shwE l))) ∧ Below w.heap.size w w' := by
  obtain ⟨A0, c0, rfl, hc0⟩ := hv.shape
  have HV := Lib.hid hv
  have HN := Lib.hid (bld_new w)
  clear hv
  go_enter Tryd.func18, Tryd.ntmps18
  go_wp2_with fail
  go_loopw [8] (fun k wr => Below w.heap.size w wr ∧ ∃ j : Nat, j ≤ l.length ∧ k = .int .i64 j ∧ Bld w.heap.size w.heap.size (shwE (l.take j)) wr) (fun k _ => l.length - (intOf k).toNat)
  case atStart => exact ⟨al _ _, 0, Nat.zero_le _, rfl, HN.out⟩
  case round =>
    obtain ⟨hb, j, hj, rfl, hbl⟩ := hrel
    have HB := Lib.hid hb
    have HBL := Lib.hid hbl
    have HSZ : Hid (w.heap.size ≤ wr.heap.size) := hb.size
    have HLT : Hid (w.heap.size < wr.heap.size) := hbl.lt
    have hj0 : (0 : Int) ≤ (j : Int) := Int.natCast_nonneg _
    by_cases hjl : j < l.length
    · have hjl2 : (j : Int) < (l.length : Int) := by omega
      obtain ⟨b, off, c, hE0, hcc, hbt, hat⟩ := Toks.at_ (l := l) HV.out (by omega)
      cases hE0
      have x1 := hat j hjl
      have hx0 := (hb.cell (p := ⟨_, _, none⟩) hbt).trans x1.kind
      have hx1 := (hb.cell (p := ⟨_, _, none⟩) hbt).trans x1.text
      have hx2 := (hb.cell (p := ⟨_, _, none⟩) hbt).trans x1.n
      have hx3 := (hb.cell (p := ⟨_, _, none⟩) hbt).trans x1.pos
      have HS := Lib.hid (shw_take l j hjl)
      have hl1 := shw_le l j
      have hl2 := text_le l j hjl
      have HSO : Hid (j = 0 → shwE (l.take j) = []) := fun e => by rw [e]; rfl
      clear hat x1 hb hbl
      generalize l[j] = x at hx0 hx1 hx2 hx3 HS hl2
      generalize shwE (l.take j) = so at HS HSO hl1 HBL
      by_cases hz : j = 0
      · have hj1 : ¬ ((0 : Int) < (j : Int)) := by omega
        have HS2 : Hid (so ++ x.text = shwE (l.take (j + 1))) := by
          show _ = _
          subst hz
          rw [HS.out, if_pos rfl, HSO.out rfl]; rfl
        have HW1 : Hid (Bld w.heap.size w.heap.size so (wr.alloc (.cells #[.int .i64 x.kind, .string (str x.text), .int .i64 x.n, .int .i64 x.pos] 31))) := HBL.out.alloc _
        have HW : Hid (Calls Tryd.prog 38 #[.pointer (some ⟨w.heap.size, 0, none⟩), .string (str x.text)] (wr.alloc (.cells #[.int .i64 x.kind, .string (str x.text), .int .i64 x.n, .int .i64 x.pos] 31)) fun e w' => e = .returned (.tuple #[.int .i64 x.text.length, .nilIface]) ∧ Bld w.heap.size w.heap.size (so ++ x.text) w' ∧ Below w.heap.size (wr.alloc (.cells #[.int .i64 x.kind, .string (str x.text), .int .i64 x.n, .int .i64 x.pos] 31)) w' ∧ OK_ w.heap.size (wr.alloc (.cells #[.int .i64 x.kind, .string (str x.text), .int .i64 x.n, .int .i64 x.pos] 31)) w') := wstr_c _ _ _ _ _ HW1.out (by omega) (by have := HSZ.out; rw [World.size_alloc]; omega)
        clear HS HSO hl1 hl2 hz HBL HW1
        go_wp2_with (go_at_call 38; refine (HW.out).mono ?_; rintro e w3 ⟨rfl, hb3, hl3, hk3⟩)
        go_roundw
        case rel => exact ⟨(HB.out.alloc HSZ.out _).trans hl3, j + 1, by omega, by go_num, by rw [← HS2.out]; exact hb3⟩
        case measure => simp [intOf]; omega
      · have hj1 : ((0 : Int) < (j : Int)) := by omega
        have HS2 : Hid ((so ++ [32]) ++ x.text = shwE (l.take (j + 1))) := by
          show _ = _
          rw [HS.out, if_neg hz]
        have HW1 : Hid (Bld w.heap.size w.heap.size so (wr.alloc (.cells #[.int .i64 x.kind, .string (str x.text), .int .i64 x.n, .int .i64 x.pos] 31))) := HBL.out.alloc _
        have HWB : Hid (Calls Tryd.prog 37 #[.pointer (some ⟨w.heap.size, 0, none⟩), .int .u8 32] (wr.alloc (.cells #[.int .i64 x.kind, .string (str x.text), .int .i64 x.n, .int .i64 x.pos] 31)) fun e w' => e = .returned .nilIface ∧ Bld w.heap.size w.heap.size (so ++ [32]) w' ∧ Below w.heap.size (wr.alloc (.cells #[.int .i64 x.kind, .string (str x.text), .int .i64 x.n, .int .i64 x.pos] 31)) w' ∧ OK_ w.heap.size (wr.alloc (.cells #[.int .i64 x.kind, .string (str x.text), .int .i64 x.n, .int .i64 x.pos] 31)) w') := wbyte_c _ _ _ 32 _ HW1.out (by omega) (by have := HSZ.out; rw [World.size_alloc]; omega)
        have HW : Hid (∀ u, Bld w.heap.size w.heap.size (so ++ [32]) u → w.heap.size ≤ u.heap.size → Calls Tryd.prog 38 #[.pointer (some ⟨w.heap.size, 0, none⟩), .string (str x.text)] u fun e w' => e = .returned (.tuple #[.int .i64 x.text.length, .nilIface]) ∧ Bld w.heap.size w.heap.size ((so ++ [32]) ++ x.text) w' ∧ Below w.heap.size u w' ∧ OK_ w.heap.size u w') := fun u hu hs => wstr_c _ _ _ _ _ hu (by simp only [List.length_append, List.length_cons, List.length_nil]; omega) hs
        have HBLK : Hid ((wr.alloc (.cells #[.int .i64 x.kind, .string (str x.text), .int .i64 x.n, .int .i64 x.pos] 31)).heap[wr.heap.size]? = some (.cells #[.int .i64 x.kind, .string (str x.text), .int .i64 x.n, .int .i64 x.pos] 31 (0, 0))) := heap_alloc_new _ _
        have HNE : Hid (wr.heap.size ≠ w.heap.size) := by have := HLT.out; show _ ≠ _; omega
        clear HS HSO hl1 hl2 hz HBL HW1
        go_wp2_with (first
          | (go_at_call 37; refine (HWB.out).mono ?_; rintro e w2 ⟨rfl, hb2, hl2, hk2⟩; have HB2 := Lib.hid hb2; have HL2 := Lib.hid hl2; have hc2 := cell_blk (kept_block hk2 HBLK.out HNE.out (by decide)) 1; clear hb2 hl2 hk2)
          | (go_at_call 38; refine (HW.out _ HB2.out (Nat.le_of_lt HB2.out.lt)).mono ?_; rintro e w3 ⟨rfl, hb3, hl3, hk3⟩))
        go_roundw
        case rel => exact ⟨((HB.out.alloc HSZ.out _).trans HL2.out).trans hl3, j + 1, by omega, by go_num, by rw [← HS2.out]; exact hb3⟩
        case measure => simp [intOf]; omega
    · obtain rfl : j = l.length := by omega
      have HF : Hid (str (shwE (l.take l.length)) = str (shwE l)) := by show _ = _; rw [List.take_length]
      have HST := Lib.hid (bstr_c _ _ _ _ hbl hb.size)
      clear hb hbl HBL
      go_wp2_with (go_at_call 39; refine (HST.out).mono ?_; rintro e w3 ⟨rfl, hb3⟩)
      go_ret
      exact ⟨by first | rfl | exact ret_str HF.out, HB.out.trans hb3⟩
end Go.Proofs.YtknfimagjkndnaaDoor

/- How deep an expression is: the reference's walk. -/
import Derived.Test.YtahdfglelhdcnaaDoorNodPlain
import Derived.Test.YtahdfglelhdcnaaDoorNodA
import Derived.Test.YtahdfglelhdcnaaDoorParD
namespace Go.Proofs.YtahdfglelhdcnaaDoor
open Go Go.RowKit
set_option linter.unusedVariables false
set_option maxRecDepth 100000 in
set_option maxHeartbeats 4000000 in
theorem deep_n (l : List Nod) (v : Value) (w : World) (h : Nods w v l) (hl : l.length ≤ 100000) : ∀ (N : Nat) (e : Ex) (i : Nat), e.flat.length ≤ N → e.ok → AtE l i e →
    Calls Tryd.prog 32 #[v, .int .i64 i] w fun r w' => r = .returned (.int .i64 e.deep) ∧ w = w'
  | 0, e, i, hN, ho, ha => by have := e.flat_pos; omega
  | N + 1, e, i, hN, ho, ha => by
    have hil := ha.lt
    have hle := ha.le
    have hd := e.deep_le
    have IH : Hid (∀ j (hj : j < e.ks.length), Calls Tryd.prog 32 #[v, .int .i64 (posK i e.ks j)] w fun r w' => r = .returned (.int .i64 ((e.ks[j]).deep : Int)) ∧ w = w') := fun j hj =>
      deep_n l v w h hl N (e.ks[j]) (posK i e.ks j) (by have := AtE.kid_lt j hj; omega) (e.ok_ks ho _ (List.getElem_mem hj)) (ha.kid j hj)
    have HE : Hid (∀ j (hj : j < e.ks.length), Calls Tryd.prog 27 #[v, .int .i64 (posK i e.ks j)] w fun r w' => r = .returned (.int .i64 (posK i e.ks (j + 1) : Int)) ∧ w = w') := fun j hj => by
      have := rend_c l v w h hl (posK i e.ks j)
      rw [(ha.kid j hj).fin (e.ok_ks ho _ (List.getElem_mem hj)), ← posK_succ i e.ks j hj] at this
      exact this
    have HPB : Hid (∀ j (hj : j < e.ks.length), (e.ks[j]).deep ≤ 100000) := fun j hj => by
      have h1 := (e.ks[j]).deep_le; have h2 := AtE.kid_lt j hj; omega
    obtain ⟨b, off, c, rfl, hc, hbl, hat⟩ := h.at_ (by omega)
    have ht := (hat i hil).op
    rw [ha.top] at ht
    have hk := e.kids_ks ho
    have HM : Hid (∀ u, Calls Tryd.prog 43 #[.int .i64 e.top.op] u fun r w' => r = .returned (.int .i64 (e.ks.length : Int)) ∧ u = w') := fun u => by rw [← hk]; exact kids_c _ u
    have HD := Lib.hid e.deep_ks
    have hk2 := e.ks_len
    have hds : e.deep ≤ 100000 := by omega
    clear hat h hk ho ha hd
    go_enter Tryd.func32, Tryd.ntmps32
    go_wp2_with fail
    go_loop [5, 6, 7] (fun n a k => ∃ j : Nat, j ≤ e.ks.length ∧ n = .int .i64 (maxK e.ks j : Int) ∧ a = .int .i64 (posK i e.ks j : Int) ∧ k = .int .i64 j) (fun _ _ k => 2 - (intOf k).toNat)
    case atStart => exact ⟨0, Nat.zero_le _, rfl, by rw [posK_zero]; go_num, rfl⟩
    case round =>
      obtain ⟨j, hj, rfl, rfl, rfl⟩ := hrel
      by_cases hjl : j < e.ks.length
      · have HS := Lib.hid (maxK_succ e.ks j hjl)
        have HI := Lib.hid (IH.out j hjl)
        have HEE := Lib.hid (HE.out j hjl)
        have hb1 := HPB.out j hjl
        generalize hdd : (e.ks[j]).deep = dd at HS HI hb1
        clear hdd
        go_wp2_with (first
          | (go_at_call 43; refine (HM.out _).mono ?_; rintro r w' ⟨rfl, rfl⟩)
          | (go_at_call 32; refine (HI.out).mono ?_; rintro r w' ⟨rfl, rfl⟩)
          | (go_at_call 27; refine (HEE.out).mono ?_; rintro r w' ⟨rfl, rfl⟩))
        go_round
        case rel =>
          refine ⟨j + 1, by omega, ?_, rfl, by go_num⟩
          rw [HS.out]
          congr 1
          first | omega | (split <;> omega)
        case measure => simp [intOf]; omega
      · have hje : j = e.ks.length := by omega
        have hds2 : (maxK e.ks e.ks.length : Int) < 100000 := by have := HD.out; omega
        go_wp2_with (go_at_call 43; refine (HM.out _).mono ?_; rintro r w' ⟨rfl, rfl⟩)
        go_ret
        exact ⟨ret_int (by rw [HD.out]; go_num), rfl⟩
theorem rdeep_c (e : Ex) (ho : e.ok) (v : Value) (w : World) (h : Nods w v e.flat) (hl : e.flat.length ≤ 100000) :
    Calls Tryd.prog 32 #[v, .int .i64 0] w fun r w' => r = .returned (.int .i64 e.deep) ∧ w = w' := deep_n e.flat v w h hl _ e 0 (Nat.le_refl _) ho (AtE.whole e)
end Go.Proofs.YtahdfglelhdcnaaDoor
/- How deep an expression is: the program's walk. -/
namespace Go.Proofs.YtahdfglelhdcnaaDoor
open Go Go.RowKit
set_option linter.unusedVariables false
theorem info_int : (Tryd.prog.info? 3).map (fun i => (i.zero, i.size, i.bytes)) = some (some (.int .i64 0), 1, 8) := by kernel_rfl
theorem und_ints : Tryd.prog.underlying 70 = some (.slice 3) := by kernel_rfl
theorem int_one (l : List Nat) : ∀ u ∈ l.flatMap intCell, u.oneCell' = true := by
  intro u hu
  obtain ⟨x, _, hx⟩ := List.mem_flatMap.1 hu
  simp only [intCell, List.mem_cons, List.not_mem_nil, or_false] at hx
  subst hx; rfl
def posL (i : Nat) (es : List Ex) (j : Nat) : List Nat := (List.range j).map (posK i es)
theorem posL_succ (i : Nat) (es : List Ex) (j : Nat) : posL i es (j + 1) = posL i es j ++ [posK i es j] := by
  unfold posL; rw [List.range_succ, List.map_append]; rfl
theorem posL_len (i : Nat) (es : List Ex) (j : Nat) : (posL i es j).length = j := by simp [posL]
theorem posL_at (i : Nat) (es : List Ex) (c j : Nat) (h : j < (posL i es c).length) : (posL i es c)[j] = posK i es j := by simp [posL]
theorem own_nil (w : World) (base : Nat) (e : TypeId) (size : Nat) : w.ownsRow base e size (.slice none 0 0) 0 [] := ⟨by simp, .inl ⟨rfl, rfl⟩⟩
set_option maxRecDepth 100000 in
set_option maxHeartbeats 4000000 in
theorem operands_c (l : List Nod) (v : Value) (w : World) (h : Nods w v l) (hl : l.length ≤ 100000) (e : Ex) (i : Nat) (ho : e.ok) (ha : AtE l i e) :
    Calls Tryd.prog 60 #[v, .int .i64 i] w fun r w' => ∃ A c, r = .returned (.slice A e.ks.length c) ∧ Ints w' (.slice A e.ks.length c) (posL i e.ks e.ks.length) ∧ Below w.heap.size w w' := by
  obtain ⟨i0, hi0, hz0, hz1, hz2⟩ := info_parts info_int
  have hil := ha.lt
  have hle := ha.le
  have HE : Hid (∀ j (hj : j < e.ks.length) u, Below w.heap.size w u → Calls Tryd.prog 26 #[v, .int .i64 (posK i e.ks j)] u fun r w' => r = .returned (.int .i64 (posK i e.ks (j + 1) : Int)) ∧ u = w') := fun j hj u hu => by
    have := end_c l v u (h.below hu) hl (posK i e.ks j)
    rw [(ha.kid j hj).fin (e.ok_ks ho _ (List.getElem_mem hj)), ← posK_succ i e.ks j hj] at this
    exact this
  obtain ⟨b, off, c, rfl, hc, hbl, hat⟩ := h.at_ (by omega)
  have ht := (hat i hil).op
  rw [ha.top] at ht
  have hk := e.kids_ks ho
  have HM : Hid (∀ u, Calls Tryd.prog 42 #[.int .i64 e.top.op] u fun r w' => r = .returned (.int .i64 (e.ks.length : Int)) ∧ u = w') := fun u => by rw [← hk]; exact many_c _ u
  have hk2 := e.ks_len
  clear hat h hk ho ha
  go_enter Tryd.func60, Tryd.ntmps60
  go_wp2_with (go_at_call 42; refine (HM.out _).mono ?_; rintro r w' ⟨rfl, rfl⟩)
  go_loopw [5, 6, 15] (fun out at_ k wr => ∃ j : Nat, j ≤ e.ks.length ∧ k = .int .i64 j ∧ at_ = .int .i64 (posK i e.ks j : Int) ∧ (∃ A c, out = .slice A j c) ∧ wr.ownsRow w.heap.size 3 1 out j ((posL i e.ks j).flatMap intCell) ∧ Below w.heap.size w wr) (fun _ _ k _ => 2 - (intOf k).toNat)
  case atStart => exact ⟨0, Nat.zero_le _, rfl, by rw [posK_zero]; go_num, ⟨none, 0, rfl⟩, own_nil _ _ _ _, Below.refl _ _⟩
  case round =>
    obtain ⟨j, hj, rfl, rfl, ⟨A, cc, rfl⟩, hown, hb⟩ := hrel
    by_cases hjl : j < e.ks.length
    · have HEE := Lib.hid (HE.out j hjl)
      have HP := Lib.hid (posL_succ i e.ks j)
      have HOWN := Lib.hid hown
      have HB := Lib.hid hb
      clear hown hb
      have HSZ := Lib.hid HB.out.size
      have T1 : Hid ((wr.alloc (.cells #[.int .i64 (posK i e.ks j)] 3)).ownsRow w.heap.size 3 1 (.slice A j cc) j ((posL i e.ks j).flatMap intCell)) := (own_below HOWN.out (al _ _))
      have T2 : Hid (SlN (wr.alloc (.cells #[.int .i64 (posK i e.ks j)] 3)) (.slice (some ⟨wr.heap.size, 0, none⟩) 1 1) 1 1 ([posK i e.ks j].flatMap intCell)) := (sl_lit wr [.int .i64 (posK i e.ks j)] 3 1 1 1 rfl (Nat.le_refl _))
      have T3 : Hid (w.heap.size ≤ (wr.alloc (.cells #[.int .i64 (posK i e.ks j)] 3)).heap.size) := (Nat.le_trans HSZ.out (al _ _).size)
      have T4 : Hid (j + 1 ≤ maxLen ∧ (j + 1) * 8 ≤ 140737488355328) := by show _ ∧ _; unfold maxLen; constructor <;> omega
      go_wp2_with (first
        | (at_builtin; refine wpl_app rfl _ _ 70 rfl w.heap.size 3 i0 _ 1 8 und_ints hi0 hz0 hz1 hz2 rfl Nat.zero_lt_one (.slice A j cc) j ((posL i e.ks j).flatMap intCell) rfl T1.out (.slice (some ⟨wr.heap.size, 0, none⟩) 1 1) 1 ([posK i e.ks j].flatMap intCell) rfl T2.out (int_one _) T4.out.1 T4.out.2 T3.out ?_; intro v6 w6 hown6 hb6; obtain ⟨A6, c6, rfl⟩ := own_shape hown6; have hB6 := btB (btB HB.out (al wr _) HSZ.out) hb6 (Nat.le_refl _))
        | (go_at_call 26; refine (HEE.out _ hB6).mono ?_; rintro r w' ⟨rfl, rfl⟩))
      go_roundw
      case rel =>
        refine ⟨j + 1, by omega, by go_num, rfl, ⟨A6, c6, rfl⟩, ?_, hB6⟩
        rw [HP.out, List.flatMap_append]
        exact hown6
      case measure => simp [intOf]; omega
    · have hje : j = e.ks.length := by omega
      subst hje
      go_wp2_with fail
      go_ret
      refine ⟨A, cc, rfl, ?_, hb⟩
      have := sl_of_own hown
      show SlN _ _ 1 _ _
      rw [posL_len]
      exact this
end Go.Proofs.YtahdfglelhdcnaaDoor
/- How deep an expression is: the program's walk. -/
namespace Go.Proofs.YtahdfglelhdcnaaDoor
open Go Go.RowKit
set_option linter.unusedVariables false
set_option maxRecDepth 100000 in
set_option maxHeartbeats 4000000 in
theorem depth_n (l : List Nod) (v : Value) (hl : l.length ≤ 100000) : ∀ (N : Nat) (e : Ex) (i : Nat) (w : World), Nods w v l → e.flat.length ≤ N → e.ok → AtE l i e →
    Calls Tryd.prog 34 #[v, .int .i64 i] w fun r w' => r = .returned (.int .i64 e.deep) ∧ Below w.heap.size w w'
  | 0, e, i, w, h, hN, ho, ha => by have := e.flat_pos; omega
  | N + 1, e, i, w, h, hN, ho, ha => by
    have hil := ha.lt
    have hle := ha.le
    have hd := e.deep_le
    have IH : Hid (∀ j (hj : j < e.ks.length) u, Below w.heap.size w u → Calls Tryd.prog 34 #[v, .int .i64 (posK i e.ks j)] u fun r w' => r = .returned (.int .i64 ((e.ks[j]).deep : Int)) ∧ Below u.heap.size u w') := fun j hj u hu =>
      depth_n l v hl N (e.ks[j]) (posK i e.ks j) u (h.below hu) (by have := AtE.kid_lt j hj; omega) (e.ok_ks ho _ (List.getElem_mem hj)) (ha.kid j hj)
    have HPB : Hid (∀ j (hj : j < e.ks.length), (e.ks[j]).deep ≤ 100000) := fun j hj => by
      have h1 := (e.ks[j]).deep_le; have h2 := AtE.kid_lt j hj; omega
    have HO := Lib.hid (operands_c l v w h hl e i ho ha)
    have HD := Lib.hid e.deep_ks
    have hk2 := e.ks_len
    have hds : e.deep ≤ 100000 := by omega
    obtain ⟨A0, c0, rfl, hc0⟩ := h.shape
    clear h ho ha hd
    go_enter Tryd.func34, Tryd.ntmps34
    go_wp2_with (go_at_call 60; refine (HO.out).mono ?_; rintro r w1 ⟨A, c, rfl, hints, hb1⟩)
    have HIN := Lib.hid hints
    have hcc : e.ks.length ≤ c := by obtain ⟨_, A2, c2, hv, hcc, _⟩ := hints; (simp only [Value.slice.injEq, posL_len] at hv); obtain ⟨_, _, rfl⟩ := hv; rw [posL_len] at hcc; exact hcc
    clear hints
    go_loopw [5, 12] (fun n k wr => ∃ j : Nat, j ≤ e.ks.length ∧ n = .int .i64 (maxK e.ks j : Int) ∧ k = .int .i64 j ∧ Below w1.heap.size w1 wr) (fun _ k _ => 2 - (intOf k).toNat)
    case atStart => exact ⟨0, Nat.zero_le _, rfl, rfl, Below.refl _ _⟩
    case round =>
      obtain ⟨j, hj, rfl, rfl, hb⟩ := hrel
      by_cases hjl : j < e.ks.length
      · have HS := Lib.hid (maxK_succ e.ks j hjl)
        have HI := Lib.hid (IH.out j hjl)
        have hb1' := HPB.out j hjl
        generalize hdd : (e.ks[j]).deep = dd at HS HI hb1'
        clear hdd
        obtain ⟨b2, off2, c2, hV, hc2, hbl2, hat2⟩ := HIN.out.at_ (by rw [posL_len]; omega)
        simp only [posL_len, Value.slice.injEq] at hV
        obtain ⟨rfl, _, rfl⟩ := hV
        have hcell := (hb.cell (p := ⟨b2, off2 + j, none⟩) hbl2).trans (hat2 j (by rw [posL_len]; exact hjl))
        rw [posL_at] at hcell
        have HBW := Lib.hid (bt hb1 hb)
        have HBR := Lib.hid hb
        clear hb hat2 hc2
        have hjl2 : (j : Int) < (e.ks.length : Int) := by omega
        go_wp2_with (go_at_call 34; refine (HI.out _ HBW.out).mono ?_; rintro r w3 ⟨rfl, hb3⟩)
        go_roundw
        case rel =>
          refine ⟨j + 1, by omega, ?_, by go_num, bt HBR.out hb3⟩
          rw [HS.out]
          congr 1
          first | omega | (split <;> omega)
        case measure => simp [intOf]; omega
      · have hje : j = e.ks.length := by omega
        have hds2 : (maxK e.ks e.ks.length : Int) < 100000 := by have := HD.out; omega
        go_wp2_with fail
        go_ret
        exact ⟨ret_int (by rw [HD.out]; go_num), bt hb1 hb⟩
theorem depth_c (e : Ex) (ho : e.ok) (v : Value) (w : World) (h : Nods w v e.flat) (hl : e.flat.length ≤ 100000) :
    Calls Tryd.prog 34 #[v, .int .i64 0] w fun r w' => r = .returned (.int .i64 e.deep) ∧ Below w.heap.size w w' := depth_n e.flat v hl _ e 0 w h (Nat.le_refl _) ho (AtE.whole e)
end Go.Proofs.YtahdfglelhdcnaaDoor

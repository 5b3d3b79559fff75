/- The names in an expression: the program's walk. -/
import Derived.Test.YtahdfglelhdcnaaDoorShwA
namespace Go.Proofs.YtahdfglelhdcnaaDoor
open Go Go.RowKit
set_option linter.unusedVariables false
theorem str_inj {a b : List UInt8} (h : str a = str b) : a = b := by
  have := congrArg (fun s => s.data.toList) h
  simpa [str_data] using this
theorem info_str : (Tryd.prog.info? 9).map (fun i => (i.zero, i.size, i.bytes)) = some (some (.string ByteArray.empty), 1, 16) := by kernel_rfl
theorem und_strs : Tryd.prog.underlying 41 = some (.slice 9) := by kernel_rfl
theorem str_one (l : List (List UInt8)) : ∀ u ∈ l.flatMap strCell, u.oneCell' = true := by
  intro u hu
  obtain ⟨x, _, hx⟩ := List.mem_flatMap.1 hu
  simp only [strCell, List.mem_cons, List.not_mem_nil, or_false] at hx
  subst hx; rfl
theorem sl_lit1 (w : World) (S : Obj) (v : Value) (t : TypeId) : SlN ((w.alloc S).alloc (.cells #[v] t)) (.slice (some ⟨w.heap.size + 1, 0, none⟩) 1 1) 1 1 [v] := by
  have := sl_lit (w.alloc S) [v] t 1 1 1 rfl (Nat.le_refl _)
  rw [World.size_alloc] at this
  exact this
theorem contains_c (out : List (List UInt8)) (x : List UInt8) (V : Value) (w : World) (hS : Strs w V out) (hl : out.length ≤ 100000) :
    Calls Tryd.prog 41 #[V, .string (str x)] w fun e w' => e = .returned (.bool (out.contains x)) ∧ w' = w := by
  by_cases h0 : 0 < out.length
  · obtain ⟨b, off, c, rfl, hc, hb, hat⟩ := hS.at_ h0
    have hlen : out.length ≤ (out.map str).length := by rw [List.length_map]; exact Nat.le_refl _
    refine (Tryd.slices_Contains_string b off out.length c (out.map str) (str x) w hlen (by omega) (fun j hj => ?_)).mono ?_
    · rw [List.length_map] at hj
      rw [hat j hj, List.getD_eq_getElem?_getD, List.getElem?_map, List.getElem?_eq_getElem hj]; rfl
    · rintro e w' ⟨rfl, rfl⟩
      refine ⟨ret_bool ?_, rfl⟩
      rw [Bool.eq_iff_iff, Lib.containsS_iff, List.contains_iff_mem, List.take_of_length_le (by rw [List.length_map]; exact Nat.le_refl _)]
      constructor
      · intro h
        obtain ⟨y, hy, e⟩ := List.mem_map.1 h
        rw [← str_inj e]; exact hy
      · intro h; exact List.mem_map.2 ⟨x, h, rfl⟩
  · have hn : out = [] := List.eq_nil_of_length_eq_zero (by omega)
    subst hn
    obtain ⟨A, c, rfl, hc⟩ := Strs.shape hS
    exact (Tryd.slices_Contains_string_empty A c (str x) w).mono fun e w' ⟨h1, h2⟩ => ⟨h1, h2⟩
theorem namsE_len : ∀ (l : List Nod) (out : List (List UInt8)), (l.foldl addN out).length ≤ out.length + l.length
  | [], out => Nat.le_refl _
  | x :: l, out => by
    have h := namsE_len l (addN out x)
    have h2 : (addN out x).length ≤ out.length + 1 := by
      unfold addN
      split
      · split
        · omega
        · simp
      · omega
    simp only [List.foldl_cons, List.length_cons]
    omega
theorem namsE_succ (l : List Nod) (j : Nat) (h : j < l.length) : namsE (l.take (j + 1)) = addN (namsE (l.take j)) l[j] := by
  unfold namsE
  rw [List.take_succ_eq_append_getElem h, List.foldl_append]; rfl
set_option maxRecDepth 100000 in
set_option maxHeartbeats 8000000 in
theorem Names_c (l : List Nod) (hl : l.length ≤ 1000) (hn : ∀ x ∈ l, x.name.length ≤ 1000000) (v : Value) (w : World) (hv : Nods w v l) (hE : Env w) :
    Calls Tryd.prog 24 #[v] w fun e w' => ∃ V, e = .returned V ∧ Strs w' V (namesE l) ∧ Below w.heap.size w w' := by
  obtain ⟨i0, hi0, hz0, hz1, hz2⟩ := info_parts info_str
  obtain ⟨A0, c0, rfl, hc0⟩ := hv.shape
  have HR := Lib.hid (Right_c l (by omega) hn _ w hv hE)
  cases hr : rightE l
  · have HS := Lib.hid (showE_not hr).2.2
    rw [hr] at HR
    clear hv hn hr hE
    go_enter Tryd.func24, Tryd.ntmps24
    go_wp2_with (go_at_call 17; refine (HR.out).mono ?_; rintro e w1 ⟨rfl, hb1⟩)
    go_ret
    exact ⟨_, rfl, by rw [HS.out]; exact Sl.nil _ _ _, hb1⟩
  · have HN : Hid (namesE l = namsE l) := by show _ = _; unfold namesE; rw [if_pos hr]
    have HV := Lib.hid hv
    rw [hr] at HR
    clear hv hn hr hE
    go_enter Tryd.func24, Tryd.ntmps24
    go_wp2_with (go_at_call 17; refine (HR.out).mono ?_; rintro e w1 ⟨rfl, hb1⟩)
    have HB1 := Lib.hid hb1
    clear hb1
    go_loopw [3, 11] (fun out k wr => ∃ j : Nat, j ≤ l.length ∧ k = .int .i64 j ∧ (∃ A c, out = .slice A (namsE (l.take j)).length c) ∧ wr.ownsRow w1.heap.size 9 1 out (namsE (l.take j)).length ((namsE (l.take j)).flatMap strCell) ∧ Below w1.heap.size w1 wr) (fun _ k _ => l.length - (intOf k).toNat)
    case atStart => exact ⟨0, Nat.zero_le _, rfl, ⟨none, 0, rfl⟩, own_nil _ _ _ _, Below.refl _ _⟩
    case round =>
      obtain ⟨j, hj, rfl, ⟨A, cc, rfl⟩, hown, hb⟩ := hrel
      have HOWN := Lib.hid hown
      have HB := Lib.hid hb
      have HSZ := Lib.hid hb.size
      by_cases hjl : j < l.length
      · have HS := Lib.hid (namsE_succ l j hjl)
        have hlenm : (namsE (l.take j)).length ≤ 1000 := by
          have := namsE_len (l.take j) []
          unfold namsE
          simp only [List.length_take, List.length_nil] at this
          omega
        obtain ⟨b, off, c, hE0, hcc, hbt, hat⟩ := Nods.at_ (l := l) (SlN.below HV.out HB1.out) (by omega)
        cases hE0
        have x1 := hat j hjl
        have hx0 := (hb.cell (p := ⟨_, _, none⟩) hbt).trans x1.op
        have hx1 := (hb.cell (p := ⟨_, _, none⟩) hbt).trans x1.n
        have hx2 := (hb.cell (p := ⟨_, _, none⟩) hbt).trans x1.name
        have hx3 := (hb.cell (p := ⟨_, _, none⟩) hbt).trans x1.pos
        have hjl2 : (j : Int) < (l.length : Int) := by omega
        have hj0 : (0 : Int) ≤ (j : Int) := Int.natCast_nonneg _
        have HST : Hid (∀ u, Below wr.heap.size wr u → Strs u (.slice A (namsE (l.take j)).length cc) (namsE (l.take j))) := fun u hu => SlN.below (sl_of_own hown) hu
        clear hb hat x1 hown
        generalize l[j] = x at hx0 hx1 hx2 hx3 HS
        generalize namsE (l.take j) = ns at HS hlenm HST HOWN
        have T4 : Hid (ns.length + 1 ≤ maxLen ∧ (ns.length + 1) * 16 ≤ 140737488355328) := by show _ ∧ _; unfold maxLen; constructor <;> omega
        by_cases o2 : x.op = 2
        · have ho2 : (x.op == 2) = true := by simp [o2]
          have HC : Hid (∀ u, Below wr.heap.size wr u → Calls Tryd.prog 41 #[.slice A ns.length cc, .string (str x.name)] u fun e w' => e = .returned (.bool (ns.contains x.name)) ∧ w' = u) := fun u hu => contains_c ns x.name _ u (HST.out u hu) (by omega)
          cases hcn : ns.contains x.name
          · have HS2 : Hid (namsE (l.take (j + 1)) = ns ++ [x.name]) := by show _ = _; rw [HS.out]; unfold addN; rw [if_pos o2, if_neg (by rw [hcn]; decide)]
            rw [hcn] at HC
            clear hcn o2 HS
            generalize x.name = nm at hx2 HC HS2
            generalize x.op = op at hx0 ho2
            go_wp2_with (first
              | (go_at_call 41; refine (HC.out _ (al _ _)).mono ?_; rintro e w3 ⟨rfl, rfl⟩)
              | (at_builtin; refine wpl_app rfl _ _ 41 rfl w1.heap.size 9 i0 _ 1 16 und_strs hi0 hz0 hz1 hz2 rfl Nat.zero_lt_one (.slice A ns.length cc) ns.length (ns.flatMap strCell) rfl (own_below HOWN.out (balloc (al wr _) _)) (.slice (some ⟨wr.heap.size + 1, 0, none⟩) 1 1) 1 ([nm].flatMap strCell) rfl (sl_lit1 wr _ _ _) (str_one _) T4.out.1 T4.out.2 (Nat.le_trans HSZ.out (Nat.le_trans (al wr _).size (al _ _).size)) ?_; intro v6 w6 hown6 hb6; obtain ⟨A6, c6, rfl⟩ := own_shape hown6; have hB6 := btB (btB HB.out (balloc (al wr _) _) HSZ.out) hb6 (Nat.le_refl _)))
            go_roundw
            case rel =>
              refine ⟨j + 1, by omega, by go_num, ⟨A6, c6, ?_⟩, ?_, hB6⟩
              · rw [HS2.out]; simp
              · rw [HS2.out, List.flatMap_append]
                simp only [List.length_append, List.length_cons, List.length_nil]
                exact hown6
            case measure => simp [intOf]; omega
          · have HS2 : Hid (namsE (l.take (j + 1)) = ns) := by show _ = _; rw [HS.out]; unfold addN; rw [if_pos o2, if_pos hcn]
            rw [hcn] at HC
            clear hcn o2 HS
            generalize x.name = nm at hx2 HC
            generalize x.op = op at hx0 ho2
            go_wp2_with (first
              | (go_at_call 41; refine (HC.out _ (al _ _)).mono ?_; rintro e w3 ⟨rfl, rfl⟩))
            go_roundw
            case rel =>
              refine ⟨j + 1, by omega, by go_num, ⟨A, cc, ?_⟩, ?_, bt HB.out (al _ _)⟩
              · rw [HS2.out]
              · rw [HS2.out]; exact own_below HOWN.out (al _ _)
            case measure => simp [intOf]; omega
        · have ho2 : (x.op == 2) = false := by simp [o2]
          have HS2 : Hid (namsE (l.take (j + 1)) = ns) := by show _ = _; rw [HS.out]; unfold addN; rw [if_neg o2]
          clear o2 HS
          generalize x.op = op at hx0 ho2
          go_wp2_with fail
          go_roundw
          case rel =>
            refine ⟨j + 1, by omega, by go_num, ⟨A, cc, ?_⟩, ?_, bt HB.out (al _ _)⟩
            · rw [HS2.out]
            · rw [HS2.out]; exact own_below HOWN.out (al _ _)
          case measure => simp [intOf]; omega
      · obtain rfl : j = l.length := by omega
        have HN2 : Hid (namsE l = namsE (l.take l.length)) := by show _ = _; rw [List.take_length]
        go_wp2_with fail
        go_ret
        refine ⟨_, rfl, ?_, bt HB1.out HB.out⟩
        rw [HN.out, HN2.out]
        exact sl_of_own HOWN.out
end Go.Proofs.YtahdfglelhdcnaaDoor
/- The names in an expression: the reference's walk. -/
namespace Go.Proofs.YtahdfglelhdcnaaDoor
open Go Go.RowKit
set_option linter.unusedVariables false
theorem own_empty (w : World) (t : TypeId) (size : Nat) (hs : 0 < size) : (w.alloc (.cells #[] t)).ownsRow w.heap.size t size (.slice (some ⟨w.heap.size, 0, none⟩) 0 0) 0 [] :=
  World.ownsRow_lit w #[] 0 (Nat.le_refl _) (Nat.zero_le _) (by simp)
theorem contains_take (ns : List (List UInt8)) (x : List UInt8) (k : Nat) (h : k < ns.length) : (ns.take (k + 1)).contains x = ((ns.take k).contains x || (ns[k] == x)) := by
  rw [List.take_succ_eq_append_getElem h, Bool.eq_iff_iff]
  simp only [List.contains_iff_mem, List.mem_append, List.mem_singleton, Bool.or_eq_true, beq_iff_eq]
  constructor
  · rintro (h1 | h1)
    · exact .inl h1
    · exact .inr h1.symm
  · rintro (h1 | h1)
    · exact .inl h1
    · exact .inr h1.symm
set_option maxRecDepth 100000 in
set_option maxHeartbeats 8000000 in
theorem rNames_c (l : List Nod) (hl : l.length ≤ 1000) (hn : ∀ x ∈ l, x.name.length ≤ 1000000) (v : Value) (w : World) (hv : Nods w v l) :
    Calls Tryd.prog 25 #[v] w fun e w' => ∃ V, e = .returned V ∧ Strs w' V (namesE l) ∧ Below w.heap.size w w' := by
  obtain ⟨i0, hi0, hz0, hz1, hz2⟩ := info_parts info_str
  obtain ⟨A0, c0, rfl, hc0⟩ := hv.shape
  have HR : Hid (∀ u, Below w.heap.size w u → Calls Tryd.prog 18 #[.slice A0 l.length c0] u fun e w' => e = .returned (.bool (rightE l)) ∧ Below u.heap.size u w') := fun u hu => rRight_c l (by omega) hn _ u (hv.below hu)
  have HE0 := Lib.hid (own_empty w 9 1 Nat.zero_lt_one)
  cases hr : rightE l
  · have HS := Lib.hid (showE_not hr).2.2
    rw [hr] at HR
    clear hv hn hr
    go_enter Tryd.func25, Tryd.ntmps25
    go_wp2_with fail
    generalize hW : World.alloc w _ = wd
    have hwd : Below w.heap.size w wd := by subst hW; exact al _ _
    have HWD := Lib.hid hwd
    clear hW hwd HE0
    go_loopw [3, 4] (fun out k wr => k = .int .i64 0 ∧ wr = wd ∧ out = .slice (some ⟨w.heap.size, 0, none⟩) 0 0) (fun _ _ _ => 0)
    case atStart => exact ⟨rfl, rfl, rfl⟩
    case round =>
      obtain ⟨rfl, rfl, rfl⟩ := hrel
      by_cases h0 : 0 < l.length
      · have h0' : (0 : Int) < (l.length : Int) := by omega
        go_wp2_with (go_at_call 18; refine (HR.out _ HWD.out).mono ?_; rintro e w1 ⟨rfl, hb1⟩)
        go_ret
        refine ⟨_, rfl, ?_, bt HWD.out hb1⟩
        rw [HS.out]
        exact ⟨rfl, some ⟨w.heap.size, 0, none⟩, 0, rfl, Nat.le_refl _, fun h => absurd h (by decide)⟩
      · have h0' : ¬ ((0 : Int) < (l.length : Int)) := by omega
        go_wp2_with fail
        go_ret
        refine ⟨_, rfl, ?_, HWD.out⟩
        rw [HS.out]
        exact ⟨rfl, some ⟨w.heap.size, 0, none⟩, 0, rfl, Nat.le_refl _, fun h => absurd h (by decide)⟩
  · have HN : Hid (namesE l = namsE l) := by show _ = _; unfold namesE; rw [if_pos hr]
    have HV := Lib.hid hv
    rw [hr] at HR
    clear hv hn hr
    go_enter Tryd.func25, Tryd.ntmps25
    go_wp2_with fail
    go_loopw [3, 4] (fun out k wr => ∃ j : Nat, j ≤ l.length ∧ k = .int .i64 j ∧ (∃ A c, out = .slice A (namsE (l.take j)).length c) ∧ wr.ownsRow w.heap.size 9 1 out (namsE (l.take j)).length ((namsE (l.take j)).flatMap strCell) ∧ Below w.heap.size w wr) (fun _ k _ => l.length - (intOf k).toNat)
    case atStart => exact ⟨0, Nat.zero_le _, rfl, ⟨_, _, rfl⟩, HE0.out, al _ _⟩
    case round =>
      obtain ⟨j, hj, rfl, ⟨A, cc, rfl⟩, hown, hb⟩ := hrel
      have HOWN := Lib.hid hown
      have HB := Lib.hid hb
      by_cases hjl : j < l.length
      · have HS := Lib.hid (namsE_succ l j hjl)
        have hlenm : (namsE (l.take j)).length ≤ 1000 := by
          have := namsE_len (l.take j) []
          unfold namsE
          simp only [List.length_take, List.length_nil] at this
          omega
        have hjl2 : (j : Int) < (l.length : Int) := by omega
        have hj0 : (0 : Int) ≤ (j : Int) := Int.natCast_nonneg _
        clear hb hown
        generalize namsE (l.take j) = ns at HS hlenm HOWN
        go_upto_region 5 with (go_at_call 18; refine (HR.out _ HB.out).mono ?_; rintro e w1 ⟨rfl, hb1⟩)
        have HB1 := Lib.hid (bt HB.out hb1)
        have HO1 := Lib.hid (own_below HOWN.out hb1)
        obtain ⟨b, off, c, hE0, hcc, hbt, hat⟩ := Nods.at_ (l := l) (SlN.below HV.out HB1.out) (by omega)
        cases hE0
        have x1 := hat j hjl
        have hx0 := x1.op
        have hx2 := x1.name
        have HST := Lib.hid (sl_of_own HO1.out)
        clear hat x1 hb1 HOWN HB
        generalize l[j] = x at hx0 hx2 HS
        have T4 : Hid (ns.length + 1 ≤ maxLen ∧ (ns.length + 1) * 16 ≤ 140737488355328) := by show _ ∧ _; unfold maxLen; constructor <;> omega
        generalize hh0 : (x.op != 2) = h0
        have HH0 := Lib.hid hh0
        clear hh0
        have hbl5 := hbt
        go_wp2_with fail
        have hhx : (x.op != 2) = h0 := HH0.out
        (try rw [hhx])
        go_loopw [5, 6] (fun had k wr => Below w1.heap.size w1 wr ∧ ∃ m : Nat, m ≤ ns.length ∧ k = .int .i64 m ∧ had = .bool (h0 || (ns.take m).contains x.name)) (fun _ k _ => ns.length - (intOf k).toNat)
        case atStart => exact ⟨Below.refl _ _, 0, Nat.zero_le _, rfl, by simp⟩
        case round =>
          obtain ⟨hbr, m, hm, rfl, rfl⟩ := hrel
          have HBR := Lib.hid hbr
          by_cases hmn : m < ns.length
          · obtain ⟨b3, off3, c3, hE3, hcc3, hbt3, hat3⟩ := Strs.at_ (l := ns) HST.out (by omega)
            cases hE3
            have hs0 := (hbr.cell (p := ⟨_, _, none⟩) hbt3).trans (hat3 m hmn)
            have hy2 := (hbr.cell (p := ⟨_, _, none⟩) hbt).trans hx2
            have hm2 : (m : Int) < (ns.length : Int) := by omega
            have hm0 : (0 : Int) ≤ (m : Int) := Int.natCast_nonneg _
            have HCT := Lib.hid (contains_take ns x.name m hmn)
            clear hat3 hbr
            generalize ns[m] = y at hs0 HCT
            generalize hcm : (ns.take m).contains x.name = cm at HCT
            cases hhc : (h0 || cm)
            · have hnm : (y == x.name) = ((str y).toList == (str x.name).toList) := by rw [str_toList, str_toList]
              have HW : Hid ((h0 || (ns.take (m + 1)).contains x.name) = ((str y).toList == (str x.name).toList)) := by
                show _ = _
                rw [HCT.out, ← Bool.or_assoc, hhc, hnm]; rfl
              clear hhc hcm hnm
              go_wp2_with fail
              go_quiet (fail)
              go_wp2_with fail
              go_roundw
              case rel =>
                refine ⟨bdrN HBR.out _, m + 1, by omega, by go_num, ?_⟩
                rw [HW.out]
              case measure => simp [intOf]; omega
            · have HW : Hid ((h0 || (ns.take (m + 1)).contains x.name) = true) := by
                show _ = _
                rw [HCT.out, ← Bool.or_assoc, hhc]; rfl
              clear hhc hcm
              go_wp2_with fail
              go_quiet (fail)
              go_wp2_with fail
              go_roundw
              case rel =>
                refine ⟨bdrN HBR.out _, m + 1, by omega, by go_num, ?_⟩
                rw [HW.out]
              case measure => simp [intOf]; omega
          · obtain rfl : m = ns.length := by omega
            rw [List.take_length]
            have hy2 := (hbr.cell (p := ⟨_, _, none⟩) hbt).trans hx2
            have HB3 := Lib.hid (bt HB1.out hbr)
            have HO3 := Lib.hid (own_below HO1.out hbr)
            clear hbr
            cases hhc : (h0 || ns.contains x.name)
            · have HS2 : Hid (namsE (l.take (j + 1)) = ns ++ [x.name]) := by
                show _ = _
                rw [HS.out]; unfold addN
                have hh : h0 = false := by revert hhc; cases h0 <;> simp
                have hx : x.op = 2 := by have := HH0.out; rw [hh] at this; simpa using this
                have hc : ns.contains x.name = false := by rw [hh] at hhc; simpa using hhc
                rw [if_pos hx, if_neg (by rw [hc]; decide)]
              clear hhc
              go_wp2_with (first
                | (at_builtin; refine wpl_app rfl _ _ 41 rfl w.heap.size 9 i0 _ 1 16 und_strs hi0 hz0 hz1 hz2 rfl Nat.zero_lt_one (.slice A ns.length cc) ns.length (ns.flatMap strCell) rfl (own_below HO3.out (al _ _)) (.slice (some ⟨wr.heap.size, 0, none⟩) 1 1) 1 ([x.name].flatMap strCell) rfl (sl_lit wr [.string (str x.name)] 9 1 1 1 rfl (Nat.le_refl _)) (str_one _) T4.out.1 T4.out.2 (Nat.le_trans HB3.out.size (al _ _).size) ?_; intro v6 w6 hown6 hb6; obtain ⟨A6, c6, rfl⟩ := own_shape hown6; have hB6 := btB (btB HB3.out (al wr _) HB3.out.size) hb6 (Nat.le_refl _)))
              go_roundw
              case rel =>
                refine ⟨j + 1, by omega, by go_num, ⟨A6, c6, ?_⟩, ?_, hB6⟩
                · rw [HS2.out]; simp
                · rw [HS2.out, List.flatMap_append]
                  simp only [List.length_append, List.length_cons, List.length_nil]
                  exact hown6
              case measure => simp [intOf]; omega
            · have HS2 : Hid (namsE (l.take (j + 1)) = ns) := by
                show _ = _
                rw [HS.out]; unfold addN
                by_cases hx : x.op = 2
                · have hh : h0 = false := by rw [← HH0.out]; simp [hx]
                  have hc : ns.contains x.name = true := by rw [hh] at hhc; simpa using hhc
                  rw [if_pos hx, if_pos hc]
                · rw [if_neg hx]
              clear hhc
              go_wp2_with fail
              go_roundw
              case rel =>
                refine ⟨j + 1, by omega, by go_num, ⟨A, cc, ?_⟩, ?_, HB3.out⟩
                · rw [HS2.out]
                · rw [HS2.out]; exact HO3.out
              case measure => simp [intOf]; omega
      · obtain rfl : j = l.length := by omega
        have HN2 : Hid (namsE l = namsE (l.take l.length)) := by show _ = _; rw [List.take_length]
        go_wp2_with fail
        go_ret
        refine ⟨_, rfl, ?_, HB.out⟩
        rw [HN.out, HN2.out]
        exact sl_of_own HOWN.out
end Go.Proofs.YtahdfglelhdcnaaDoor
/- The same nodes: the program's walk. -/
namespace Go.Proofs.YtahdfglelhdcnaaDoor
open Go Go.RowKit
set_option linter.unusedVariables false
set_option maxRecDepth 100000 in
set_option maxHeartbeats 4000000 in
theorem same1_c (x y : Nod) (w : World) :
    Calls Tryd.prog 45 #[nodV x, nodV y] w fun e w' => e = .returned (.bool (nodS false x y)) ∧ Below w.heap.size w w' := by
  have hnm : (x.name == y.name) = ((str x.name).toList == (str y.name).toList) := by rw [str_toList, str_toList]
  have hN : nodS false x y = ((x.op == y.op) && (x.n == y.n) && ((str x.name).toList == (str y.name).toList)) := by
    rw [← hnm]; unfold nodS bne
    cases (x.op == y.op) <;> cases (x.n == y.n) <;> cases (x.name == y.name) <;> rfl
  unfold nodV
  cases h0 : (x.op == y.op)
  · have HR : Hid (nodS false x y = false) := by show _ = _; rw [hN, h0]; rfl
    clear hN hnm
    go_enter Tryd.func45, Tryd.ntmps45
    go_wp2_with fail
    go_ret
    exact ⟨ret_bool HR.out.symm, by repeat (first | exact Below.refl _ _ | refine balloc ?_ _)⟩
  · cases h1 : (x.n == y.n)
    · have HR : Hid (nodS false x y = false) := by show _ = _; rw [hN, h0, h1]; rfl
      clear hN hnm
      go_enter Tryd.func45, Tryd.ntmps45
      go_wp2_with fail
      go_ret
      exact ⟨ret_bool HR.out.symm, by repeat (first | exact Below.refl _ _ | refine balloc ?_ _)⟩
    · have HR : Hid (nodS false x y = ((str x.name).toList == (str y.name).toList)) := by show _ = _; rw [hN, h0, h1]; rfl
      cases h2 : ((str x.name).toList == (str y.name).toList)
      all_goals
        rw [h2] at HR
        clear hN hnm
        go_enter Tryd.func45, Tryd.ntmps45
        go_wp2_with fail
        go_ret
        exact ⟨ret_bool HR.out.symm, by repeat (first | exact Below.refl _ _ | refine balloc ?_ _)⟩
def nd (l : List Nod) (i : Nat) : Nod := l.getD i ⟨0, 0, [], 0⟩
theorem nd_at {l : List Nod} {i : Nat} (h : i < l.length) : nd l i = l[i] := by
  unfold nd; rw [List.getD_eq_getElem?_getD, List.getElem?_eq_getElem h]; rfl
set_option maxRecDepth 100000 in
set_option maxHeartbeats 4000000 in
theorem equal_c (a b : List Nod) (ha : a.length ≤ 100000) (hb : b.length ≤ 100000) (va vb : Value) (w : World) (hA : Nods w va a) (hB : Nods w vb b) :
    Calls Tryd.prog 44 #[va, vb, .func (.func 45) #[] #[]] w fun e w' => e = .returned (.bool (sameE false a b)) ∧ Below w.heap.size w w' := by
  obtain ⟨A1, c1, rfl, hc1⟩ := hA.shape
  obtain ⟨A2, c2, rfl, hc2⟩ := hB.shape
  by_cases hl : a.length = b.length
  · have hln : ((a.length : Int) != (b.length : Int)) = false := by simp [hl]
    have HA := Lib.hid hA
    have HB := Lib.hid hB
    have HS : Hid (∀ x y u, Calls Tryd.prog 45 #[nodV x, nodV y] u fun e w' => e = .returned (.bool (nodS false x y)) ∧ Below u.heap.size u w') := fun x y u => same1_c x y u
    have HL := Lib.hid hl
    clear hA hB hl
    go_enter Tryd.func44, Tryd.ntmps44
    go_wp2_with fail
    go_loopw [17] (fun k wr => Below w.heap.size w wr ∧ ∃ j : Nat, j ≤ a.length ∧ k = .int .i64 j ∧ ∀ j', j' < j → nodS false (nd a j') (nd b j') = true) (fun k _ => a.length - (intOf k).toNat)
    case atStart => exact ⟨Below.refl _ _, 0, Nat.zero_le _, rfl, fun j' h => absurd h (by omega)⟩
    case round =>
      obtain ⟨hbw, j, hj, rfl, hall⟩ := hrel
      have HBW := Lib.hid hbw
      have HALL := Lib.hid hall
      clear hall
      by_cases hjl : j < a.length
      · obtain ⟨b1, o1, k1, hE1, hk1, hl1, hat1⟩ := Nods.at_ (l := a) HA.out (by omega)
        obtain ⟨b2, o2, k2, hE2, hk2, hl2, hat2⟩ := Nods.at_ (l := b) HB.out (by have := HL.out; omega)
        cases hE1
        cases hE2
        have x1 := hat1 j hjl
        have y1 := hat2 j (by have := HL.out; omega)
        rw [← nd_at hjl] at x1
        rw [← nd_at (by have := HL.out; omega)] at y1
        have hx0 := (hbw.cell (p := ⟨_, _, none⟩) hl1).trans x1.op
        have hx1 := (hbw.cell (p := ⟨_, _, none⟩) hl1).trans x1.n
        have hx2 := (hbw.cell (p := ⟨_, _, none⟩) hl1).trans x1.name
        have hx3 := (hbw.cell (p := ⟨_, _, none⟩) hl1).trans x1.pos
        have hy0 := (hbw.cell (p := ⟨_, _, none⟩) hl2).trans y1.op
        have hy1 := (hbw.cell (p := ⟨_, _, none⟩) hl2).trans y1.n
        have hy2 := (hbw.cell (p := ⟨_, _, none⟩) hl2).trans y1.name
        have hy3 := (hbw.cell (p := ⟨_, _, none⟩) hl2).trans y1.pos
        have HF : Hid (nodS false (nd a j) (nd b j) = false → sameE false a b = false) := fun h => sameE_no HL.out j hjl (by rw [nd_at hjl, nd_at (by have := HL.out; omega)] at h; exact h)
        have HT : Hid (nodS false (nd a j) (nd b j) = true → ∀ j', j' = j → nodS false (nd a j') (nd b j') = true) := fun h j' e => by subst e; exact h
        have hj0 : (0 : Int) ≤ (j : Int) := Int.natCast_nonneg _
        have hj1 : (j : Int) < (a.length : Int) := by omega
        have hj2 : (j : Int) < (b.length : Int) := by have := HL.out; omega
        have hb1l := Nat.lt_of_lt_of_le hl1 hbw.size
        have hb2l := Nat.lt_of_lt_of_le hl2 hbw.size
        clear hat1 hat2 x1 y1 hbw
        generalize nd a j = x at hx0 hx1 hx2 hx3 HF HT
        generalize nd b j = y at hy0 hy1 hy2 hy3 HF HT
        have HSX := Lib.hid (HS.out x y)
        unfold nodV at HSX
        cases hs : nodS false x y
        · rw [hs] at HSX
          have HF2 := Lib.hid (HF.out hs)
          clear hs
          go_wp2_with (go_at_call 45; refine (HSX.out _).mono ?_; rintro e w3 ⟨rfl, hb3⟩)
          go_ret
          exact ⟨ret_bool HF2.out.symm, bt HBW.out (bt (balloc (al _ _) _) hb3)⟩
        · rw [hs] at HSX
          have HT2 := Lib.hid (HT.out hs)
          clear hs
          go_wp2_with (go_at_call 45; refine (HSX.out _).mono ?_; rintro e w3 ⟨rfl, hb3⟩)
          go_roundw
          case rel =>
            refine ⟨bt HBW.out (bt (balloc (al _ _) _) hb3), j + 1, by omega, by go_num, fun j' hlt => ?_⟩
            by_cases hjj : j' < j
            · exact HALL.out j' hjj
            · exact HT2.out j' (by omega)
          case measure => simp [intOf]; omega
      · have HY := Lib.hid (sameE_yes (pl := false) HL.out (fun i hi => by have := HALL.out i (by omega); rw [nd_at hi, nd_at (by have := HL.out; omega)] at this; exact this))
        go_wp2_with fail
        go_ret
        exact ⟨ret_bool HY.out.symm, HBW.out⟩
  · have hln : ((a.length : Int) != (b.length : Int)) = true := by rw [bne_iff_ne]; omega
    have HN := Lib.hid (sameE_len (pl := false) hl)
    go_enter Tryd.func44, Tryd.ntmps44
    go_wp2_with fail
    go_ret
    exact ⟨ret_bool HN.out.symm, Below.refl _ _⟩
theorem Same_c (a b : List Nod) (ha : a.length ≤ 100000) (hb : b.length ≤ 100000) (va vb : Value) (w : World) (hA : Nods w va a) (hB : Nods w vb b) :
    Calls Tryd.prog 28 #[va, vb] w fun e w' => e = .returned (.bool (sameE false a b)) ∧ Below w.heap.size w w' := by
  have HC := Lib.hid (equal_c a b ha hb va vb w hA hB)
  obtain ⟨A1, c1, rfl, hc1⟩ := hA.shape
  obtain ⟨A2, c2, rfl, hc2⟩ := hB.shape
  clear hA hB
  go_enter Tryd.func28, Tryd.ntmps28
  go_wp2_with (go_at_call 44; refine (HC.out).mono ?_; rintro e w3 ⟨rfl, hb3⟩)
  go_ret
  exact ⟨rfl, hb3⟩
end Go.Proofs.YtahdfglelhdcnaaDoor

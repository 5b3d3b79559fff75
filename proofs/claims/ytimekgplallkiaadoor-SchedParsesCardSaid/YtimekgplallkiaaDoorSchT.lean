/- The parts of a schedule between its crashes: the reference's walk. -/
import Derived.Test.YtimekgplallkiaaDoorSchS
namespace Go.Proofs.YtimekgplallkiaaDoor
open Go Go.RowKit
set_option linter.unusedVariables false
theorem cuts_le (l : List Pk) : (cutsK l).length ≤ l.length + 1 := by rw [cuts_len]; have := crash_le l; omega
theorem flat_len : ∀ (a : List (List Pk)) (x : List Pk), x ∈ a → x.length ≤ a.flatten.length
  | b :: r, x, h => by
    rw [List.flatten_cons, List.length_append]
    rcases List.mem_cons.1 h with rfl | h
    · omega
    · have := flat_len r x h; omega
theorem part_le {l : List Pk} {x : List Pk} (h : x ∈ cutsK l) : x.length ≤ l.length := by
  have h2 := flat_len _ _ h
  rw [cuts_flat l] at h2
  exact Nat.le_trans h2 (List.length_filter_le _ _)
theorem two_le {l : List Pk} {rl : List Rv} {pl : List Pv} (h : cutsK l = rl.map (·.l) ++ [pl.map (·.p)]) : rl.length ≤ l.length ∧ pl.length ≤ l.length := by
  have h1 := cuts_le l
  have h2 : (pl.map (·.p)).length ≤ l.length := part_le (by rw [h]; simp)
  rw [h] at h1
  simp only [List.length_append, List.length_map, List.length_cons, List.length_nil] at h1 h2
  exact ⟨by omega, h2⟩
theorem CutG.fresh {B : Nat} {w : World} {out : Value} {n : Nat} {tail : List Value} {rl : List Rv} (h : CutG B w out (.slice none 0 0) n tail rl []) (hB : B ≤ w.heap.size) :
    CutG B (w.alloc (.cells #[] 27)) out (.slice (some ⟨w.heap.size, 0, none⟩) 0 0) n tail rl [] := by
  have hb := al w (.cells #[] 27)
  refine ⟨own_below h.own hb, World.ownsRow_lit w #[] 0 hB (Nat.zero_le _) (by simp), fun k hk ho => ?_, fun x hx => (h.rows x hx).step hb.size (fun k hk _ => hb.block k hk) (fun k hk hT => ?_), by simp⟩
  · simp only [Value.ownBlock, Option.some.injEq] at hk
    have := (h.own.lt k ho).2
    omega
  · rcases hT with hT | hT
    · exact .inl hT
    · simp only [Value.ownBlock, Option.some.injEq] at hT
      omega
theorem CutG.nil (B : Nat) (w : World) (out : Value) (h : w.ownsRow B 22 1 out 0 []) : CutG B w out (.slice none 0 0) 0 [] [] [] :=
  ⟨h, World.ownsRow_nil _ _ _ _, (fun k hk => by cases hk), by simp, by simp⟩
theorem cuts_yes {l : List Pk} {j : Nat} (h : j < l.length) (hk : l[j].kind = 3) {rl : List Rv} {pl : List Pv} {v : Value} (hc : cutsK (l.take j) = rl.map (·.l) ++ [pl.map (·.p)]) :
    cutsK (l.take (j + 1)) = (rl ++ [(⟨v, pl.map (·.p)⟩ : Rv)]).map (·.l) ++ [([] : List Pv).map (·.p)] := by
  rw [cuts_take l j h, if_pos hk, hc]; simp
theorem cuts_no {l : List Pk} {j : Nat} (h : j < l.length) (hk : ¬ l[j].kind = 3) {rl : List Rv} {pl : List Pv} {v : Value} (hc : cutsK (l.take j) = rl.map (·.l) ++ [pl.map (·.p)]) :
    cutsK (l.take (j + 1)) = rl.map (·.l) ++ [(pl ++ [(⟨l[j], v⟩ : Pv)]).map (·.p)] := by
  rw [cuts_take l j h, if_neg hk, hc, pushK_snoc]; simp
theorem two_in {B : Nat} {w : World} {out last : Value} {n : Nat} {tail : List Value} {rl : List Rv} {pl : List Pv} (h : CutG B w out last n tail rl pl) {k : Nat} (hk : Two out last k) : B ≤ k ∧ k < w.heap.size := by
  rcases hk with hk | hk
  · exact h.own.lt k hk
  · exact h.lasts.lt k hk
set_option maxRecDepth 100000 in
set_option maxHeartbeats 8000000 in
theorem rCuts_c (l : List Pk) (hl : l.length ≤ 100000000) (v : Value) (w : World) (hv : Pks w v l) :
    Calls Tryd.prog 17 #[v] w (CutPost l w) := by
  obtain ⟨i0, hi0, hz0, hz1, hz2⟩ := info_parts info_pick
  obtain ⟨i1, hi1, hy0, hy1, hy2⟩ := info_parts info_picks
  obtain ⟨A0, c0, rfl, hc0⟩ := hv.shape
  have HV := Lib.hid hv
  clear hv
  have HS0 : Hid (CutG w.heap.size ((w.alloc (.cells #[] 22)).alloc (.cells #[] 27)) (.slice (some ⟨w.heap.size, 0, none⟩) 0 0) (.slice (some ⟨w.heap.size + 1, 0, none⟩) 0 0) 0 [] [] []) := by
    have h := (CutG.nil w.heap.size (w.alloc (.cells #[] 22)) _ (World.ownsRow_lit w #[] 0 (Nat.le_refl _) (Nat.zero_le _) (by simp))).fresh (by simp)
    rw [World.size_alloc] at h
    exact h
  have HSB : Hid (Below w.heap.size w ((w.alloc (.cells #[] 22)).alloc (.cells #[] 27))) := balloc (al w _) _
  have HP : Hid (∀ v e w', e = Ending.returned v → PRs w' v (cutsK l) → Below w.heap.size w w' → CutPost l w e w') := fun v e w' he h1 h2 => by subst he; exact cut_post h1 h2
  generalize CutPost l w = Post at HP ⊢
  go_enter Tryd.func17, Tryd.ntmps17
  go_wp2_with fail
  go_loopw [3, 4, 5] (fun out part k wr => ∃ (j : Nat) (rl : List Rv) (pl : List Pv), j ≤ l.length ∧ k = .int .i64 j ∧ (∃ A c, out = .slice A rl.length c) ∧ (∃ A c, part = .slice A pl.length c) ∧ cutsK (l.take j) = rl.map (·.l) ++ [pl.map (·.p)] ∧ CutG w.heap.size wr out part rl.length [] rl pl ∧ Below w.heap.size w wr) (fun _ _ k _ => l.length - (intOf k).toNat)
  case atStart => exact ⟨0, [], [], Nat.zero_le _, rfl, ⟨_, _, rfl⟩, ⟨_, _, rfl⟩, rfl, HS0.out, HSB.out⟩
  case round =>
    obtain ⟨j, rl, pl, hj, rfl, ⟨A, c, rfl⟩, ⟨A2, c2, rfl⟩, hcut, hg, hb⟩ := hrel
    have hj0 : (0 : Int) ≤ (j : Int) := Int.natCast_nonneg _
    obtain ⟨hle1, hle2⟩ := two_le hcut
    rw [List.length_take] at hle1 hle2
    have HT1 : Hid (rl.length + 1 ≤ maxLen ∧ (rl.length + 1) * 24 ≤ 140737488355328) := by show _ ∧ _; unfold maxLen; constructor <;> omega
    have HT2 : Hid (pl.length + 1 ≤ maxLen ∧ (pl.length + 1) * 48 ≤ 140737488355328) := by show _ ∧ _; unfold maxLen; constructor <;> omega
    have HC := Lib.hid hcut
    have HG := Lib.hid hg
    have HB := Lib.hid hb
    have HSZ : Hid (w.heap.size ≤ wr.heap.size) := hb.size
    clear hcut hg hle1 hle2
    by_cases hjl : j < l.length
    · have hjl2 : (j : Int) < (l.length : Int) := by omega
      obtain ⟨b, off, c3, hE0, hcc, hbt, hat⟩ := Pks.at_ (l := l) HV.out (by omega)
      cases hE0
      obtain ⟨A1, n1, x1, hz1'⟩ := hat j hjl
      have hx0 := (hb.cell (p := ⟨_, _, none⟩) hbt).trans x1.kind
      have hx1 := (hb.cell (p := ⟨_, _, none⟩) hbt).trans x1.t
      have hx2 := (hb.cell (p := ⟨_, _, none⟩) hbt).trans x1.i
      have hx3 := (hb.cell (p := ⟨_, _, none⟩) hbt).trans x1.cut
      have HZ := Lib.hid hz1'
      have HY : Hid (l[j].kind = 3 → cutsK (l.take (j + 1)) = (rl ++ [(⟨.slice A2 pl.length c2, pl.map (·.p)⟩ : Rv)]).map (·.l) ++ [([] : List Pv).map (·.p)]) := fun h => cuts_yes hjl h HC.out
      have HN : Hid (¬ l[j].kind = 3 → cutsK (l.take (j + 1)) = rl.map (·.l) ++ [(pl ++ [(⟨l[j], .slice A1 l[j].cut.length n1⟩ : Pv)]).map (·.p)]) := fun h => cuts_no hjl h HC.out
      clear hat x1 hz1' hb
      generalize l[j] = x at hx0 hx1 hx2 hx3 HZ HY HN
      cases hk : (x.kind == 3)
      · have HN2 := Lib.hid (HN.out (by intro h; rw [h] at hk; cases hk))
        clear HY HN
        go_wp2_with (first
          | (at_builtin; refine wpl_appO rfl _ _ 22 rfl w.heap.size 27 i0 _ 4 48 Tryd.underlying22 hi0 hz0 hz1 hz2 rfl (by decide) (.slice A2 pl.length c2) pl.length (pl.flatMap Pv.cells) rfl (HG.out.below (al wr _)).lasts (.slice (some ⟨wr.heap.size, 0, none⟩) 1 1) 1 ([(⟨x, .slice A1 x.cut.length n1⟩ : Pv)].flatMap Pv.cells) rfl (sl_pick wr ⟨x, .slice A1 x.cut.length n1⟩) (pick_one _ (by simp [Value.oneCell'])) HT2.out.1 HT2.out.2 (Nat.le_trans HSZ.out (al wr _).size) ?_; intro v6 w6 hown6 hb6 hg6 hat6; obtain ⟨A6, c6, rfl⟩ := own_shape hown6; have hB6 := btB (bt HB.out (al wr _)) hb6 (Nat.le_refl _)))
        go_roundw
        case rel =>
          refine ⟨j + 1, rl, pl ++ [⟨x, .slice A1 x.cut.length n1⟩], by omega, by go_num, ⟨A, c, rfl⟩, ⟨A6, c6, by rw [List.length_append]; rfl⟩, HN2.out, ?_, hB6⟩
          refine (HG.out.below (al wr _)).push ⟨x, .slice A1 x.cut.length n1⟩ ?_ hown6 hg6 hat6
          exact ((off_sl HZ.out (fun k hk hT => by have := (two_in HG.out hT).1; omega)).below HB.out).below (al wr _)
        case measure => simp [intOf]; omega
      · have HY2 := Lib.hid (HY.out (by simpa using hk))
        clear HY HN
        go_wp2_with (first
          | (at_builtin; refine wpl_appO rfl _ _ 31 rfl w.heap.size 22 i1 _ 1 24 Tryd.underlying31 hi1 hy0 hy1 hy2 rfl (by decide) (.slice A rl.length c) rl.length (rl.flatMap Rv.cells ++ []) rfl (HG.out.below (al wr _)).own (.slice (some ⟨wr.heap.size, 0, none⟩) 1 1) 1 ([(⟨.slice A2 pl.length c2, pl.map (·.p)⟩ : Rv)].flatMap Rv.cells) rfl (sl_row wr ⟨.slice A2 pl.length c2, pl.map (·.p)⟩) (row_one _ (by simp [Value.oneCell'])) HT1.out.1 HT1.out.2 (Nat.le_trans HSZ.out (al wr _).size) ?_; intro v6 w6 hown6 hb6 hg6 hat6; obtain ⟨A6, c6, rfl⟩ := own_shape hown6; have hB6 := btB (bt HB.out (al wr _)) hb6 (Nat.le_refl _)))
        go_roundw
        case rel =>
          refine ⟨j + 1, rl ++ [⟨.slice A2 pl.length c2, pl.map (·.p)⟩], [], by omega, by go_num, ⟨A6, c6, by rw [List.length_append]; rfl⟩, ⟨_, _, rfl⟩, HY2.out, ?_, hB6.alloc hB6.size _⟩
          rw [List.length_append]
          refine ((HG.out.below (al wr _)).crash (tail' := []) ?_ hg6 hat6 (World.ownsRow_nil _ _ _ _) (fun k hk => by cases hk)).fresh hB6.size
          simpa using hown6
        case measure => simp [intOf]; omega
    · obtain rfl : j = l.length := by omega
      have HC2 : Hid (cutsK l = (rl ++ [(⟨.slice A2 pl.length c2, pl.map (·.p)⟩ : Rv)]).map (·.l)) := by
        have h := HC.out
        rw [List.take_length] at h
        show _ = _
        rw [h]; simp
      clear HC
      go_wp2_with (first
        | (at_builtin; refine wpl_appO rfl _ _ 31 rfl w.heap.size 22 i1 _ 1 24 Tryd.underlying31 hi1 hy0 hy1 hy2 rfl (by decide) (.slice A rl.length c) rl.length (rl.flatMap Rv.cells ++ []) rfl (HG.out.below (al wr _)).own (.slice (some ⟨wr.heap.size, 0, none⟩) 1 1) 1 ([(⟨.slice A2 pl.length c2, pl.map (·.p)⟩ : Rv)].flatMap Rv.cells) rfl (sl_row wr ⟨.slice A2 pl.length c2, pl.map (·.p)⟩) (row_one _ (by simp [Value.oneCell'])) HT1.out.1 HT1.out.2 (Nat.le_trans HSZ.out (al wr _).size) ?_; intro v6 w6 hown6 hb6 hg6 hat6; obtain ⟨A6, c6, rfl⟩ := own_shape hown6; have hB6 := btB (bt HB.out (al wr _)) hb6 (Nat.le_refl _)))
      refine HP.out _ _ _ rfl ?_ hB6
      rw [HC2.out]
      refine ((HG.out.below (al wr _)).crash (tail' := []) ?_ hg6 hat6 (World.ownsRow_nil _ _ _ _) (fun k hk => by cases hk)).fin (by simp)
      simpa using hown6
end Go.Proofs.YtimekgplallkiaaDoor

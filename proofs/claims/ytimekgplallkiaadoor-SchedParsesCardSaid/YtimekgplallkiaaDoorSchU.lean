/- The parts of a schedule between its crashes: the program's walk. -/
import Derived.Test.YtimekgplallkiaaDoorSchT
import Derived.Test.YtimekgplallkiaaDoorSchPkB
import Derived.Test.YtimekgplallkiaaDoorSchH
import Derived.Test.YtimekgplallkiaaDoorShelf
import Derived.Deep.AppendLies
import Derived.Deep.RegionHeld3
import Derived.Deep.RegionLaw
namespace Go.Proofs.YtimekgplallkiaaDoor
open Go Go.RowKit
set_option linter.unusedVariables false
theorem pClone_c (l : List Int) (hl : l.length ≤ 100000000) (v : Value) (w : World) (hv : Zs w v l) :
    Calls Tryd.prog 33 #[v] w fun e w' => ∃ A c, e = .returned (.slice A l.length c) ∧ w'.ownsRow w.heap.size 3 1 (.slice A l.length c) l.length (l.flatMap zCell) ∧ Below w.heap.size w w' := by
  have hz : l.flatMap zCell = l.map (Value.int .i64) := by
    clear hl hv
    induction l with
    | nil => rfl
    | cons x r ih => rw [List.flatMap_cons, ih]; rfl
  obtain ⟨A, c, rfl, hc⟩ := hv.shape
  by_cases h0 : l.length = 0
  · obtain rfl : l = [] := List.eq_nil_of_length_eq_zero h0
    cases A with
    | none =>
      refine (Tryd.slices_Clone_int_nil 0 c w).mono ?_
      rintro e w' ⟨rfl, rfl⟩
      exact ⟨none, 0, rfl, World.ownsRow_nil _ _ _ _, Below.refl _ _⟩
    | some a =>
      refine (Tryd.slices_Clone_int_zero a c w).mono ?_
      rintro e w' ⟨v', rfl, ho, _, hb⟩
      obtain ⟨A, c, rfl⟩ := own_shape ho
      exact ⟨A, c, rfl, ho, hb⟩
  · obtain ⟨b, off, c3, hE, hcc, hbt, hat⟩ := Zs.at_ hv (by omega)
    cases hE
    refine (Tryd.slices_Clone_int b off l.length c l w (Nat.le_refl _) (by omega) (fun j hj => by rw [getD_at l j hj]; exact hat j hj)).mono ?_
    rintro e w' ⟨v', rfl, ho, _, hb⟩
    obtain ⟨A, c', rfl⟩ := own_shape ho
    rw [List.take_length] at ho
    exact ⟨A, c', rfl, by rw [hz]; exact ho, hb⟩
theorem CutG.start (w : World) : CutG w.heap.size (w.alloc (.cells #[.slice none 0 0] 22)) (.slice (some ⟨w.heap.size, 0, none⟩) 1 1) (.slice none 0 0) 1 [.slice none 0 0] [] [] :=
  ⟨World.ownsRow_lit w #[.slice none 0 0] 1 (Nat.le_refl _) (by unfold maxLen; omega) (by simp), World.ownsRow_nil _ _ _ _, (fun k hk => by cases hk), by simp, by simp⟩
/-- the last part's slice is laid back -/
theorem CutG.back {B : Nat} {w : World} {g c : Nat} {last : Value} {n m : Nat} {u : Value} {rl : List Rv} {pl : List Pv} (h : CutG B w (.slice (some ⟨g, 0, none⟩) n c) last n [u] rl pl) (hm : m = rl.length) :
    CutG B (w.setCell ⟨g, m, none⟩ last) (.slice (some ⟨g, 0, none⟩) n c) last n [last] rl pl := by
  subst hm
  obtain ⟨h1, h2⟩ := h.own.stored rl.length last
  have hl : (rl.flatMap Rv.cells).length = rl.length := by rw [flat_length Rv.cells 1 Rv.cells_len]; omega
  refine ⟨?_, ownsRow_setCell_other (a := ⟨g, rl.length, none⟩) h.lasts (fun e => h.apart g e rfl) _, h.apart, fun x hx => (h.rows x hx).setCell ⟨g, rl.length, none⟩ (.inl rfl) _, fun x hx => (h.cuts x hx).setCell ⟨g, rl.length, none⟩ (.inl rfl) _⟩
  have e : (rl.flatMap Rv.cells ++ [u]).set rl.length last = rl.flatMap Rv.cells ++ [last] := by
    rw [List.set_append_right _ _ (by omega), hl, Nat.sub_self]; rfl
  rw [e] at h1
  exact h1
theorem CutG.cellLast {B : Nat} {w : World} {g c : Nat} {last : Value} {n m : Nat} {u : Value} {rl : List Rv} {pl : List Pv} (h : CutG B w (.slice (some ⟨g, 0, none⟩) n c) last n [u] rl pl) (hm : m = rl.length) (hn : m < n) : w.cell? ⟨g, m, none⟩ = some u := by
  subst hm
  have hl : (rl.flatMap Rv.cells).length = rl.length := by rw [flat_length Rv.cells 1 Rv.cells_len]; omega
  rw [h.own.cellAt rl.length (by omega), List.getElem?_append_right (by omega), hl, Nat.sub_self]; rfl
theorem CutG.fin1 {B : Nat} {w : World} {out last : Value} {n : Nat} {rl : List Rv} {pl : List Pv} (h : CutG B w out last n [last] rl pl) (hn : n = rl.length + 1) : PRs w out (rl.map (·.l) ++ [pl.map (·.p)]) := by
  subst hn
  refine ⟨rl ++ [⟨last, pl.map (·.p)⟩], by simp, ?_, fun x hx => ?_⟩
  · have := sl_of_own h.own
    rw [List.length_append, List.flatMap_append]
    exact this
  · rcases List.mem_append.1 hx with hx | hx
    · exact (h.rows x hx).now
    · simp only [List.mem_cons, List.not_mem_nil, or_false] at hx
      subst hx
      exact h.offLast.now
theorem cell_ltU {W : World} {p : Addr} {v : Value} (h : W.cell? p = some v) : p.block < W.heap.size := World.block_lt_of_cell? W p h
def Six (U : World) (g m h : Nat) (a b c d e : Value) : Prop := U.cell? ⟨g, m, none⟩ = some a ∧ U.frozen? ⟨g, m, none⟩ = false ∧ U.cell? ⟨h, 0, none⟩ = some b ∧ U.cell? ⟨h, 1, none⟩ = some c ∧ U.cell? ⟨h, 2, none⟩ = some d ∧ U.cell? ⟨h, 3, none⟩ = some e
theorem five_kept {U V : World} {g m h : Nat} {a b c d e : Value} (hs : Six U g m h a b c d e) (hb : Below U.heap.size U V) (h1 : g < U.heap.size) (h2 : h < U.heap.size) : Six V g m h a b c d e := by
  obtain ⟨s0, sf, s1, s2, s3, s4⟩ := hs
  exact ⟨(hb.cell (p := ⟨g, m, none⟩) h1).trans s0, (hb.frozen (p := ⟨g, m, none⟩) h1).trans sf, (hb.cell (p := ⟨h, 0, none⟩) h2).trans s1, (hb.cell (p := ⟨h, 1, none⟩) h2).trans s2, (hb.cell (p := ⟨h, 2, none⟩) h2).trans s3, (hb.cell (p := ⟨h, 3, none⟩) h2).trans s4⟩
theorem five_grown {U V W : World} {g m h : Nat} {a b c d e : Value} {row : Option Nat} (hs : Six U g m h a b c d e) (hb : Below U.heap.size U V) (h1 : g < U.heap.size) (h2 : h < U.heap.size) (hg : V.grownBy W row) (n1 : row ≠ some g) (n2 : row ≠ some h) : Six W g m h a b c d e := by
  obtain ⟨s0, sf, s1, s2, s3, s4⟩ := five_kept hs hb h1 h2
  exact ⟨hg.cell s0 (Ne.symm n1), (World.frozen?_of_block (a := ⟨g, m, none⟩) (hg.block g (Nat.lt_of_lt_of_le h1 hb.size) (Ne.symm n1))).trans sf, hg.cell s1 (Ne.symm n2), hg.cell s2 (Ne.symm n2), hg.cell s3 (Ne.symm n2), hg.cell s4 (Ne.symm n2)⟩
set_option maxRecDepth 100000 in
set_option maxHeartbeats 8000000 in
theorem pCuts_c (l : List Pk) (hl : l.length ≤ 100000000) (hn : ∀ x ∈ l, x.cut.length ≤ 100000000) (v : Value) (w : World) (hv : Pks w v l) :
    Calls Tryd.prog 16 #[v] w (CutPost l w) := by
  obtain ⟨i0, hi0, hz0, hz1, hz2⟩ := info_parts info_pick
  obtain ⟨i1, hi1, hy0, hy1, hy2⟩ := info_parts info_picks
  obtain ⟨A0, c0, rfl, hc0⟩ := hv.shape
  have HV := Lib.hid hv
  have HNN := Lib.hid hn
  clear hv hn
  have HS0 := Lib.hid (CutG.start w)
  have HSB : Hid (Below w.heap.size w (w.alloc (.cells #[.slice none 0 0] 22))) := al w _
  have HP : Hid (∀ v e w', e = Ending.returned v → PRs w' v (cutsK l) → Below w.heap.size w w' → CutPost l w e w') := fun v e w' he h1 h2 => by subst he; exact cut_post h1 h2
  generalize CutPost l w = Post at HP ⊢
  go_enter Tryd.func16, Tryd.ntmps16
  go_wp2_with fail
  go_loopw [3, 9] (fun out k wr => ∃ (j n m g c : Nat) (A : Option Addr) (c2 : Nat) (rl : List Rv) (pl : List Pv), j ≤ l.length ∧ k = .int .i64 j ∧ m = rl.length ∧ n = m + 1 ∧ out = .slice (some ⟨g, 0, none⟩) n c ∧ cutsK (l.take j) = rl.map (·.l) ++ [pl.map (·.p)] ∧ CutG w.heap.size wr (.slice (some ⟨g, 0, none⟩) n c) (.slice A pl.length c2) n [.slice A pl.length c2] rl pl ∧ Below w.heap.size w wr) (fun _ k _ => l.length - (intOf k).toNat)
  case atStart => exact ⟨0, 1, 0, w.heap.size, 1, none, 0, [], [], Nat.zero_le _, rfl, rfl, rfl, rfl, rfl, HS0.out, HSB.out⟩
  case round =>
    obtain ⟨j, n, m, g, c, A2, c2, rl, pl, hj, rfl, hm, hnm, rfl, hcut, hg, hb⟩ := hrel
    have hj0 : (0 : Int) ≤ (j : Int) := Int.natCast_nonneg _
    have hm0 : (0 : Int) ≤ (m : Int) := Int.natCast_nonneg _
    obtain ⟨hle1, hle2⟩ := two_le hcut
    rw [List.length_take] at hle1 hle2
    have HT1 : Hid (n + 1 ≤ maxLen ∧ (n + 1) * 24 ≤ 140737488355328) := by show _ ∧ _; unfold maxLen; constructor <;> omega
    have HT2 : Hid (pl.length + 1 ≤ maxLen ∧ (pl.length + 1) * 48 ≤ 140737488355328) := by show _ ∧ _; unfold maxLen; constructor <;> omega
    have hmn : (m : Int) < (n : Int) := by omega
    have hws : IntKind.i64.wrap ((n : Int) - 1) = (m : Int) := by rw [show (n : Int) - 1 = (m : Int) by omega]; exact IntWalk.i64_in _ (by omega)
    have HWS := Lib.hid hws
    have HM := Lib.hid hm
    have HNM := Lib.hid hnm
    have HC := Lib.hid hcut
    have HG := Lib.hid hg
    have HB := Lib.hid hb
    have HSZ : Hid (w.heap.size ≤ wr.heap.size) := hb.size
    clear hcut hg hle1 hle2 hws hm hnm
    by_cases hjl : j < l.length
    · have hjl2 : (j : Int) < (l.length : Int) := by omega
      obtain ⟨b, off, c3, hE0, hcc, hbt, hat⟩ := Pks.at_ (l := l) HV.out (by omega)
      cases hE0
      obtain ⟨A1, n1, x1, hz1'⟩ := hat j hjl
      have hx0 := (hb.cell (p := ⟨_, _, none⟩) hbt).trans x1.kind
      have hx1 := (hb.cell (p := ⟨_, _, none⟩) hbt).trans x1.t
      have hx2 := (hb.cell (p := ⟨_, _, none⟩) hbt).trans x1.i
      have hx3 := (hb.cell (p := ⟨_, _, none⟩) hbt).trans x1.cut
      have HZ := Lib.hid (SlN.below hz1' hb)
      have HXL := Lib.hid (HNN.out _ (List.getElem_mem hjl))
      have HY : Hid (l[j].kind = 3 → cutsK (l.take (j + 1)) = (rl ++ [(⟨.slice A2 pl.length c2, pl.map (·.p)⟩ : Rv)]).map (·.l) ++ [([] : List Pv).map (·.p)]) := fun h => cuts_yes hjl h HC.out
      have HN : Hid (¬ l[j].kind = 3 → ∀ V, cutsK (l.take (j + 1)) = rl.map (·.l) ++ [(pl ++ [(⟨l[j], V⟩ : Pv)]).map (·.p)]) := fun h V => cuts_no hjl h HC.out
      clear hat x1 hz1' hb
      generalize l[j] = x at hx0 hx1 hx2 hx3 HZ HY HN HXL
      cases hk : (x.kind == 3)
      · have HN2 := Lib.hid (HN.out (by intro h; rw [h] at hk; cases hk))
        clear HY HN
        go_upto_region 8 with (first
          | (go_at_call 33; refine (pClone_c x.cut HXL.out _ _ (SlN.below HZ.out (al wr _))).mono ?_; rintro e w2 ⟨A4, c4, rfl, ho4, hb4⟩; have hp4 := (pkB_new wr x (.slice A1 x.cut.length n1)).below hb4 (by simp); have p0 := hp4.at_.kind; have p1 := hp4.at_.t; have p2 := hp4.at_.i; have p3 := hp4.at_.cut; have p4 := hp4.f3))
        have HPW := Lib.hid (pkB_cut hp4 (.slice A4 x.cut.length c4))
        have HBW : Hid (Below wr.heap.size wr (w2.setCell ⟨wr.heap.size, 3, none⟩ (.slice A4 x.cut.length c4))) := below_set ((al wr _).trans (hb4.mono (al wr _).size)) (Nat.le_refl _) _
        have HOF : Hid (Off (Two (.slice (some ⟨g, 0, none⟩) n c) (.slice A2 pl.length c2)) (w2.setCell ⟨wr.heap.size, 3, none⟩ (.slice A4 x.cut.length c4)) (fun u => Zs u (.slice A4 x.cut.length c4) x.cut)) := by
          have h1 : Off (fun k => k ≤ wr.heap.size) w2 (fun u => Zs u (.slice A4 x.cut.length c4) x.cut) := off_own ho4 (fun k hk hS => by have := (ho4.lt k hk).1; rw [World.size_alloc] at this; omega)
          exact (h1.setCell ⟨wr.heap.size, 3, none⟩ (Nat.le_refl _) _).mono (fun k _ hk => Nat.le_of_lt (two_in HG.out hk).2)
        clear p0 p1 p2 p3 p4 hp4 ho4 hb4 HZ hx0 hx1 hx2 hx3
        generalize World.setCell _ _ _ = U at HPW HBW HOF ⊢
        have HGU := Lib.hid (HG.out.below HBW.out)
        have HSU : Hid (w.heap.size ≤ U.heap.size) := Nat.le_trans HSZ.out HBW.out.size
        have hc0 : U.cell? ⟨g, m, none⟩ = some (.slice A2 pl.length c2) := HGU.out.cellLast HM.out (by omega)
        have p0 := HPW.out.at_.kind
        have p1 := HPW.out.at_.t
        have p2 := HPW.out.at_.i
        have p3 := HPW.out.at_.cut
        have HS : Hid (Six U g m wr.heap.size (.slice A2 pl.length c2) (.int .i64 x.kind) (.int .i64 x.t) (.int .i64 x.i) (.slice A4 x.cut.length c4)) := ⟨hc0, HGU.out.own.frozenAt m, p0, by simpa using p1, by simpa using p2, by simpa using p3⟩
        have HNE1 : Hid ((Value.slice A2 pl.length c2).ownBlock ≠ some g) := fun e => HG.out.apart g e rfl
        have HNE2 : Hid ((Value.slice A2 pl.length c2).ownBlock ≠ some wr.heap.size) := fun e => by have := (HG.out.lasts.lt _ e).2; omega
        have HLT1 : Hid (g < U.heap.size) := Nat.lt_of_lt_of_le (HG.out.own.lt g rfl).2 HBW.out.size
        have HLT2 : Hid (wr.heap.size < U.heap.size) := cell_ltU p0
        have hws := HWS.out
        obtain ⟨s0, sf, s1, s2, s3, s4⟩ := HS.out
        clear hk hc0 p0 p1 p2 p3
        have hca := ((al U (.cells #[.int .i64 x.kind, .int .i64 x.t, .int .i64 x.i, .slice A4 x.cut.length c4] 27)).cell (p := ⟨g, m, none⟩) HLT1.out).trans s0
        go_region_law
          ((refine step_append_lies _ (by rfl) _ _ _ (by rfl) w.heap.size 27 i0 _ 4 48 Tryd.underlying22 hi0 hz0 hz1 hz2 rfl (by decide) (.slice A2 pl.length c2) pl.length (pl.flatMap Pv.cells) (by rfl) ((HGU.out.below (al U _)).below (bdr (Below.refl _ _))).lasts ⟨U.heap.size, 0, none⟩ 1 1 (Pv.cells ⟨x, .slice A4 x.cut.length c4⟩) (by rfl) (by rfl) (World.news_of_block (cs := #[.int .i64 x.kind, .int .i64 x.t, .int .i64 x.i, .slice A4 x.cut.length c4]) (t := 27) (fr := (0, 0)) (heap_alloc_new U _)) (by simp [Pv.cells, Value.oneCell']) (by decide) HT2.out.1 HT2.out.2 (Nat.le_trans HSU.out (al U _).size) (U.heap.size + 1) (by simp) ?_; intro gg cap w1 hown1 hgrow hat hlt; obtain ⟨t0, tf, t1, t2, t3, t4⟩ := five_grown HS.out (bdr (al U _)) HLT1.out HLT2.out hgrow HNE1.out HNE2.out))
        all_goals
          go_wp2_with fail
          go_roundw
          case rel =>
            refine ⟨j + 1, n, m, g, c, some ⟨gg, 0, none⟩, cap, rl, pl ++ [⟨x, .slice A4 x.cut.length c4⟩], by omega, by go_num, HM.out, HNM.out, rfl, HN2.out _, ?_, ?_⟩
            · have h1 := (HGU.out.below (bdr (al U (.cells #[.int .i64 x.kind, .int .i64 x.t, .int .i64 x.i, .slice A4 x.cut.length c4] 27)))).push (last' := .slice (some ⟨gg, 0, none⟩) (pl.length + 1) cap) ⟨x, .slice A4 x.cut.length c4⟩ (HOF.out.below (bdr (al U _))) (by simpa using hown1) hgrow (by
                rcases hat with e | e
                · exact .inl e.symm
                · refine .inr ?_
                  show some gg = some _
                  rw [e]; simp)
              have h2 := h1.back HM.out
              rw [List.length_append]
              exact h2
            · exact below_set ((bt HB.out (bt HBW.out (bdr (al U _)))).grown hgrow (Nat.le_trans HSU.out (by simp)) (fun k hk => (HG.out.lasts.lt k hk).1)) (HG.out.own.lt g rfl).1 _
          case measure => simp [intOf]; omega
      · have HY2 := Lib.hid (HY.out (by simpa using hk))
        clear HY HN
        go_wp2_with (first
          | (at_builtin; refine wpl_appO rfl _ _ 31 rfl w.heap.size 22 i1 _ 1 24 Tryd.underlying31 hi1 hy0 hy1 hy2 rfl (by decide) (.slice (some ⟨g, 0, none⟩) n c) n (rl.flatMap Rv.cells ++ [.slice A2 pl.length c2]) rfl ((HG.out.below (al wr _)).below (al _ _)).own (.slice (some ⟨wr.heap.size + 1, 0, none⟩) 1 1) 1 ([(⟨.slice none 0 0, []⟩ : Rv)].flatMap Rv.cells) rfl (by have h := sl_row (wr.alloc (.cells #[.int .i64 x.kind, .int .i64 x.t, .int .i64 x.i, .slice A1 x.cut.length n1] 27)) ⟨.slice none 0 0, []⟩; rw [World.size_alloc] at h; exact h) (row_one _ (by simp [Value.oneCell'])) HT1.out.1 HT1.out.2 (Nat.le_trans HSZ.out (balloc (al wr _) _).size) ?_; intro v6 w6 hown6 hb6 hg6 hat6; obtain ⟨g6, c6, rfl, hg6a, hg6b⟩ := own_some hown6 (by omega); have hB6 := btB (bt HB.out (balloc (al wr _) _)) hb6 (Nat.le_refl _)))
        go_roundw
        case rel =>
          refine ⟨j + 1, n + 1, m + 1, g6, c6, none, 0, rl ++ [⟨.slice A2 pl.length c2, pl.map (·.p)⟩], [], by omega, by go_num, by rw [List.length_append, HM.out]; rfl, by rw [HNM.out], rfl, HY2.out, ?_, hB6⟩
          refine ((HG.out.below (al wr _)).below (al _ _)).crash (tail' := [.slice none 0 0]) ?_ hg6 hat6 (World.ownsRow_nil _ _ _ _) (fun k hk => by cases hk)
          simpa [Rv.cells] using hown6
        case measure => simp [intOf]; omega
    · obtain rfl : j = l.length := by omega
      have HC2 : Hid (cutsK l = rl.map (·.l) ++ [pl.map (·.p)]) := by
        have h := HC.out
        rw [List.take_length] at h
        exact h
      clear HC
      go_wp2_with fail
      refine HP.out _ _ _ rfl ?_ HB.out
      rw [HC2.out]
      exact HG.out.fin1 (by rw [HNM.out, HM.out])
theorem pCrashes_c (l : List Pk) (hl : l.length ≤ 100000000) (hn : ∀ x ∈ l, x.cut.length ≤ 100000000) (v : Value) (w : World) (hv : Pks w v l) :
    Calls Tryd.prog 13 #[v] w fun e w' => e = .returned (.int .i64 (crashK l)) ∧ Below w.heap.size w w' := by
  have HC := Lib.hid (pCuts_c l hl hn v w hv)
  obtain ⟨A0, c0, rfl, hc0⟩ := hv.shape
  have hle := crash_le l
  unfold CutPost at HC
  rw [cuts_len] at HC
  clear hv
  generalize crashK l = m at HC hle ⊢
  go_enter Tryd.func13, Tryd.ntmps13
  go_wp2_with (go_at_call 16; refine (HC.out).mono ?_; rintro e w1 ⟨A, c, rfl, hp, hb⟩)
  go_ret
  exact ⟨by simp, hb⟩
end Go.Proofs.YtimekgplallkiaaDoor

/- At most forty picks, with at most 25 numbers each: the statements' walk. -/
import Derived.Test.YtcgcndmlgfnjbaaGreatDoorSchM
import Derived.Test.YtcgcndmlgfnjbaaGreatDoorSchPkB
import Derived.Deep.RegionHeld3
import Derived.Deep.RegionLaw
namespace Go.Proofs.YtcgcndmlgfnjbaaGreatDoor
open Go Go.RowKit
set_option linter.unusedVariables false
def cutP (p : Pk) : Pk := ⟨p.kind, p.t, p.i, p.cut.take 25⟩
def cutPs (l : List Pk) : List Pk := (l.take 40).map cutP
theorem cutPs_len (l : List Pk) : (cutPs l).length ≤ 40 := by unfold cutPs; rw [List.length_map, List.length_take]; omega
theorem cutPs_cut (l : List Pk) : ∀ x ∈ cutPs l, x.cut.length ≤ 25 := fun x hx => by
  unfold cutPs at hx
  obtain ⟨y, _, rfl⟩ := List.mem_map.1 hx
  show (y.cut.take 25).length ≤ _
  rw [List.length_take]; omega
theorem cutP_take (l : List Pk) (j : Nat) (h : j < l.length) : (l.take (j + 1)).map cutP = (l.take j).map cutP ++ [cutP l[j]] := by
  rw [List.take_succ_eq_append_getElem h, List.map_append]; rfl
theorem pkB_grown {w w' : World} {b : Nat} {p : Pk} {v : Value} {row : Option Nat} (h : PkB w b p v) (hg : w.grownBy w' row) (hne : row ≠ some b) : PkB w' b p v := by
  obtain ⟨⟨h0, h1, h2, h3⟩, g0, g1, g2, g3⟩ := h
  have hb := hg.block b (World.block_lt_of_cell? w _ h0) (Ne.symm hne)
  exact ⟨⟨hg.cell h0 (Ne.symm hne), hg.cell h1 (Ne.symm hne), hg.cell h2 (Ne.symm hne), hg.cell h3 (Ne.symm hne)⟩, (World.frozen?_of_block (a := ⟨b, _, none⟩) hb).trans g0, (World.frozen?_of_block (a := ⟨b, _, none⟩) hb).trans g1, (World.frozen?_of_block (a := ⟨b, _, none⟩) hb).trans g2, (World.frozen?_of_block (a := ⟨b, _, none⟩) hb).trans g3⟩
/-- a row of the call's own grows, at a step of a region that draws its order -/
theorem step_app {P : Program} {w : World} {ops : Array Oper} {o : Oper} {a : Act} {K : Act → World → Prop} {Q : Exit → Act → World → Prop} {E : Prop} (hgd : o.guard = none) (s x : Operand) (t : TypeId)
    (ho : o.op = .call { callee := .builtin .append, args := #[s, x], argTypes := #[t, t] })
    (base : Nat) (e : TypeId) (i : TypeInfo) (z : Value) (size bytes : Nat) (ht : P.underlying t = some (.slice e)) (hi : P.info? e = some i) (hz : i.zero = some z)
    (hsize : i.size = size) (hby : i.bytes = bytes) (hzs : z.cells.size = size) (hsz : 0 < size)
    (v : Value) (n : Nat) (xs : List Value) (hs : a.eval s = v) (hown : w.ownsRow base e size v n xs)
    (u : Value) (m : Nat) (news : List Value) (hx : a.eval x = u) (hu : SlN w u size m news) (h1 : ∀ u ∈ news, u.oneCell' = true)
    (h63 : n + m ≤ maxLen) (hbytes : (n + m) * bytes ≤ 140737488355328) (hbase : base ≤ w.heap.size) (r : Nat) (hr : n + m = r)
    (h : ∀ A c w', w'.ownsRow base e size (.slice A r c) r (xs ++ news) → w.grownBy w' v.ownBlock → ((Value.slice A r c).ownBlock = v.ownBlock ∨ (Value.slice A r c).ownBlock = some w.heap.size) → K (a.put o.dst (.slice A r c)) w') :
    if Region.wanted o (yielded ops a.tmps) = true then Oper.wp P o a w K Q else E := by
  subst hr
  have hw : Region.wanted o (yielded ops a.tmps) = true := by simp [Region.wanted, hgd]
  rw [if_pos hw]
  have hrun : ∃ A c w', (Builtin.append_ #[t, t] o.type #[v, u]).run P w = .ok (.slice A (n + m) c) w' ∧ w'.ownsRow base e size (.slice A (n + m) c) (n + m) (xs ++ news) ∧ w.grownBy w' v.ownBlock ∧ ((Value.slice A (n + m) c).ownBlock = v.ownBlock ∨ (Value.slice A (n + m) c).ownBlock = some w.heap.size) := by
    obtain ⟨hl, A, c, rfl, hc, hf⟩ := hu
    have hgo : ∀ (ad : Addr), A = some ad → (∀ j x, news[j]? = some x → w.cell? (ad.add j) = some x) → ∃ A' c' w', (Builtin.append_ #[t, t] o.type #[v, .slice A m c]).run P w = .ok (.slice A' (n + m) c') w' ∧ w'.ownsRow base e size (.slice A' (n + m) c') (n + m) (xs ++ news) ∧ w.grownBy w' v.ownBlock ∧ ((Value.slice A' (n + m) c').ownBlock = v.ownBlock ∨ (Value.slice A' (n + m) c').ownBlock = some w.heap.size) := fun ad hA hnews => by
      subst hA
      obtain ⟨v', w', hr, h2, h3, _, h5⟩ := run_append_own_at (P := P) w base t o.type e i z size bytes ht hi hz hsize hby hzs hsz v n xs hown ad m c news hl hnews h1 h63 hbytes hbase
      obtain ⟨A', c', rfl⟩ := own_shape h2
      exact ⟨A', c', w', hr, h2, h3, h5⟩
    by_cases hm : 0 < m
    · obtain ⟨b, off, hA, hlt, hcell⟩ := hf hm
      refine hgo _ hA fun j x hj => ?_
      have := hcell j x hj
      have e : (⟨b, off, none⟩ : Addr).add j = ⟨b, off + j, none⟩ := by
        unfold Addr.add
        split
        · rename_i h0; subst h0; rfl
        · rfl
      rw [e]; exact this
    · obtain rfl : m = 0 := by omega
      obtain rfl : news = [] := List.eq_nil_of_length_eq_zero (by rw [hl]; omega)
      cases A with
      | some ad => exact hgo ad rfl (by simp)
      | none =>
        have hrun := run_app_none (P := P) w base t o.type e i size ht hi v n c xs hown
        obtain ⟨A', c', rfl⟩ := own_shape hown
        exact ⟨A', c', w, hrun, by simpa using hown, ⟨rfl, rfl, rfl, Nat.le_refl _, fun _ _ _ => rfl⟩, .inl rfl⟩
  obtain ⟨A, c, w', hr, h2, h3, h4⟩ := hrun
  unfold Oper.wp execOp
  simp only [ho, resolve, invoke, builtin, Sem.run_bind, Sem.run_pure, Result.andThen_ok, List.map_toArray, List.map_cons, List.map_nil, hs, hx, hr]
  exact h A c w' h2 h3 h4
theorem zs_cut {x : Pk} {k : Nat} (hk : k = min x.cut.length 25) {w : World} {v : Value} (h : SlN w v 1 k ((x.cut.take k).flatMap zCell)) : Zs w v (cutP x).cut := by
  have e : (cutP x).cut = x.cut.take k := by
    show x.cut.take 25 = _
    by_cases h : x.cut.length ≤ 25
    · rw [List.take_of_length_le h, List.take_of_length_le (by omega)]
    · rw [show k = 25 by omega]
  have hl : (x.cut.take k).length = k := by rw [List.length_take]; omega
  show SlN w v 1 (cutP x).cut.length _
  rw [e, hl]; exact h
theorem zs_take {w : World} {A : Option Addr} {c k : Nat} {l : List Int} (h : Zs w (.slice A l.length c) l) (hk : k ≤ l.length) : SlN w (.slice A k c) 1 k ((l.take k).flatMap zCell) := by
  obtain ⟨hl, A', c', hv, hc, hf⟩ := h
  cases hv
  refine ⟨by rw [flat_length zCell 1 (fun _ => rfl), List.length_take]; omega, A, c, rfl, by omega, fun h0 => ?_⟩
  obtain ⟨b, off, hA, hlt, hcell⟩ := hf (by omega)
  refine ⟨b, off, hA, hlt, fun j u hj => hcell j u ?_⟩
  have h2 : l.flatMap zCell = (l.take k).flatMap zCell ++ (l.drop k).flatMap zCell := by rw [← List.flatMap_append, List.take_append_drop]
  rw [h2, List.getElem?_append_left (List.getElem?_eq_some_iff.1 hj).1]
  exact hj
set_option maxRecDepth 100000 in
set_option maxHeartbeats 8000000 in
theorem pCut_c (l : List Pk) (hl : l.length ≤ 9223372036854775807) (hn : ∀ x ∈ l, x.cut.length ≤ 9223372036854775807) (v : Value) (w : World) (hv : Pks w v l) :
    Calls Tryz.prog 22 #[v] w fun e w' => ∃ A c, e = .returned (.slice A (cutPs l).length c) ∧ Off (Old w.heap.size) w' (fun u => Pks u (.slice A (cutPs l).length c) (cutPs l)) ∧ Below w.heap.size w w' := by
  obtain ⟨i0, hi0, hz0, hz1, hz2⟩ := info_parts info_pick
  obtain ⟨i1, hi1, hy0, hy1, hy2⟩ := info_parts info_int
  obtain ⟨A0, c0, rfl, hc0⟩ := hv.shape
  have HV := Lib.hid hv
  have HNN := Lib.hid hn
  have HE0 := Lib.hid (own_empty w 48 4 (by decide))
  have HP : Hid (∀ v e w', e = Ending.returned v → Off (Old w.heap.size) w' (fun u => Pks u v (cutPs l)) → Below w.heap.size w w' → ∃ A c, e = .returned (.slice A (cutPs l).length c) ∧ Off (Old w.heap.size) w' (fun u => Pks u (.slice A (cutPs l).length c) (cutPs l)) ∧ Below w.heap.size w w') := fun v e w' he h1 h2 => by
    subst he
    obtain ⟨A, c, rfl, hc⟩ := h1.now.shape
    exact ⟨A, c, rfl, h1, h2⟩
  clear hv hn
  generalize hPost : (fun (e : Ending) (w' : World) => ∃ A c, e = .returned (.slice A (cutPs l).length c) ∧ Off (Old w.heap.size) w' (fun u => Pks u (.slice A (cutPs l).length c) (cutPs l)) ∧ Below w.heap.size w w') = Post
  have HP2 : Hid (∀ v w', Off (Old w.heap.size) w' (fun u => Pks u v (cutPs l)) → Below w.heap.size w w' → Post (.returned v) w') := fun v w' h1 h2 => by rw [← hPost]; exact HP.out v _ w' rfl h1 h2
  clear hPost HP
  go_enter Tryz.func22, Tryz.ntmps22
  go_wp2_with fail
  go_loopw [3, 4] (fun out k wr => ∃ (j : Nat) (pl : List Pv) (A : Option Addr) (c : Nat), j ≤ l.length ∧ j ≤ 40 ∧ k = .int .i64 j ∧ out = .slice A pl.length c ∧ pl.length = j ∧ pl.map (·.p) = (l.take j).map cutP ∧ POF w.heap.size wr (.slice A pl.length c) pl ∧ Below w.heap.size w wr) (fun _ k _ => 40 - (intOf k).toNat)
  case atStart => exact ⟨0, [], _, _, Nat.zero_le _, by omega, rfl, rfl, rfl, rfl, ⟨HE0.out, by simp⟩, al _ _⟩
  case round =>
    obtain ⟨j, pl, A, cc, hj, hj40, rfl, rfl, hpl, hmap, hown, hb⟩ := hrel
    have HPL := Lib.hid hpl
    have HMAP := Lib.hid hmap
    have HOWN := Lib.hid hown
    have HB := Lib.hid hb
    have HSZ : Hid (w.heap.size ≤ wr.heap.size) := hb.size
    have hj0 : (0 : Int) ≤ (j : Int) := Int.natCast_nonneg _
    have HT4 : Hid (pl.length + 1 ≤ maxLen ∧ (pl.length + 1) * 48 ≤ 140737488355328) := by show _ ∧ _; unfold maxLen; constructor <;> omega
    clear hpl hmap hown
    by_cases hjl : j < l.length
    · have hjl2 : (j : Int) < (l.length : Int) := by omega
      by_cases hj6 : j < 40
      · have hj62 : (j : Int) < 40 := by omega
        obtain ⟨b, off, c, hE0, hcc, hbt, hat⟩ := Pks.at_ (l := l) HV.out (by omega)
        cases hE0
        obtain ⟨A1, n1, x1, hz1'⟩ := hat j hjl
        have hx0 := (hb.cell (p := ⟨_, _, none⟩) hbt).trans x1.kind
        have hx1 := (hb.cell (p := ⟨_, _, none⟩) hbt).trans x1.t
        have hx2 := (hb.cell (p := ⟨_, _, none⟩) hbt).trans x1.i
        have hx3 := (hb.cell (p := ⟨_, _, none⟩) hbt).trans x1.cut
        have HZ := Lib.hid (SlN.below hz1' hb)
        have HBT : Hid (b < wr.heap.size) := Nat.lt_of_lt_of_le hbt hb.size
        have HS : Hid (pl.map (·.p) ++ [cutP l[j]] = (l.take (j + 1)).map cutP) := by show _ = _; rw [cutP_take l j hjl, HMAP.out]
        have hxl := HNN.out _ (List.getElem_mem hjl)
        have hnc := hz1'.shape
        have hnc : (l[j]).cut.length ≤ n1 := by obtain ⟨A', c', e, h⟩ := hnc; cases e; exact h
        clear hat x1 hz1' hb
        generalize l[j] = x at hx0 hx1 hx2 hx3 HZ HS hxl hnc
        obtain ⟨k, hk⟩ : ∃ k : Nat, k = min x.cut.length 25 := ⟨_, rfl⟩
        have hmin : min (x.cut.length : Int) 25 = (k : Int) := by omega
        have hk0 : (0 : Int) ≤ (k : Int) := Int.natCast_nonneg _
        have hk1 : (k : Int) ≤ (n1 : Int) := by omega
        have HK := Lib.hid hk
        have HKL : Hid (k ≤ x.cut.length ∧ k ≤ 25) := by show _ ∧ _; omega
        clear hk
        go_upto_region 6 with fail
        have HQ := Lib.hid (pkB_new wr x (.slice A1 x.cut.length n1))
        have HBX : Hid (Below wr.heap.size wr (wr.alloc (.cells #[.int .i64 x.kind, .int .i64 x.t, .int .i64 x.i, .slice A1 x.cut.length n1] 48))) := al wr _
        have HLX : Hid (wr.heap.size < (wr.alloc (.cells #[.int .i64 x.kind, .int .i64 x.t, .int .i64 x.i, .slice A1 x.cut.length n1] 48)).heap.size) := by show _ < _; rw [World.size_alloc]; omega
        generalize World.alloc wr _ = U at HQ HBX HLX ⊢
        have HSRC : Hid (∀ u, Below wr.heap.size wr u → u.cell? ⟨b, off + j * 4 + 3, none⟩ = some (.slice A1 x.cut.length n1)) := fun u hu => (hu.cell (p := ⟨_, _, none⟩) HBT.out).trans hx3
        have hs0 := HSRC.out U HBX.out
        have HKN : Hid (0 + k ≤ maxLen ∧ (0 + k) * 8 ≤ 140737488355328) := by have := HKL.out; show _ ∧ _; unfold maxLen; constructor <;> omega
        have HO0 : Hid ((U.alloc (.cells #[] 3)).drew.ownsRow U.heap.size 3 1 (.slice (some ⟨U.heap.size, 0, none⟩) 0 0) 0 []) := own_below (World.ownsRow_lit U #[] 0 (Nat.le_refl _) (Nat.zero_le _) (by simp)) (bdr (Below.refl _ _))
        have HZU : Hid (SlN (U.alloc (.cells #[] 3)).drew (.slice A1 k n1) 1 k ((x.cut.take k).flatMap zCell)) := zs_take (SlN.below HZ.out (bt HBX.out (bdr (al U _)))) HKL.out.1
        have HQU : Hid (PkB (U.alloc (.cells #[] 3)).drew wr.heap.size x (.slice A1 x.cut.length n1)) := HQ.out.below (bdr (al U _)) HLX.out
        have HBU : Hid (Below wr.heap.size wr (U.alloc (.cells #[] 3)).drew) := bt HBX.out (bdr (al U _))
        clear hx0 hx1 hx2 hx3 hxl hnc
        go_region_held3 (fun w' => w'.cell? ⟨b, off + j * 4 + 3, none⟩ = some (.slice A1 x.cut.length n1))
          (first | exact hs0 | exact HSRC.out _ (bt HBX.out (bdr (Below.refl _ _))) | exact HSRC.out _ HBU.out | exact HSRC.out _ (bt HBX.out (al _ _)) | exact HSRC.out _ hB5 | exact HSRC.out _ (below_set hB5 (Nat.le_refl _) _))
          ((refine step_app (by rfl) _ _ _ (by rfl) U.heap.size 3 i1 _ 1 8 Tryz.underlying23 hi1 hy0 hy1 hy2 rfl (by decide) (.slice (some ⟨U.heap.size, 0, none⟩) 0 0) 0 [] (by rfl) HO0.out (.slice A1 k n1) k ((x.cut.take k).flatMap zCell) (by rfl) HZU.out (z_one _) HKN.out.1 HKN.out.2 (al U _).size k (Nat.zero_add k) ?_; intro A5 c5 w5 hown5 hg5 hat5; have hB5 : Below wr.heap.size wr w5 := HBU.out.grown hg5 HBU.out.size (fun q hq => by have := HBX.out.size; simp only [Value.ownBlock, Option.some.injEq] at hq; omega); have hQ5 := pkB_grown HQU.out hg5 (by simp only [Value.ownBlock]; intro e; injection e with e; have := HLX.out; omega); have t3 := hQ5.at_.cut; have tf := hQ5.f3))
        all_goals
          have HPW := Lib.hid (pkB_cut hQ5 (.slice A5 k c5))
          have HBW : Hid (Below wr.heap.size wr (w5.setCell ⟨wr.heap.size, 3, none⟩ (.slice A5 k c5))) := below_set hB5 (Nat.le_refl _) _
          have HOF : Hid (Off (fun k => (Value.slice A pl.length cc).ownBlock = some k ∨ k < w.heap.size) (w5.setCell ⟨wr.heap.size, 3, none⟩ (.slice A5 k c5)) (fun u => Zs u (.slice A5 k c5) (cutP x).cut)) := by
            have h1 : Off (fun q => q ≤ wr.heap.size) w5 (fun u => SlN u (.slice A5 k c5) 1 k ((x.cut.take k).flatMap zCell)) := off_own hown5 (fun q hq hS => by have := (hown5.lt q hq).1; have := HLX.out; omega)
            exact ((h1.setCell ⟨wr.heap.size, 3, none⟩ (Nat.le_refl _) _).imp (fun u hu => zs_cut HK.out hu)).mono (fun q _ hq => by rcases hq with hq | hq; exact Nat.le_of_lt (HOWN.out.own.lt q hq).2; exact Nat.le_of_lt (Nat.lt_of_lt_of_le hq HSZ.out))
          clear t3 tf hQ5 hown5 hg5 hat5 hB5
          generalize World.setCell _ _ _ = U2 at HPW HBW HOF ⊢
          have p0 := HPW.out.at_.kind
          have p1 := HPW.out.at_.t
          have p2 := HPW.out.at_.i
          have p3 := HPW.out.at_.cut
          go_wp2_with (first
            | (at_builtin; refine wpl_appO rfl _ _ 26 rfl w.heap.size 48 i0 _ 4 48 Tryz.underlying26 hi0 hz0 hz1 hz2 rfl (by decide) (.slice A pl.length cc) pl.length (pl.flatMap Pv.cells) rfl ((HOWN.out.below HBW.out).below (al U2 _)).own (.slice (some ⟨U2.heap.size, 0, none⟩) 1 1) 1 ([(⟨cutP x, .slice A5 k c5⟩ : Pv)].flatMap Pv.cells) rfl (sl_pick U2 ⟨cutP x, .slice A5 k c5⟩) (pick_one _ (by simp [Value.oneCell'])) HT4.out.1 HT4.out.2 (Nat.le_trans HSZ.out (Nat.le_trans HBW.out.size (al U2 _).size)) ?_; intro v6 w6 hown6 hb6 hg6 hat6; obtain ⟨A6, c6, rfl⟩ := own_shape hown6; have hB6 := btB (bt (bt HB.out HBW.out) (al U2 _)) hb6 (Nat.le_refl _)))
          go_roundw
          case rel =>
            refine ⟨j + 1, pl ++ [⟨cutP x, .slice A5 k c5⟩], A6, c6, by omega, by omega, by go_num, by rw [List.length_append]; rfl, by rw [List.length_append, HPL.out]; rfl, by rw [List.map_append]; exact HS.out, ?_, hB6⟩
            rw [List.length_append]
            exact ((HOWN.out.below HBW.out).below (al U2 _)).app ⟨cutP x, .slice A5 k c5⟩ (HOF.out.below (al U2 _)) hown6 hg6 hat6
          case measure => simp [intOf]; omega
      · have hj62 : ¬ ((j : Int) < 40) := by omega
        have HC : Hid (cutPs l = pl.map (·.p)) := by show _ = _; rw [HMAP.out, show j = 40 by omega]; rfl
        go_wp2_with fail
        refine HP2.out _ _ ?_ HB.out
        rw [HC.out]; exact HOWN.out.offPks (Nat.le_refl _)
    · have hjl2 : ¬ ((j : Int) < (l.length : Int)) := by omega
      have HC : Hid (cutPs l = pl.map (·.p)) := by show _ = _; rw [HMAP.out]; unfold cutPs; rw [List.take_of_length_le (by omega), List.take_of_length_le (by omega)]
      go_wp2_with fail
      refine HP2.out _ _ ?_ HB.out
      rw [HC.out]; exact HOWN.out.offPks (Nat.le_refl _)
end Go.Proofs.YtcgcndmlgfnjbaaGreatDoor

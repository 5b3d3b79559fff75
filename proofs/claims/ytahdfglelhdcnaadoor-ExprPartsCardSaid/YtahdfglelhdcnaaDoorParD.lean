/- The reference's parser: floors, the loop. -/
import Derived.Test.YtahdfglelhdcnaaDoorParC
import Derived.Deep.RegionWith
import Derived.Deep.DeepCutAuto
namespace Go.Proofs.YtahdfglelhdcnaaDoor
open Go Go.RowKit
set_option linter.unusedVariables false
theorem opsOf_pos (n : Nat) (h : n < 5) : 0 < (opsOf n).length := by
  match n, h with
  | 0, _ => decide
  | 1, _ => decide
  | 2, _ => decide
  | 3, _ => decide
  | 4, _ => decide
theorem opAt_zero {n : Nat} {l : List Tok} {t : Nat} (h : ∀ j (hj : j < (opsOf n).length), isE l t (sg ((opsOf n)[j])) = false) : opAt n l t = 0 := by
  by_cases h0 : opAt n l t = 0
  · exact h0
  · have := opAt_some h0
    obtain ⟨j, hj, e⟩ := List.mem_iff_getElem.1 this.1
    have h2 := h j hj
    rw [e, this.2] at h2
    cases h2
theorem own_shape {w : World} {base : Nat} {e : TypeId} {size : Nat} {v : Value} {n : Nat} {xs : List Value} (h : w.ownsRow base e size v n xs) : ∃ A c, v = .slice A n c := by
  rcases h.2 with ⟨rfl, rfl⟩ | ⟨g, cap, cur, rfl, _⟩
  · exact ⟨_, _, rfl⟩
  · exact ⟨_, _, rfl⟩
/-- what is to come of a floor's left part -/
def contR (f : Nat → Res) (n : Nat) (l : List Tok) : Res → Res
  | .inl (x, t) => lpS f n l x t
  | .inr e => .inr e
theorem bdr {B : Nat} {a w : World} (h : Below B a w) : Below B a w.drew := ⟨h.os, h.tape, h.output, h.size, h.block⟩
structure FInv (l : List Tok) (f : Nat → Res) (n : Nat) (R : Res) (u : World) (gx : Nat) (wr : World) : Prop where
  below : Below u.heap.size u wr
  res : Blk4 wr u.heap.size (.slice none 0 0) (.int .i64 0) (.int .i64 0) (.int .i64 0)
  cur : ∃ (A : Option Addr) (k c : Nat) (t e p : Int) (r : Res), Blk4 wr gx (.slice A k c) (.int .i64 t) (.int .i64 e) (.int .i64 p) ∧ RVal (u.heap.size + 1) wr r (.slice A k c) t e p ∧
    R = contR f n l r ∧ (∀ x t, r = .inl (x, t) → t ≤ l.length ∧ x.flat.length ≤ t) ∧ (∀ e p, r = .inr (e, p) → 1 ≤ e)
theorem Blk4.belowB {w w' : World} {B g : Nat} {a b c d : Value} (h : Blk4 w g a b c d) (hb : Below B w w') (hlt : g < B) : Blk4 w' g a b c d := by
  have hs := hb.size
  have hl := h.lt
  exact ⟨by omega, (hb.cell (p := ⟨g, 0, none⟩) hlt).trans h.c0, (hb.cell (p := ⟨g, 1, none⟩) hlt).trans h.c1, (hb.cell (p := ⟨g, 2, none⟩) hlt).trans h.c2, (hb.cell (p := ⟨g, 3, none⟩) hlt).trans h.c3,
    (hb.frozen (p := ⟨g, 0, none⟩) hlt).trans h.f0, (hb.frozen (p := ⟨g, 1, none⟩) hlt).trans h.f1, (hb.frozen (p := ⟨g, 2, none⟩) hlt).trans h.f2, (hb.frozen (p := ⟨g, 3, none⟩) hlt).trans h.f3⟩
theorem btB {B C : Nat} {a b c : World} (h : Below B a b) (k : Below C b c) (hle : B ≤ C) : Below B a c := h.trans (k.mono hle)
theorem own_two {w : World} {base : Nat} {v : Value} {nd : Nod} {x y : Ex} (h : w.ownsRow base 30 4 v (1 + x.flat.length + y.flat.length) ((Nod.cells nd ++ x.flat.flatMap Nod.cells) ++ y.flat.flatMap Nod.cells)) :
    Nods w v (Ex.two nd x y).flat ∧ Fresh base v := by
  refine ⟨?_, Fresh.own h⟩
  have h2 := sl_of_own h
  have e1 : (Ex.two nd x y).flat.length = 1 + x.flat.length + y.flat.length := by simp only [Ex.flat, List.length_cons, List.length_append]; omega
  have e2 : (Ex.two nd x y).flat.flatMap Nod.cells = (Nod.cells nd ++ x.flat.flatMap Nod.cells) ++ y.flat.flatMap Nod.cells := by simp [Ex.flat]
  show SlN w v 4 _ _
  rw [e1, e2]
  exact h2
set_option maxRecDepth 100000 in
set_option maxHeartbeats 20000000 in
theorem rfloor_succ (l : List Tok) (hl : l.length ≤ 100000) (v : Value) (k d m n : Nat) (hd : d + k = 12) (hn : m + 1 + n = 5)
    (HF0 : ∀ (i : Nat) (u : World), Toks u v l → Calls Tryd.prog 31 #[v, .int .i64 i, .int .i64 d, .int .i64 ((n : Int) + 1)] u (RPost (flR (prR l k) l m i) u))
    (i : Nat) (u : World) (hv : Toks u v l) : Calls Tryd.prog 31 #[v, .int .i64 i, .int .i64 d, .int .i64 n] u (RPost (flR (prR l k) l (m + 1) i) u) := by
  obtain ⟨i0, hi, hz0, hz1, hz2⟩ := info_parts info_nod
  obtain ⟨Av, cv, hve, hcv⟩ := hv.shape
  subst hve
  have hfw : Fwd l (flR (prR l k) l m) := flR_fwd (prR_fwd l k) m
  have HR : Hid (flR (prR l k) l (m + 1) i = contR (flR (prR l k) l m) n l (flR (prR l k) l m i)) := by
    have e : 4 - m = n := by omega
    show _ = _
    rw [flR, e]
    cases flR (prR l k) l m i with
    | inl r => rfl
    | inr e => rfl
  have HC := Lib.hid (HF0 i _ (hv.below (al u (.cells #[.slice none 0 0, .int .i64 0, .int .i64 0, .int .i64 0] 53))))
  have hn5 : ((n : Int) == 5) = false := by rw [beq_eq_false_iff_ne]; omega
  have HGD : Hid (∀ i x t, flR (prR l k) l m i = .inl (x, t) → t ≤ l.length ∧ x.flat.length ≤ t) := fun i x t h => by
    have := hfw.good i x t h
    exact ⟨this.2.1, by omega⟩
  have HFW := Lib.hid hfw
  have HF := Lib.hid HF0
  clear hfw HF0
  have HBD : Hid (∀ i e p, flR (prR l k) l m i = .inr (e, p) → 1 ≤ e) := fun i e p h => (HFW.out.bad i e p h).1
  generalize flR (prR l k) l (m + 1) i = R at HR
  go_enter Tryd.func31, Tryd.ntmps31
  go_wp2_with (go_at_call 31; refine (HC.out).mono ?_; rintro e w1 ⟨hb1, A1, n1, c1, t1, e1, p1, rfl, hr1⟩)
  go_loopw [10, 11, 12, 13] (fun _ _ _ _ wr => FInv l (flR (prR l k) l m) n R u w1.heap.size wr) (fun _ _ _ _ wr => l.length - (intOf ((wr.cell? ⟨w1.heap.size, 1, none⟩).getD (.int .i64 0))).toNat)
  case atStart =>
    have hb := bt (al _ _) hb1
    exact ⟨bt hb (al _ _), ((Blk4.new u _ _ _ _ _).below hb1).below (al _ _), A1, n1, c1, t1, e1, p1, _, Blk4.new _ _ _ _ _ _, (hr1.below (al _ _)).mono (by rw [World.size_alloc]; omega), HR.out, fun x t h => HGD.out _ _ _ h, fun e p h => HBD.out _ _ _ h⟩
  case round =>
    rename World => wo
    obtain ⟨hb, hres, A, kk, c, t, e, p, r, hblk, hval, hR, hgd, hbd⟩ := hrel
    match r, hval, hR, hgd, hbd with
    | .inr (e2, p2), hval, hR, hgd, hbd =>
      obtain ⟨hA, rfl, rfl, rfl⟩ := hval
      have he1 := hbd _ _ rfl
      have he : (e == 0) = false := by rw [beq_eq_false_iff_ne]; omega
      cases hA
      obtain ⟨ml, m0, m1, m2, m3, mf0, mf1, mf2, mf3⟩ := hblk
      have hres2 := hres
      obtain ⟨rl, r0, r1, r2, r3, rf0, rf1, rf2, rf3⟩ := hres
      go_wp2_with fail
      refine ret_read (.agg #[.slice none 0 0, .int .i64 0, .int .i64 e, .int .i64 p]) rfl ?_ ?_
      · refine ⟨below_set4 hb (Nat.le_refl _) _ _ _ _, none, 0, 0, 0, e, p, rfl, ?_⟩
        rw [hR]
        exact ⟨rfl, rfl, rfl, rfl⟩
      · simp [results, Tryd.results31, go_sem, r0, r1, r2, r3]
    | .inl (x, t2), hval, hR, hgd, hbd =>
      obtain ⟨rfl, rfl, rfl, hnod, hfr⟩ := hval
      obtain ⟨ht2, hxl⟩ := hgd _ _ rfl
      have HV := Lib.hid hv
      have HB := Lib.hid hb
      have HRES := Lib.hid hres
      have HBLK := Lib.hid hblk
      have HN := Lib.hid hnod
      have HRR : Hid (R = lpS (flR (prR l k) l m) n l x t2) := hR
      obtain ⟨ml, m0, m1, m2, m3, mf0, mf1, mf2, mf3⟩ := hblk
      have hopl := opsOf_len n
      have HOPS : Hid (∀ w' : World, Calls Tryd.prog 51 #[.int .i64 n] w' fun e w2 => ∃ v, e = .returned v ∧ Ints w2 v (opsOf n) ∧ Below w'.heap.size w' w2) := fun w' => rops_c n (by omega) w'
      have HLT := Lib.hid ml
      have HUG : Hid (u.heap.size < w1.heap.size) := by have := hb1.size; rw [World.size_alloc] at this; show _ < _; omega
      clear hR hgd hbd hb hres hnod hv HC HR hb1 hr1 hval
      go_wp2_with fail
      clear ml m0 m1 m2 m3 mf0 mf1 mf2 mf3
      go_loopw [10, 11] (fun op kv wr2 => Below wo.heap.size wo wr2 ∧ ∃ j : Nat, j ≤ (opsOf n).length ∧ kv = .int .i64 j ∧ ((op = .int .i64 0 ∧ ∀ j' (hj : j' < (opsOf n).length), j' < j → isE l t2 (sg ((opsOf n)[j'])) = false) ∨ (op = .int .i64 (opAt n l t2) ∧ opAt n l t2 ≠ 0))) (fun _ kv _ => (opsOf n).length - (intOf kv).toNat)
      case atStart => exact ⟨Below.refl _ _, 0, Nat.zero_le _, rfl, .inl ⟨rfl, fun j' _ h => absurd h (by omega)⟩⟩
      case round =>
        obtain ⟨hb2, j, hj, rfl, hop⟩ := hrel
        have HB2 := Lib.hid hb2
        have HOP := Lib.hid hop
        clear hop
        have hx1 : wr.cell? ⟨w1.heap.size, 1, none⟩ = some (.int .i64 t2) := (hb2.cell (p := ⟨w1.heap.size, 1, none⟩) HLT.out).trans HBLK.out.c1
        have HX1 : Hid (∀ w', Below wr.heap.size wr w' → w'.cell? ⟨w1.heap.size, 1, none⟩ = some (.int .i64 t2)) := fun w' hb => (hb.cell (p := ⟨w1.heap.size, 1, none⟩) (Nat.lt_of_lt_of_le HLT.out HB2.out.size)).trans hx1
        by_cases hjl : j < (opsOf n).length
        · have ho := opsOf_in n _ (List.getElem_mem hjl)
          have HFL : Hid (∀ w' : World, Calls Tryd.prog 51 #[.int .i64 n] w' fun e w2 => ∃ b off c, e = .returned (.slice (some ⟨b, off, none⟩) (opsOf n).length c) ∧ (opsOf n).length ≤ c ∧ b < w2.heap.size ∧ w2.cell? ⟨b, off + j, none⟩ = some (.int .i64 ((opsOf n)[j] : Int)) ∧ Below w'.heap.size w' w2) := fun w' => (HOPS.out w').mono (by
            rintro e w2 ⟨v2, rfl, hi2, hb2⟩
            obtain ⟨b, off, c, rfl, hc, hlt, hat⟩ := hi2.at_ (by omega)
            exact ⟨b, off, c, rfl, hc, hlt, hat j hjl, hb2⟩)
          have HSG : Hid (∀ w' : World, Calls Tryd.prog 53 #[.int .i64 ((opsOf n)[j] : Int)] w' fun e w2 => e = .returned (.string (str (sg (opsOf n)[j]))) ∧ Below w'.heap.size w' w2) := fun w' => rsign_c _ (by omega) w'
          have HIS : Hid (∀ w' : World, Below wr.heap.size wr w' → Calls Tryd.prog 52 #[.slice Av l.length cv, .int .i64 t2, .string (str (sg (opsOf n)[j]))] w' fun e w2 => e = .returned (.bool (isE l t2 (sg (opsOf n)[j]))) ∧ w' = w2) := fun w' hb => ris_c l (by omega) t2 _ _ w' (((HV.out.below HB.out).below HB2.out).below hb)
          have HNO : Hid (isE l t2 (sg (opsOf n)[j]) = false → ∀ j' (hj : j' < (opsOf n).length), j' < j + 1 → (∀ j' (hj : j' < (opsOf n).length), j' < j → isE l t2 (sg ((opsOf n)[j'])) = false) → isE l t2 (sg ((opsOf n)[j'])) = false) := fun h j' hj' hlt h2 => by
            by_cases hjj : j' < j
            · exact h2 j' hj' hjj
            · obtain rfl : j' = j := by omega
              exact h
          have HYES : Hid (isE l t2 (sg (opsOf n)[j]) = true → opAt n l t2 = (opsOf n)[j]) := fun his => opAt_of (List.getElem_mem hjl) his
          have hjl2 := hjl
          generalize isE l t2 (sg (opsOf n)[j]) = bb at HIS HNO HYES
          generalize (opsOf n)[j] = o at HFL HSG HIS ho HYES
          generalize sg o = so at HSG HIS
          clear hb2 hx1
          go_upto_region 9 with (go_at_call 51; refine (HFL.out _).mono ?_; rintro e w3 ⟨b3, off3, c3, rfl, hc3, hl3, hcell3, hb3⟩)
          have hx3 := HX1.out _ hb3
          go_cut [45] (fun s wx => s = .bool bb ∧ Below wr.heap.size wr wx)
          case first =>
            go_region_with (first
                | (go_at_call 51; refine (HFL.out _).mono ?_; rintro e w4 ⟨b4, off4, c4, rfl, hc4, hl4, hcell4, hb4⟩; have hq4 : Below wr.heap.size wr w4 := (by first | exact bt hb3 hb4 | exact bt (bdr hb3) hb4 | exact bt (bdr (bdr hb3)) hb4); have hx4 := HX1.out _ hq4)
                | (go_at_call 53; refine (HSG.out _).mono ?_; rintro e w5 ⟨rfl, hb5⟩; have hq5 : Below wr.heap.size wr w5 := (by first | exact bt hq4 hb5 | exact bt (bdr hq4) hb5 | exact bt (bdr (bdr hq4)) hb5); have hx5 := HX1.out _ hq5)
                | (go_at_call 52; refine (HIS.out _ (by first | exact hq5 | exact bdr hq5 | exact bdr (bdr hq5))).mono ?_; rintro e w6 ⟨rfl, rfl⟩))
            all_goals
              go_wp2_with fail
              go_meet
              exact ⟨rfl, by first | exact hq5 | exact bdr hq5 | exact bdr (bdr hq5)⟩
          case rest =>
            obtain ⟨rfl, hq⟩ := hcut
            cases bb
            · go_wp2_with fail
              go_roundw
              case rel =>
                refine ⟨bt HB2.out hq, j + 1, by omega, by go_num, ?_⟩
                rcases HOP.out with ⟨h1, h2⟩ | h2
                · exact .inl ⟨h1, fun j' hj' hlt => HNO.out (by trivial) j' hj' hlt h2⟩
                · exact .inr h2
              case measure => simp [intOf]; omega
            · go_wp2_with (go_at_call 51; refine (HFL.out _).mono ?_; rintro e w7 ⟨b7, off7, c7, rfl, hc7, hl7, hcell7, hb7⟩)
              go_roundw
              case rel =>
                refine ⟨bt HB2.out (bt hq hb7), j + 1, by omega, by go_num, ?_⟩
                exact .inr ⟨by rw [HYES.out (by trivial)], by rw [HYES.out (by trivial)]; omega⟩
              case measure => simp [intOf]; omega
        · have HFL : Hid (∀ w' : World, Calls Tryd.prog 51 #[.int .i64 n] w' fun e w2 => ∃ b off c, e = .returned (.slice (some ⟨b, off, none⟩) (opsOf n).length c) ∧ (opsOf n).length ≤ c ∧ Below w'.heap.size w' w2) := fun w' => (HOPS.out w').mono (by
            rintro e w2 ⟨v2, rfl, hi2, hb2⟩
            obtain ⟨b, off, c, rfl, hc, hlt, hat⟩ := hi2.at_ (opsOf_pos n (by omega))
            exact ⟨b, off, c, rfl, hc, hb2⟩)
          have hje : j = (opsOf n).length := by omega
          clear hb2 hx1
          rcases HOP.out with ⟨rfl, hno⟩ | ⟨rfl, hne⟩
          · have HZ : Hid (R = .inl (x, t2)) := HRR.out.trans (lpS_stop (opAt_zero fun j' hj' => hno j' hj' (by omega)))
            clear hno
            go_wp2_with (go_at_call 51; refine (HFL.out _).mono ?_; rintro e w4 ⟨b4, off4, c4, rfl, hc4, hb4⟩; have hq := bt HB2.out hb4; obtain ⟨ml, m0, m1, m2, m3, mf0, mf1, mf2, mf3⟩ := HBLK.out.below hq; obtain ⟨rl, r0, r1, r2, r3, rf0, rf1, rf2, rf3⟩ := HRES.out.below hq)
            refine ret_read (.agg #[.slice A kk c, .int .i64 t2, .int .i64 0, .int .i64 0]) rfl ?_ ?_
            · refine ⟨below_set4 (bt HB.out hq) (Nat.le_refl _) _ _ _ _, A, kk, c, t2, 0, 0, rfl, ?_⟩
              rw [HZ.out]
              have hv2 : RVal (u.heap.size + 1) wo (.inl (x, t2)) (.slice A kk c) t2 0 0 := ⟨rfl, rfl, rfl, HN.out, hfr⟩
              exact ((hv2.below hq).away4 (Nat.lt_succ_self _) _ _ _ _).mono (Nat.le_succ _)
            · simp [results, Tryd.results31, go_sem, r0, r1, r2, r3]
          · have hltt := opAt_lt hne
            have hop16 := opsOf_in n _ (opAt_some hne).1
            have hone : ((opAt n l t2 : Int) == 0) = false := by rw [beq_eq_false_iff_ne]; omega
            have HY : Hid (∀ (w' : World), Toks w' (.slice Av l.length cv) l → Calls Tryd.prog 31 #[.slice Av l.length cv, .int .i64 ((t2 : Int) + 1), .int .i64 d, .int .i64 ((n : Int) + 1)] w' (RPost (flR (prR l k) l m (t2 + 1)) w')) := fun w' h => HF.out (t2 + 1) w' h
            have hfy := HFW.out.good (t2 + 1)
            have hey := HFW.out.bad (t2 + 1)
            cases hy : flR (prR l k) l m (t2 + 1) with
            | inr ep =>
              obtain ⟨ey, py⟩ := ep
              have he7 := hey _ _ hy
              have hee : (ey == 0) = false := by rw [beq_eq_false_iff_ne]; omega
              have HZ : Hid (R = .inr (ey, py)) := HRR.out.trans (lpS_err hne hy)
              rw [hy] at HY
              clear hfy hey hy he7 hne hop16
              generalize opAt n l t2 = o at hone
              go_wp2_with (first
                | (go_at_call 51; refine (HFL.out _).mono ?_; rintro e w4 ⟨b4, off4, c4, rfl, hc4, hb4⟩; have hq := bt HB2.out hb4; obtain ⟨ml, m0, m1, m2, m3, mf0, mf1, mf2, mf3⟩ := HBLK.out.below hq)
                | (go_at_call 31; refine (HY.out _ ((HV.out.below HB.out).below hq)).mono ?_; rintro e w5 ⟨hb5, A5, n5, c5, t5, e5, p5, rfl, hr5⟩; obtain ⟨hA5, rfl, rfl, rfl⟩ := hr5; cases hA5; obtain ⟨rl, r0, r1, r2, r3, rf0, rf1, rf2, rf3⟩ := HRES.out.below (bt hq hb5)))
              have hB5 := bt (bt HB.out hq) hb5
              refine ret_read (.agg #[.slice none 0 0, .int .i64 0, .int .i64 e5, .int .i64 p5]) rfl ?_ ?_
              · refine ⟨(below_set4 hB5 (Nat.le_refl _) _ _ _ _).alloc (by simp only [World.setCell, Array.size_modify]; exact hB5.size) _, none, 0, 0, 0, e5, p5, rfl, ?_⟩
                rw [HZ.out]
                exact ⟨rfl, rfl, rfl, rfl⟩
              · simp [results, Tryd.results31, go_sem, r0, r1, r2, r3, rl]
            | inl yt =>
              obtain ⟨y, t3⟩ := yt
              have hg := hfy _ _ hy
              have HZ : Hid (R = if n = 2 then .inl (.two ⟨opAt n l t2, 0, [], (tk l t2).pos⟩ x y, t3) else lpS (flR (prR l k) l m) n l (.two ⟨opAt n l t2, 0, [], (tk l t2).pos⟩ x y) t3) := HRR.out.trans (lpS_step HFW.out hne hy)
              rw [hy] at HY
              obtain ⟨hg1, hg2, hg3, hg4⟩ := hg
              clear hfy hey hy hne hop16 hg4
              obtain ⟨bt0, offt, ct, hE, hct, hbt, hatt⟩ := HV.out.at_ (by omega)
              cases hE
              have hpos0 := (hatt t2 hltt).pos
              rw [← tk_at hltt] at hpos0
              have HPOS : Hid (∀ w', Below u.heap.size u w' → w'.cell? ⟨bt0, offt + t2 * 4 + 3, none⟩ = some (.int .i64 (tk l t2).pos)) := fun w' hb => (hb.cell (p := ⟨bt0, offt + t2 * 4 + 3, none⟩) hbt).trans hpos0
              clear hatt hpos0 hct
              generalize opAt n l t2 = o at hone HZ HOP
              generalize (tk l t2).pos = ps at HPOS HZ
              have HOWN : Hid (∀ (W : World) (O : Obj), ((W.alloc O).alloc (.cells #[.int .i64 o, .int .i64 0, .string ⟨#[]⟩, .int .i64 ps] 30)).ownsRow (W.heap.size + 1) 30 4 (.slice (some ⟨W.heap.size + 1, 0, none⟩) 1 1) 1 (Nod.cells ⟨o, 0, [], ps⟩)) := fun W O => by
                have := own_nod (W.alloc O) (W.heap.size + 1) (by rw [World.size_alloc]; exact Nat.le_refl _) ⟨o, 0, [], ps⟩
                rw [World.size_alloc] at this
                exact this
              have HSZ : Hid (∀ (W : World) (O N : Obj), W.heap.size + 1 ≤ ((W.alloc O).alloc N).heap.size) := fun W O N => by rw [World.size_alloc, World.size_alloc]; omega
              have HL1 : Hid (1 + x.flat.length ≤ maxLen ∧ (1 + x.flat.length) * 40 ≤ 140737488355328) := by show _ ∧ _; unfold maxLen; constructor <;> omega
              have HL2 : Hid (1 + x.flat.length + y.flat.length ≤ maxLen ∧ (1 + x.flat.length + y.flat.length) * 40 ≤ 140737488355328) := by show _ ∧ _; unfold maxLen; constructor <;> omega
              have hug1 : ¬ (u.heap.size = w1.heap.size) := Nat.ne_of_lt HUG.out
              have hug2 : ¬ (w1.heap.size = u.heap.size) := Nat.ne_of_gt HUG.out
              cases hn2 : ((n : Int) == 2)
              · have HZ2 : Hid (R = lpS (flR (prR l k) l m) n l (.two ⟨o, 0, [], ps⟩ x y) t3) := by
                  show _ = _
                  rw [HZ.out, if_neg (by intro e; subst e; simp at hn2)]
                go_wp2_with (first
                  | (go_at_call 51; refine (HFL.out _).mono ?_; rintro e w4 ⟨b4, off4, c4, rfl, hc4, hb4⟩; have hq := bt HB2.out hb4; obtain ⟨ml, m0, m1, m2, m3, mf0, mf1, mf2, mf3⟩ := HBLK.out.below hq)
                  | (go_at_call 31; refine (HY.out _ ((HV.out.below HB.out).below hq)).mono ?_; rintro e w5 ⟨hb5, A5, n5, c5, t5, e5, p5, rfl, hr5⟩; obtain ⟨rfl, rfl, rfl, hny, hfy5⟩ := hr5; clear ml m0 m1 m2 m3 mf0 mf1 mf2 mf3; have hq5 := bt hq hb5; obtain ⟨ml, m0, m1, m2, m3, mf0, mf1, mf2, mf3⟩ := HBLK.out.below hq5; have hps := HPOS.out _ (bt HB.out hq5); have hnb : bt0 < w5.heap.size := Nat.lt_of_lt_of_le hbt (bt HB.out hq5).size)
                  | (at_builtin; refine wpl_app rfl _ _ 24 rfl (w5.heap.size + 1) 30 i0 _ 4 40 Tryd.underlying24 hi hz0 hz1 hz2 rfl (by decide) _ 1 _ rfl (HOWN.out w5 (.cells #[.slice A5 n5 c5, .int .i64 t3, .int .i64 0, .int .i64 0] 53)) _ x.flat.length _ rfl (((HN.out.below hq5).below (al _ _)).below (al _ _)) (nod_one _) HL1.out.1 HL1.out.2 (HSZ.out _ _ _) ?_; intro v6 w6 hown6 hb6; obtain ⟨A6, c6, rfl⟩ := own_shape hown6; obtain ⟨yl, y0, y1, y2, y3, yf0, yf1, yf2, yf3⟩ := (((Blk4.new w5 (.slice A5 n5 c5) (.int .i64 t3) (.int .i64 0) (.int .i64 0) 53).below (al _ _)).belowB hb6 (Nat.lt_succ_self _)); have hB6 : Below w5.heap.size w5 w6 := btB (bt (al _ _) (al _ _)) hb6 (Nat.le_succ _))
                  | (at_builtin; refine wpl_app rfl _ _ 24 rfl (w5.heap.size + 1) 30 i0 _ 4 40 Tryd.underlying24 hi hz0 hz1 hz2 rfl (by decide) _ (1 + x.flat.length) _ rfl hown6 _ y.flat.length _ rfl (hny.below hB6) (nod_one _) HL2.out.1 HL2.out.2 (Nat.succ_le_of_lt yl) ?_; intro v7 w7 hown7 hb7; obtain ⟨A7, c7, rfl⟩ := own_shape hown7; obtain ⟨zl, z0, z1, z2, z3, zf0, zf1, zf2, zf3⟩ := (Blk4.belowB ⟨yl, y0, y1, y2, y3, yf0, yf1, yf2, yf3⟩ hb7 (Nat.lt_succ_self _)); have hB7 : Below w5.heap.size w5 w7 := btB hB6 hb7 (Nat.le_succ _); clear ml m0 m1 m2 m3 mf0 mf1 mf2 mf3; obtain ⟨ml, m0, m1, m2, m3, mf0, mf1, mf2, mf3⟩ := (HBLK.out.below hq5).below hB7; obtain ⟨rl, r0, r1, r2, r3, rf0, rf1, rf2, rf3⟩ := (HRES.out.below hq5).below hB7; clear y0 y1 y2 y3 yf0 yf1 yf2 yf3))
                have hz := own_two (nd := ⟨o, 0, [], ps⟩) hown7
                have hB := bt (bt HB.out hq5) hB7
                go_roundw
                case rel =>
                  refine ⟨below_set4 hB (Nat.le_of_lt HUG.out) _ _ _ _, ?_, ?_⟩
                  · exact (((Blk4.mk rl r0 r1 r2 r3 rf0 rf1 rf2 rf3).away hug2 0 _).away hug2 1 _ |>.away hug2 2 _).away hug2 3 _
                  · refine ⟨A7, _, c7, t3, 0, 0, .inl (.two ⟨o, 0, [], ps⟩ x y, t3), (Blk4.mk ml m0 m1 m2 m3 mf0 mf1 mf2 mf3).set _ _ _ _, ⟨rfl, rfl, rfl, ?_, ?_⟩, HZ2.out, ?_, ?_⟩
                    · exact hz.1.away4 hz.2 (Nat.lt_succ_of_lt (HBLK.out.below hq5).lt) _ _ _ _
                    · exact hz.2.mono (Nat.succ_le_succ (bt HB.out hq5).size)
                    · intro x2 t2' e
                      cases e
                      refine ⟨hg2, ?_⟩
                      simp only [Ex.flat, List.length_cons, List.length_append]; omega
                    · intro e p h; cases h
                case measure =>
                  have e1 : (wo.cell? ⟨w1.heap.size, 1, none⟩) = some (.int .i64 t2) := HBLK.out.c1
                  have e2 := ((Blk4.mk ml m0 m1 m2 m3 mf0 mf1 mf2 mf3).set (.slice A7 (1 + x.flat.length + y.flat.length) c7) (.int .i64 t3) (.int .i64 0) (.int .i64 0)).c1
                  rw [e1, e2]
                  simp [intOf]; omega
              · have HZ2 : Hid (R = .inl (.two ⟨o, 0, [], ps⟩ x y, t3)) := by
                  show _ = _
                  rw [HZ.out, if_pos (by have := eq_of_beq hn2; omega)]
                go_wp2_with (first
                  | (go_at_call 51; refine (HFL.out _).mono ?_; rintro e w4 ⟨b4, off4, c4, rfl, hc4, hb4⟩; have hq := bt HB2.out hb4; obtain ⟨ml, m0, m1, m2, m3, mf0, mf1, mf2, mf3⟩ := HBLK.out.below hq)
                  | (go_at_call 31; refine (HY.out _ ((HV.out.below HB.out).below hq)).mono ?_; rintro e w5 ⟨hb5, A5, n5, c5, t5, e5, p5, rfl, hr5⟩; obtain ⟨rfl, rfl, rfl, hny, hfy5⟩ := hr5; clear ml m0 m1 m2 m3 mf0 mf1 mf2 mf3; have hq5 := bt hq hb5; obtain ⟨ml, m0, m1, m2, m3, mf0, mf1, mf2, mf3⟩ := HBLK.out.below hq5; have hps := HPOS.out _ (bt HB.out hq5); have hnb : bt0 < w5.heap.size := Nat.lt_of_lt_of_le hbt (bt HB.out hq5).size)
                  | (at_builtin; refine wpl_app rfl _ _ 24 rfl (w5.heap.size + 1) 30 i0 _ 4 40 Tryd.underlying24 hi hz0 hz1 hz2 rfl (by decide) _ 1 _ rfl (HOWN.out w5 (.cells #[.slice A5 n5 c5, .int .i64 t3, .int .i64 0, .int .i64 0] 53)) _ x.flat.length _ rfl (((HN.out.below hq5).below (al _ _)).below (al _ _)) (nod_one _) HL1.out.1 HL1.out.2 (HSZ.out _ _ _) ?_; intro v6 w6 hown6 hb6; obtain ⟨A6, c6, rfl⟩ := own_shape hown6; obtain ⟨yl, y0, y1, y2, y3, yf0, yf1, yf2, yf3⟩ := (((Blk4.new w5 (.slice A5 n5 c5) (.int .i64 t3) (.int .i64 0) (.int .i64 0) 53).below (al _ _)).belowB hb6 (Nat.lt_succ_self _)); have hB6 : Below w5.heap.size w5 w6 := btB (bt (al _ _) (al _ _)) hb6 (Nat.le_succ _))
                  | (at_builtin; refine wpl_app rfl _ _ 24 rfl (w5.heap.size + 1) 30 i0 _ 4 40 Tryd.underlying24 hi hz0 hz1 hz2 rfl (by decide) _ (1 + x.flat.length) _ rfl hown6 _ y.flat.length _ rfl (hny.below hB6) (nod_one _) HL2.out.1 HL2.out.2 (Nat.succ_le_of_lt yl) ?_; intro v7 w7 hown7 hb7; obtain ⟨A7, c7, rfl⟩ := own_shape hown7; obtain ⟨zl, z0, z1, z2, z3, zf0, zf1, zf2, zf3⟩ := (Blk4.belowB ⟨yl, y0, y1, y2, y3, yf0, yf1, yf2, yf3⟩ hb7 (Nat.lt_succ_self _)); have hB7 : Below w5.heap.size w5 w7 := btB hB6 hb7 (Nat.le_succ _); clear ml m0 m1 m2 m3 mf0 mf1 mf2 mf3; obtain ⟨ml, m0, m1, m2, m3, mf0, mf1, mf2, mf3⟩ := (HBLK.out.below hq5).below hB7; obtain ⟨rl, r0, r1, r2, r3, rf0, rf1, rf2, rf3⟩ := (HRES.out.below hq5).below hB7; clear y0 y1 y2 y3 yf0 yf1 yf2 yf3))
                have hz := own_two (nd := ⟨o, 0, [], ps⟩) hown7
                have hB := bt (bt HB.out hq5) hB7
                refine ret_read (.agg #[.slice A7 (1 + x.flat.length + y.flat.length) c7, .int .i64 t3, .int .i64 0, .int .i64 0]) rfl ?_ ?_
                · refine ⟨below_set4 (below_set4 hB (Nat.le_of_lt HUG.out) _ _ _ _) (Nat.le_refl _) _ _ _ _, A7, _, c7, t3, 0, 0, rfl, ?_⟩
                  rw [HZ2.out]
                  refine ⟨rfl, rfl, rfl, ?_, ?_⟩
                  · exact (hz.1.away4 hz.2 (Nat.lt_succ_of_lt (HBLK.out.below hq5).lt) _ _ _ _).away4 hz.2 (Nat.lt_succ_of_lt (HRES.out.below hq5).lt) _ _ _ _
                  · exact hz.2.mono (Nat.le_succ_of_le (bt HB.out hq5).size)
                · simp [results, Tryd.results31, go_sem, r0, r1, r2, r3]
end Go.Proofs.YtahdfglelhdcnaaDoor

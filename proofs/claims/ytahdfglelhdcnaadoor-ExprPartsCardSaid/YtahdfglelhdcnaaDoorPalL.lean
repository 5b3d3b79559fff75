/- The program's parser: floors, the loop. -/
import Derived.Test.YtahdfglelhdcnaaDoorPalJ
import Derived.Deep.RegionHeld3
namespace Go.Proofs.YtahdfglelhdcnaaDoor
open Go Go.RowKit
set_option linter.unusedVariables false
/-- the loop's head: the left part so far -/
structure FJ (l : List Tok) (f : Nat → Res) (n : Nat) (R : Res) (i : Nat) (d : Int) (k g : Nat) (v : Value) (w : World) (x : Value) (wr : World) : Prop where
  keep : Keep g w wr
  box : wr.cell? ⟨w.heap.size, 0, none⟩ = some (.pointer (some ⟨g, 0, none⟩))
  lt : w.heap.size < wr.heap.size
  cur : ∃ (A : Option Addr) (m c : Nat) (a e p : Int) (r : Res), x = .slice A m c ∧ Par wr g v a d e p ∧ Fresh (w.heap.size + 1) x ∧ PVal l i k r wr x a e p ∧
    R = contR f n l r ∧ (∀ y t, r = .inl (y, t) → i < t ∧ t ≤ l.length ∧ y.flat.length ≤ t - i) ∧ (∀ e p, r = .inr (e, p) → 1 ≤ e)
set_option maxHeartbeats 2000000 in
theorem floors_f (n : Nat) (hn : n < 5) (w : World) : Calls Tryd.prog 54 #[] w fun e w' => ∃ b A c, e = .returned (.slice (some ⟨b, 0, none⟩) 5 5) ∧ b < w'.heap.size ∧ w.heap.size ≤ b ∧ Fresh w.heap.size (.slice A (flS n).length c) ∧ w'.cell? ⟨b, n, none⟩ = some (.slice A (flS n).length c) ∧ Strs w' (.slice A (flS n).length c) (flS n) ∧ Below w.heap.size w w' := by
  go_enter Tryd.func54, Tryd.ntmps54
  go_wp2_with fail
  go_ret
  have h0 := strs_made w 0 1 rfl
  have h1 := strs_made (w.alloc (sO 0)) 1 1 rfl
  have h2 := strs_made ((w.alloc (sO 0)).alloc (sO 1)) 2 4 rfl
  have h3 := strs_made (((w.alloc (sO 0)).alloc (sO 1)).alloc (sO 2)) 3 2 rfl
  have h4 := strs_made ((((w.alloc (sO 0)).alloc (sO 1)).alloc (sO 2)).alloc (sO 3)) 4 3 rfl
  simp only [World.size_alloc] at h1 h2 h3 h4
  refine ⟨w.heap.size + 1 + 1 + 1 + 1 + 1, ?_⟩
  match n, hn with
  | 0, _ => exact ⟨some ⟨w.heap.size, 0, none⟩, 1, rfl, by simp only [World.size_alloc]; omega, by omega, fresh_one _ _ _ _ _ (by omega), by simp [go_sem, flS, opsOf], (((((h0.below (al _ _)).below (al _ _)).below (al _ _)).below (al _ _)).below (al _ _)), al6 _ _ _ _ _ _ _⟩
  | 1, _ => exact ⟨some ⟨w.heap.size + 1, 0, none⟩, 1, rfl, by simp only [World.size_alloc]; omega, by omega, fresh_one _ _ _ _ _ (by omega), by simp [go_sem, flS, opsOf], ((((h1.below (al _ _)).below (al _ _)).below (al _ _)).below (al _ _)), al6 _ _ _ _ _ _ _⟩
  | 2, _ => exact ⟨some ⟨w.heap.size + 1 + 1, 0, none⟩, 4, rfl, by simp only [World.size_alloc]; omega, by omega, fresh_one _ _ _ _ _ (by omega), by simp [go_sem, flS, opsOf], (((h2.below (al _ _)).below (al _ _)).below (al _ _)), al6 _ _ _ _ _ _ _⟩
  | 3, _ => exact ⟨some ⟨w.heap.size + 1 + 1 + 1, 0, none⟩, 2, rfl, by simp only [World.size_alloc]; omega, by omega, fresh_one _ _ _ _ _ (by omega), by simp [go_sem, flS, opsOf], ((h3.below (al _ _)).below (al _ _)), al6 _ _ _ _ _ _ _⟩
  | 4, _ => exact ⟨some ⟨w.heap.size + 1 + 1 + 1 + 1, 0, none⟩, 3, rfl, by simp only [World.size_alloc]; omega, by omega, fresh_one _ _ _ _ _ (by omega), by simp [go_sem, flS, opsOf], (h4.below (al _ _)), al6 _ _ _ _ _ _ _⟩
theorem cell4_far (w : World) {g b : Nat} (h : g ≠ b) (x y z q : Value) (o : Nat) : ((((w.setCell ⟨g, 0, none⟩ x).setCell ⟨g, 1, none⟩ y).setCell ⟨g, 2, none⟩ z).setCell ⟨g, 3, none⟩ q).cell? ⟨b, o, none⟩ = w.cell? ⟨b, o, none⟩ := by
  rw [World.cell?_setCell_far _ _ _ _ h, World.cell?_setCell_far _ _ _ _ h, World.cell?_setCell_far _ _ _ _ h, World.cell?_setCell_far _ _ _ _ h]
theorem wpAnyH_weaken {P : Program} {ops : Array Oper} {Q : Exit → Act → World → Prop} {md : Region.Mode} {S S2 : World → Prop} (hSS : ∀ w, S2 w → S w) : ∀ (fuel : Nat) (listed : Array Bool) (a : Act) (w : World), wpAnyH P md ops Q S2 fuel listed a w → wpAnyH P md ops Q S fuel listed a w
  | 0, _, _, _, h => h
  | fuel + 1, _, _, _, h => ⟨h.1, fun i hi => wpOp_mono (fun a' w' h' => ⟨hSS _ h'.1, wpAnyH_weaken hSS fuel _ a' w' h'.2⟩) (h.2 i hi)⟩
theorem flS_len (n : Nat) : (flS n).length = (opsOf n).length := by unfold flS; simp
theorem flS_at (n j : Nat) (h : j < (flS n).length) : (flS n)[j] = sg ((opsOf n)[j]'(by rw [flS_len] at h; exact h)) := by
  exact List.getElem_map (l := opsOf n) sg
theorem keep_cell {g : Nat} {a b : World} (h : Keep g a b) {bx : Nat} {u : Value} (hne : bx ≠ g) (hlt : bx < a.heap.size) (hc : a.cell? ⟨bx, 0, none⟩ = some u) : b.cell? ⟨bx, 0, none⟩ = some u := (h.cell (p := ⟨bx, 0, none⟩) hlt hne).trans hc
theorem own_cons2 {w : World} {base : Nat} {v : Value} {nd : Nod} {xs ys : List Nod} (h : w.ownsRow base 30 4 v (1 + xs.length + ys.length) ((Nod.cells nd ++ xs.flatMap Nod.cells) ++ ys.flatMap Nod.cells)) :
    NodO w v (nd :: (xs ++ ys)) ∧ Fresh base v := by
  refine ⟨⟨?_, Unf.own h⟩, Fresh.own h⟩
  have h2 := sl_of_own h
  have e1 : (nd :: (xs ++ ys)).length = 1 + xs.length + ys.length := by simp only [List.length_cons, List.length_append]; omega
  have e2 : (nd :: (xs ++ ys)).flatMap Nod.cells = (Nod.cells nd ++ xs.flatMap Nod.cells) ++ ys.flatMap Nod.cells := by simp
  show SlN w v 4 _ _
  rw [e1, e2]
  exact h2
/-- what a floor's round makes of what came back -/
def nextR (nd : Nod) (x : Ex) : Res → Res
  | .inl (y, t) => .inl (.two nd x y, t)
  | .inr e => .inr e
theorem next_post {l : List Tok} {i t k : Nat} {nd : Nod} {x : Ex} {r : Res} {w5 w7 : World} {V V7 : Value} {a e p : Int} (hit : i < t) (ht : t < l.length) (hxl : x.flat.length ≤ t - i) (h : PVal l (t + 1) k r w5 V a e p) {ny : List Nod} (hny : ny.length ≤ l.length - (t + 1))
    (he : ∀ y t, r = .inl (y, t) → ny = y.flat) (h7 : NodO w7 V7 (nd :: (x.flat ++ ny))) : PVal l i k (nextR nd x r) w7 V7 a e p := by
  cases r with
  | inl q =>
    obtain ⟨y, t2⟩ := q
    have hx := he y t2 rfl
    subst hx
    exact ⟨h.1, h.2.1, h.2.2.1, h7⟩
  | inr q =>
    obtain ⟨h1, h2, h3, h4, _⟩ := h
    exact ⟨h1, h2, h3, by omega, _, h7.nods, by simp only [List.length_cons, List.length_append]; omega⟩
theorem next_R {f : Nat → Res} {n : Nat} {l : List Tok} {x : Ex} {t : Nat} (hf : Fwd l f) (hne : opAt n l t ≠ 0) (hn : n ≠ 2) : lpS f n l x t = contR f n l (nextR ⟨opAt n l t, 0, [], (tk l t).pos⟩ x (f (t + 1))) := by
  cases hy : f (t + 1) with
  | inl q =>
    obtain ⟨y, t3⟩ := q
    rw [lpS_step hf hne hy, if_neg hn]; rfl
  | inr e => rw [lpS_err hne hy]; rfl
theorem next_R2 {f : Nat → Res} {n : Nat} {l : List Tok} {x : Ex} {t : Nat} (hf : Fwd l f) (hne : opAt n l t ≠ 0) (hn : n = 2) : lpS f n l x t = nextR ⟨opAt n l t, 0, [], (tk l t).pos⟩ x (f (t + 1)) := by
  cases hy : f (t + 1) with
  | inl q =>
    obtain ⟨y, t3⟩ := q
    rw [lpS_step hf hne hy, if_pos hn]; rfl
  | inr e => rw [lpS_err hne hy]; rfl
set_option maxRecDepth 100000 in
set_option maxHeartbeats 20000000 in
theorem floor_succ (l : List Tok) (hl : l.length ≤ 100000) (g : Nat) (v : Value) (i : Nat) (d : Int) (kk k m n : Nat) (hn : m + 1 + n = 5) (w : World) (hp : Par w g v i d 0 0) (hc : Ctx g v l w)
    (HF0 : ∀ (i : Nat) u, Par u g v i d 0 0 → Ctx g v l u → Calls Tryd.prog 33 #[.pointer (some ⟨g, 0, none⟩), .int .i64 ((n : Int) + 1)] u (PPost l g v i d k (flR (prR l kk) l m i) u)) :
    Calls Tryd.prog 33 #[.pointer (some ⟨g, 0, none⟩), .int .i64 n] w (PPost l g v i d k (flR (prR l kk) l (m + 1) i) w) := by
  obtain ⟨i0, hi0, hz0, hz1, hz2⟩ := info_parts info_nod
  have hfw : Fwd l (flR (prR l kk) l m) := flR_fwd (prR_fwd l kk) m
  have HFW := Lib.hid hfw
  have HF := Lib.hid HF0
  have HPA := Lib.hid hp
  have HCX := Lib.hid hc
  have HR : Hid (flR (prR l kk) l (m + 1) i = contR (flR (prR l kk) l m) n l (flR (prR l kk) l m i)) := by
    have e : 4 - m = n := by omega
    show _ = _
    rw [flR, e]
    cases flR (prR l kk) l m i with
    | inl r => rfl
    | inr e => rfl
  have hn5 : ((n : Int) == 5) = false := by rw [beq_eq_false_iff_ne]; omega
  have HFL : Hid (∀ u : World, Calls Tryd.prog 54 #[] u fun e w' => ∃ b A c, e = .returned (.slice (some ⟨b, 0, none⟩) 5 5) ∧ b < w'.heap.size ∧ u.heap.size ≤ b ∧ Fresh u.heap.size (.slice A (flS n).length c) ∧ w'.cell? ⟨b, n, none⟩ = some (.slice A (flS n).length c) ∧ Strs w' (.slice A (flS n).length c) (flS n) ∧ Below u.heap.size u w') := fun u => floors_f n (by omega) u
  have hwl := hp.lt
  clear HF0 hfw hp hc
  generalize flR (prR l kk) l (m + 1) i = R at HR
  go_enter Tryd.func33, Tryd.ntmps33
  go_wp2_with (first
    | (go_at_call 54; refine (HFL.out _).mono ?_; rintro e w1 ⟨b, A0, c0, rfl, hbl, _, _, hbc, hbs, hb1⟩; have hB := bt (al _ _) hb1; have hbox : w1.cell? ⟨w.heap.size, 0, none⟩ = some (.pointer (some ⟨g, 0, none⟩)) := (hb1.cell (p := ⟨w.heap.size, 0, none⟩) (by show w.heap.size < _; rw [World.size_alloc]; omega)).trans (cells_new w _ _ 0 _ rfl); have hsz1 : w.heap.size < w1.heap.size := Nat.lt_of_lt_of_le (by rw [World.size_alloc]; omega) hb1.size)
    | (go_at_call 33; refine (HF.out i _ (HPA.out.below hB) (HCX.out.keep (Keep.of hB) HPA.out.lt)).mono ?_; rintro e w2 ⟨hk2, A2, n2, c2, a2, e2, p2, rfl, hp2, hf2, hv2⟩))
  go_loopw [5, 6, 7, 8] (fun x _ _ _ wr => FJ l (flR (prR l kk) l m) n R i d k g v w x wr) (fun _ _ _ _ wr => if intOf ((wr.cell? ⟨g, 3, none⟩).getD (.int .i64 0)) = 0 then l.length + 1 - (intOf ((wr.cell? ⟨g, 1, none⟩).getD (.int .i64 0))).toNat else 0)
  case atStart =>
    exact ⟨(Keep.of hB).trans hk2, keep_cell hk2 (by omega) hsz1 hbox, Nat.lt_of_lt_of_le hsz1 hk2.size, A2, n2, c2, a2, e2, p2, _, rfl, hp2, hf2.mono hsz1, hv2, HR.out, fun y t h => (by have := HFW.out.good i y t h; exact ⟨this.1, this.2.1, this.2.2.1⟩), fun e p h => (HFW.out.bad i e p h).1⟩
  case round =>
    obtain ⟨hkr, hbox, hltr, A, mm, c, a, e, p, r, rfl, hpr, hfr, hvr, hRr, hgd, hbd⟩ := hrel
    match r, hvr, hRr, hgd, hbd with
    | .inr (e2, p2), hvr, hRr, hgd, hbd =>
      obtain ⟨rfl, rfl, ha1, ha2, gl, hgl, hgll⟩ := hvr
      have he1 := hbd _ _ rfl
      have hee : (e == 0) = false := by rw [beq_eq_false_iff_ne]; omega
      have HPR := Lib.hid hpr
      obtain ⟨pl, p0, p1, p2, p3, p4, pf1, pf2, pf3, pf4⟩ := hpr
      go_wp2_with fail
      go_ret
      rw [hRr]
      exact ⟨hkr, A, mm, c, a, e, p, rfl, HPR.out, hfr.mono (Nat.le_succ _), rfl, rfl, ha1, ha2, gl, hgl, hgll⟩
    | .inl (x, t), hvr, hRr, hgd, hbd =>
      obtain ⟨rfl, rfl, rfl, hnx⟩ := hvr
      obtain ⟨hit, htl, hxl⟩ := hgd _ _ rfl
      have HPR := Lib.hid hpr
      have HKR := Lib.hid hkr
      have HNX := Lib.hid hnx
      have HFR := Lib.hid hfr
      have HRR : Hid (R = lpS (flR (prR l kk) l m) n l x t) := hRr
      have HCR : Hid (Ctx g v l wr) := HCX.out.keep hkr HPA.out.lt
      have hfl4 : (flS n).length ≤ 1000 := by rw [flS_len]; have := opsOf_len n; omega
      have hfl0 : 0 < (flS n).length := by rw [flS_len]; exact opsOf_pos n (by omega)
      have HLS := Lib.hid (And.intro hfl4 hfl0)
      obtain ⟨pl, p0, p1, p2, p3, p4, pf1, pf2, pf3, pf4⟩ := hpr
      clear hRr hgd hbd hkr hnx hfr hvr hfl4 hfl0 hB hk2 hp2 hf2 hv2 hb1 hbc hbs hsz1
      go_upto_region 6 with (first
        | (go_at_call 54; refine (HFL.out _).mono ?_; rintro e w3 ⟨b3, A3, c3, rfl, hbl3, _, _, hbc3, hbs3, hb3⟩; have hbox3 := (hb3.cell (p := ⟨w.heap.size, 0, none⟩) hltr).trans hbox; have hlt3 := Nat.lt_of_lt_of_le hltr hb3.size)
        | (go_at_call 56; refine (index_c l hl g w.heap.size v t d (flS n) HLS.out.1 HLS.out.2 _ _ hbs3 (HPR.out.below hb3) (HCR.out.belowB (hb3.mono (Nat.le_of_lt pl))) hbox3 hlt3).mono ?_; rintro e w4 ⟨hb4, z, rfl, hz⟩))
      have hB4 := bt hb3 hb4
      rcases hz with ⟨rfl, hno⟩ | ⟨j, rfl, hjl, hyes⟩
      · have HZ : Hid (R = .inl (x, t)) := HRR.out.trans (lpS_stop (opAt_zero fun j' hj' => by
          have hj2 : j' < (flS n).length := by rw [flS_len]; exact hj'
          have := hno _ (List.getElem_mem hj2)
          rw [flS_at n j' hj2] at this
          exact this))
        go_wp2_with fail
        go_ret
        rw [HZ.out]
        exact ⟨HKR.out.trans (Keep.of hB4), A, mm, c, t, 0, 0, rfl, HPR.out.below hB4, HFR.out.mono (Nat.le_succ _), rfl, rfl, rfl, HNX.out.below hB4⟩
      · have hjo : j < (opsOf n).length := by rw [flS_len] at hjl; exact hjl
        rw [flS_at n j hjl] at hyes
        have hop := opsOf_in n _ (List.getElem_mem hjo)
        have HOP : Hid (opAt n l t = (opsOf n)[j]) := opAt_of (List.getElem_mem hjo) hyes
        have hlt := isE_lt hyes
        have hne : opAt n l t ≠ 0 := by rw [HOP.out]; omega
        have HSG : Hid ((flS n)[j] = sg ((opsOf n)[j])) := flS_at n j hjl
        generalize (opsOf n)[j] = o at hop HOP HSG
        have hposT : ∃ ps, Hid (ps = (tk l t).pos) := ⟨_, rfl⟩
        obtain ⟨ps, HPS⟩ := hposT
        go_upto_region 7 with fail
        go_cut [7] (fun s wx => ∃ hb : Nat, s = .pointer (some ⟨hb, 0, none⟩) ∧ w4.heap.size ≤ hb ∧ Blk4 wx hb (.int .i64 o) (.int .i64 0) (.string ⟨#[]⟩) (.int .i64 ps) ∧ Below w4.heap.size w4 wx)
        case first =>
          have hpx := HPR.out.below hB4
          obtain ⟨bt0, offt, ct, hve, hct, hbt, hatt⟩ := ((HCR.out.belowB (hB4.mono (Nat.le_of_lt HPR.out.lt))).now hpx.lt).at_ (by omega)
          have hpp := (hatt t hlt).pos
          rw [← tk_at hlt, ← HPS.out] at hpp
          subst hve
          have hbx4 := (hB4.cell (p := ⟨w.heap.size, 0, none⟩) hltr).trans hbox
          have hpc0 := hpx.c0
          have hpc1 := hpx.c1
          have hlx4 : w.heap.size < w4.heap.size := Nat.lt_of_lt_of_le hltr hB4.size
          have hgl4 := hpx.lt
          have HTW : Hid (∀ u : World, Calls Tryd.prog 59 #[.string (str (sg o))] u fun e w' => e = .returned (.int .i64 o) ∧ Below u.heap.size u w') := fun u => two_c o hop.1 hop.2 u
          have HSL := Lib.hid hjl
          clear hatt hct p0 p1 p2 p3 p4 pf1 pf2 pf3 pf4 pl hpx hbc3 hbs3 hbl3 hbox3 hbox hyes hne
          have hti0 : (0 : Int) ≤ (t : Int) := Int.natCast_nonneg _
          have hti1 : (t : Int) < (l.length : Int) := by omega
          have hn50 : (0 : Int) ≤ (n : Int) := Int.natCast_nonneg _
          have hn51 : (n : Int) < 5 := by omega
          have hj0 : (0 : Int) ≤ (j : Int) := Int.natCast_nonneg _
          have hj1 : (j : Int) < ((flS n).length : Int) := by omega
          clear hltr hlt hit htl hxl hop hjo HF HCX HPA HPR HCR HKR HNX HFR HRR HOP HFW HR
          refine wp_region_held_drew (S := fun w' => w'.cell? ⟨w.heap.size, 0, none⟩ = some (.pointer (some ⟨g, 0, none⟩)) ∧ w'.cell? ⟨g, 0, none⟩ = some (.slice (some ⟨bt0, offt, none⟩) l.length ct) ∧ w'.cell? ⟨g, 1, none⟩ = some (.int .i64 t) ∧ w'.cell? ⟨bt0, offt + t * 4 + 3, none⟩ = some (.int .i64 ps)) (by kernel_rfl) ⟨hbx4, hpc0, hpc1, hpp⟩ (fun hHeld => ?_)
          refine wpAnyH_take (i := 1) (v := ?_) rfl (by kernel_rfl) (by kernel_rfl) (by kernel_rfl) (fun _ _ _ h => h) (Or.inl ⟨by rfl, ?_⟩) (by assumption) ?_
          rotate_left
          · intro w0 hSw
            (try dsimp only at hSw)
            go_simp
            (try with_reducible rfl)
          (try simp only [Act.put, List.setIfInBounds_toArray])
          refine wpAnyH_take (i := 4) (v := ?_) rfl (by kernel_rfl) (by kernel_rfl) (by kernel_rfl) (fun _ _ _ h => h) (Or.inl ⟨by rfl, ?_⟩) (by assumption) ?_
          rotate_left
          · intro w0 hSw
            (try dsimp only at hSw)
            go_simp
            (try with_reducible rfl)
          (try simp only [Act.put])
          refine wpAnyH_take (i := 8) (v := ?_) rfl (by kernel_rfl) (by kernel_rfl) (by kernel_rfl) (fun _ _ _ h => h) (Or.inl ⟨by rfl, ?_⟩) (by assumption) ?_
          rotate_left
          · intro w0 hSw
            (try dsimp only at hSw)
            go_simp
            (try with_reducible rfl)
          (try simp only [Act.put])
          refine wpAnyH_take (i := 9) (v := ?_) rfl (by kernel_rfl) (by kernel_rfl) (by kernel_rfl) (fun _ _ _ h => h) (Or.inl ⟨by rfl, ?_⟩) (by assumption) ?_
          rotate_left
          · intro w0 hSw
            (try dsimp only at hSw)
            go_simp
            (try with_reducible rfl)
          (try simp only [Act.put])
          refine wpAnyH_take (i := 10) (v := ?_) rfl (by kernel_rfl) (by kernel_rfl) (by kernel_rfl) (fun _ _ _ h => h) (Or.inl ⟨by rfl, ?_⟩) (by assumption) ?_
          rotate_left
          · intro w0 hSw
            (try dsimp only at hSw)
            go_simp
            (try with_reducible rfl)
          (try simp only [Act.put])
          refine wpAnyH_take (i := 11) (v := ?_) rfl (by kernel_rfl) (by kernel_rfl) (by kernel_rfl) (fun _ _ _ h => h) (Or.inl ⟨by rfl, ?_⟩) (by assumption) ?_
          rotate_left
          · intro w0 hSw
            (try dsimp only at hSw)
            go_simp
            (try with_reducible rfl)
          (try simp only [Act.put])
          refine wpAnyH_take (i := 12) (v := ?_) rfl (by kernel_rfl) (by kernel_rfl) (by kernel_rfl) (fun _ _ _ h => h) (Or.inl ⟨by rfl, ?_⟩) (by assumption) ?_
          rotate_left
          · intro w0 hSw
            (try dsimp only at hSw)
            go_simp
            (try with_reducible rfl)
          (try simp only [Act.put])
          refine wpAnyH_take (i := 13) (v := ?_) rfl (by kernel_rfl) (by kernel_rfl) (by kernel_rfl) (fun _ _ _ h => h) (Or.inl ⟨by rfl, ?_⟩) (by assumption) ?_
          rotate_left
          · intro w0 hSw
            (try dsimp only at hSw)
            go_simp
            (try with_reducible rfl)
          (try simp only [Act.put])
          refine wpAnyH_take (i := 14) (v := ?_) rfl (by kernel_rfl) (by kernel_rfl) (by kernel_rfl) (fun _ _ _ h => h) (Or.inl ⟨by rfl, ?_⟩) (by assumption) ?_
          rotate_left
          · intro w0 hSw
            (try dsimp only at hSw)
            go_simp
            (try with_reducible rfl)
          (try simp only [Act.put])
          refine wpAnyH_take (i := 15) (v := ?_) rfl (by kernel_rfl) (by kernel_rfl) (by kernel_rfl) (fun _ _ _ h => h) (Or.inl ⟨by rfl, ?_⟩) (by assumption) ?_
          rotate_left
          · intro w0 hSw
            (try dsimp only at hSw)
            go_simp
            (try with_reducible rfl)
          (try simp only [Act.put])
          refine wpAnyH_take (i := 16) (v := ?_) rfl (by kernel_rfl) (by kernel_rfl) (by kernel_rfl) (fun _ _ _ h => h) (Or.inl ⟨by rfl, ?_⟩) (by assumption) ?_
          rotate_left
          · intro w0 hSw
            (try dsimp only at hSw)
            go_simp
            (try with_reducible rfl)
          (try simp only [Act.put])
          refine wpAnyH_take (i := 17) (v := ?_) rfl (by kernel_rfl) (by kernel_rfl) (by kernel_rfl) (fun _ _ _ h => h) (Or.inl ⟨by rfl, ?_⟩) (by assumption) ?_
          rotate_left
          · intro w0 hSw
            (try dsimp only at hSw)
            go_simp
            (try with_reducible rfl)
          (try simp only [Act.put])
          refine wpAnyH_take (i := 18) (v := ?_) rfl (by kernel_rfl) (by kernel_rfl) (by kernel_rfl) (fun _ _ _ h => h) (Or.inl ⟨by rfl, ?_⟩) (by assumption) ?_
          rotate_left
          · intro w0 hSw
            (try dsimp only at hSw)
            go_simp
            (try with_reducible rfl)
          (try simp only [Act.put])
          refine wpAnyH_ready (rs := [0, 20]) (by kernel_rfl) (by simp) ?_
          refine AllReadyH.cons rfl (fun K hK => ?_) ?_
          · go_simp
            refine (HFL.out _).mono ?_
            rintro e w5 ⟨b5, A5, c5, rfl, hbl5, hbf5, hsf5, hbc5, hbs5, hb5⟩
            dsimp only
            have hs1 : w.heap.size < (w4.drew).heap.size := hlx4
            have hs2 : g < (w4.drew).heap.size := hgl4
            have hs3 : bt0 < (w4.drew).heap.size := hbt
            have hk1 := (hb5.cell (p := ⟨w.heap.size, 0, none⟩) hs1).trans hHeld.1
            have hk2 := (hb5.cell (p := ⟨g, 0, none⟩) hs2).trans hHeld.2.1
            have hk3 := (hb5.cell (p := ⟨g, 1, none⟩) hs2).trans hHeld.2.2.1
            have hk4 := (hb5.cell (p := ⟨bt0, offt + t * 4 + 3, none⟩) hs3).trans hHeld.2.2.2
            refine hK.out _ _ ⟨hk1, hk2, hk3, hk4⟩ (fun hHeld2 => ?_)
            obtain ⟨bs, offs, cs, hVe, hcs, hbsl, hbsat⟩ := hbs5.at_ HLS.out.2
            cases hVe
            have hsf6 := hsf5 _ _ _ rfl
            have hk6 := hbsat j HSL.out
            rw [HSG.out] at hk6
            refine wpAnyH_weaken (S2 := fun w' => (w'.cell? ⟨w.heap.size, 0, none⟩ = some (.pointer (some ⟨g, 0, none⟩)) ∧ w'.cell? ⟨g, 0, none⟩ = some (.slice (some ⟨bt0, offt, none⟩) l.length ct) ∧ w'.cell? ⟨g, 1, none⟩ = some (.int .i64 t) ∧ w'.cell? ⟨bt0, offt + t * 4 + 3, none⟩ = some (.int .i64 ps)) ∧ w'.cell? ⟨b5, n, none⟩ = some (.slice (some ⟨bs, offs, none⟩) (flS n).length c5) ∧ w'.cell? ⟨bs, offs + j, none⟩ = some (.string (str (sg o)))) (fun w0 h => h.1) _ _ _ _ ?_
            have hHeld3 : (fun w' => (w'.cell? ⟨w.heap.size, 0, none⟩ = some (.pointer (some ⟨g, 0, none⟩)) ∧ w'.cell? ⟨g, 0, none⟩ = some (.slice (some ⟨bt0, offt, none⟩) l.length ct) ∧ w'.cell? ⟨g, 1, none⟩ = some (.int .i64 t) ∧ w'.cell? ⟨bt0, offt + t * 4 + 3, none⟩ = some (.int .i64 ps)) ∧ w'.cell? ⟨b5, n, none⟩ = some (.slice (some ⟨bs, offs, none⟩) (flS n).length c5) ∧ w'.cell? ⟨bs, offs + j, none⟩ = some (.string (str (sg o)))) w5 := ⟨⟨hk1, hk2, hk3, hk4⟩, hbc5, hk6⟩
            have hl1 := Nat.lt_of_lt_of_le hs1 hb5.size
            have hl2 := Nat.lt_of_lt_of_le hs2 hb5.size
            have hl3 := Nat.lt_of_lt_of_le hs3 hb5.size
            have hgs : (Value.string (str (sg o))) = Value.string (str (sg o)) := rfl
            clear hK K hHeld hHeld2 hk1 hk2 hk3 hk4 hbsat hbs5 hcs
            (try simp only [Act.put, List.setIfInBounds_toArray, List.set_cons_zero, List.set_cons_succ])
            refine wpAnyH_take (i := 2) (v := ?_) rfl (by kernel_rfl) (by kernel_rfl) (by kernel_rfl) (fun _ _ _ h => h) (Or.inl ⟨by rfl, ?_⟩) (by assumption) ?_
            rotate_left
            · intro w0 hSw
              (try dsimp only at hSw)
              go_simp
              (try with_reducible rfl)
            (try simp only [Act.put, List.setIfInBounds_toArray])
            refine wpAnyH_take (i := 3) (v := ?_) rfl (by kernel_rfl) (by kernel_rfl) (by kernel_rfl) (fun _ _ _ h => h) (Or.inl ⟨by rfl, ?_⟩) (by assumption) ?_
            rotate_left
            · intro w0 hSw
              (try dsimp only at hSw)
              go_simp
              (try with_reducible rfl)
            (try simp only [Act.put])
            refine wpAnyH_take (i := 5) (v := ?_) rfl (by kernel_rfl) (by kernel_rfl) (by kernel_rfl) (fun _ _ _ h => h) (Or.inl ⟨by rfl, ?_⟩) (by assumption) ?_
            rotate_left
            · intro w0 hSw
              (try dsimp only at hSw)
              go_simp
              (try with_reducible rfl)
            (try simp only [Act.put])
            refine wpAnyH_take (i := 6) (v := ?_) rfl (by kernel_rfl) (by kernel_rfl) (by kernel_rfl) (fun _ _ _ h => h) (Or.inl ⟨by rfl, ?_⟩) (by assumption) ?_
            rotate_left
            · intro w0 hSw
              (try dsimp only at hSw)
              go_simp
              (try with_reducible rfl)
            (try simp only [Act.put])
            refine wpAnyH_ready (rs := [7, 20]) (by kernel_rfl) (by simp) ?_
            refine AllReadyH.cons rfl (fun K hK => ?_) ?_
            · go_simp
              refine (HTW.out _).mono ?_
              rintro e w6 ⟨rfl, hb6⟩
              dsimp only
              have hHeld5 : (fun w' => (w'.cell? ⟨w.heap.size, 0, none⟩ = some (.pointer (some ⟨g, 0, none⟩)) ∧ w'.cell? ⟨g, 0, none⟩ = some (.slice (some ⟨bt0, offt, none⟩) l.length ct) ∧ w'.cell? ⟨g, 1, none⟩ = some (.int .i64 t) ∧ w'.cell? ⟨bt0, offt + t * 4 + 3, none⟩ = some (.int .i64 ps)) ∧ w'.cell? ⟨b5, n, none⟩ = some (.slice (some ⟨bs, offs, none⟩) (flS n).length c5) ∧ w'.cell? ⟨bs, offs + j, none⟩ = some (.string (str (sg o)))) w6 := ⟨⟨(hb6.cell (p := ⟨w.heap.size, 0, none⟩) hl1).trans hHeld3.1.1, (hb6.cell (p := ⟨g, 0, none⟩) hl2).trans hHeld3.1.2.1, (hb6.cell (p := ⟨g, 1, none⟩) hl2).trans hHeld3.1.2.2.1, (hb6.cell (p := ⟨bt0, offt + t * 4 + 3, none⟩) hl3).trans hHeld3.1.2.2.2⟩, (hb6.cell (p := ⟨b5, n, none⟩) hbl5).trans hHeld3.2.1, (hb6.cell (p := ⟨bs, offs + j, none⟩) hbsl).trans hHeld3.2.2⟩
              refine hK.out _ _ hHeld5 (fun _ => ?_)
              clear hK K
              (try simp only [Act.put, List.setIfInBounds_toArray, List.set_cons_zero, List.set_cons_succ])
              refine wpAnyH_take (i := 19) (v := ?_) rfl (by kernel_rfl) (by kernel_rfl) (by kernel_rfl) (fun _ _ _ h => h) (Or.inl ⟨by rfl, ?_⟩) (by assumption) ?_
              rotate_left
              · intro w0 hSw
                (try dsimp only at hSw)
                go_simp
                (try with_reducible rfl)
              (try simp only [Act.put, List.setIfInBounds_toArray])
              refine wpAnyH_ready (rs := [20]) (by kernel_rfl) (by simp) ?_
              refine AllReadyH.cons rfl (fun K hK => ?_) AllReadyH.nil
              go_simp
              have hb8 := al w6 (.cells #[.int .i64 0, .int .i64 0, .string ⟨#[]⟩, .int .i64 0] 30)
              have hHeld6 : (fun w' => (w'.cell? ⟨w.heap.size, 0, none⟩ = some (.pointer (some ⟨g, 0, none⟩)) ∧ w'.cell? ⟨g, 0, none⟩ = some (.slice (some ⟨bt0, offt, none⟩) l.length ct) ∧ w'.cell? ⟨g, 1, none⟩ = some (.int .i64 t) ∧ w'.cell? ⟨bt0, offt + t * 4 + 3, none⟩ = some (.int .i64 ps)) ∧ w'.cell? ⟨b5, n, none⟩ = some (.slice (some ⟨bs, offs, none⟩) (flS n).length c5) ∧ w'.cell? ⟨bs, offs + j, none⟩ = some (.string (str (sg o)))) (w6.alloc (.cells #[.int .i64 0, .int .i64 0, .string ⟨#[]⟩, .int .i64 0] 30)) := ⟨⟨(hb8.cell (p := ⟨w.heap.size, 0, none⟩) (Nat.lt_of_lt_of_le hl1 hb6.size)).trans hHeld5.1.1, (hb8.cell (p := ⟨g, 0, none⟩) (Nat.lt_of_lt_of_le hl2 hb6.size)).trans hHeld5.1.2.1, (hb8.cell (p := ⟨g, 1, none⟩) (Nat.lt_of_lt_of_le hl2 hb6.size)).trans hHeld5.1.2.2.1, (hb8.cell (p := ⟨bt0, offt + t * 4 + 3, none⟩) (Nat.lt_of_lt_of_le hl3 hb6.size)).trans hHeld5.1.2.2.2⟩, (hb8.cell (p := ⟨b5, n, none⟩) (Nat.lt_of_lt_of_le hbl5 hb6.size)).trans hHeld5.2.1, (hb8.cell (p := ⟨bs, offs + j, none⟩) (Nat.lt_of_lt_of_le hbsl hb6.size)).trans hHeld5.2.2⟩
              refine hK.out _ _ hHeld6 (fun _ => ?_)
              clear hK K
              (try simp only [Act.put, List.setIfInBounds_toArray, List.set_cons_zero, List.set_cons_succ])
              refine wpAnyH_ready (rs := [21]) (by kernel_rfl) (by simp) ?_
              refine AllReadyH.cons rfl (fun K hK => ?_) AllReadyH.nil
              go_simp
              have hb9 := al w6 (.cells #[.int .i64 o, .int .i64 0, .string ⟨#[]⟩, .int .i64 ps] 30)
              have hHeld7 : (fun w' => (w'.cell? ⟨w.heap.size, 0, none⟩ = some (.pointer (some ⟨g, 0, none⟩)) ∧ w'.cell? ⟨g, 0, none⟩ = some (.slice (some ⟨bt0, offt, none⟩) l.length ct) ∧ w'.cell? ⟨g, 1, none⟩ = some (.int .i64 t) ∧ w'.cell? ⟨bt0, offt + t * 4 + 3, none⟩ = some (.int .i64 ps)) ∧ w'.cell? ⟨b5, n, none⟩ = some (.slice (some ⟨bs, offs, none⟩) (flS n).length c5) ∧ w'.cell? ⟨bs, offs + j, none⟩ = some (.string (str (sg o)))) (w6.alloc (.cells #[.int .i64 o, .int .i64 0, .string ⟨#[]⟩, .int .i64 ps] 30)) := ⟨⟨(hb9.cell (p := ⟨w.heap.size, 0, none⟩) (Nat.lt_of_lt_of_le hl1 hb6.size)).trans hHeld5.1.1, (hb9.cell (p := ⟨g, 0, none⟩) (Nat.lt_of_lt_of_le hl2 hb6.size)).trans hHeld5.1.2.1, (hb9.cell (p := ⟨g, 1, none⟩) (Nat.lt_of_lt_of_le hl2 hb6.size)).trans hHeld5.1.2.2.1, (hb9.cell (p := ⟨bt0, offt + t * 4 + 3, none⟩) (Nat.lt_of_lt_of_le hl3 hb6.size)).trans hHeld5.1.2.2.2⟩, (hb9.cell (p := ⟨b5, n, none⟩) (Nat.lt_of_lt_of_le hbl5 hb6.size)).trans hHeld5.2.1, (hb9.cell (p := ⟨bs, offs + j, none⟩) (Nat.lt_of_lt_of_le hbsl hb6.size)).trans hHeld5.2.2⟩
              refine hK.out _ _ hHeld7 (fun _ => ?_)
              clear hK K
              (try simp only [Act.put, List.setIfInBounds_toArray, List.set_cons_zero, List.set_cons_succ])
              refine wpAnyH_done (by kernel_rfl) ?_ _
              go_wp2_with fail
              go_meet
              exact ⟨w6.heap.size, rfl, Nat.le_trans hb5.size hb6.size, Blk4.new _ _ _ _ _ _, bt (bt (bdr (Below.refl _ _)) hb5) (bt hb6 hb9)⟩
            · refine AllReadyH.cons rfl (fun K hK => ?_) AllReadyH.nil
              go_simp
              have hb8 := al w5 (.cells #[.int .i64 0, .int .i64 0, .string ⟨#[]⟩, .int .i64 0] 30)
              have hHeld6 : (fun w' => (w'.cell? ⟨w.heap.size, 0, none⟩ = some (.pointer (some ⟨g, 0, none⟩)) ∧ w'.cell? ⟨g, 0, none⟩ = some (.slice (some ⟨bt0, offt, none⟩) l.length ct) ∧ w'.cell? ⟨g, 1, none⟩ = some (.int .i64 t) ∧ w'.cell? ⟨bt0, offt + t * 4 + 3, none⟩ = some (.int .i64 ps)) ∧ w'.cell? ⟨b5, n, none⟩ = some (.slice (some ⟨bs, offs, none⟩) (flS n).length c5) ∧ w'.cell? ⟨bs, offs + j, none⟩ = some (.string (str (sg o)))) (w5.alloc (.cells #[.int .i64 0, .int .i64 0, .string ⟨#[]⟩, .int .i64 0] 30)) := ⟨⟨(hb8.cell (p := ⟨w.heap.size, 0, none⟩) hl1).trans hHeld3.1.1, (hb8.cell (p := ⟨g, 0, none⟩) hl2).trans hHeld3.1.2.1, (hb8.cell (p := ⟨g, 1, none⟩) hl2).trans hHeld3.1.2.2.1, (hb8.cell (p := ⟨bt0, offt + t * 4 + 3, none⟩) hl3).trans hHeld3.1.2.2.2⟩, (hb8.cell (p := ⟨b5, n, none⟩) hbl5).trans hHeld3.2.1, (hb8.cell (p := ⟨bs, offs + j, none⟩) hbsl).trans hHeld3.2.2⟩
              refine hK.out _ _ hHeld6 (fun _ => ?_)
              clear hK K
              (try simp only [Act.put, List.setIfInBounds_toArray, List.set_cons_zero, List.set_cons_succ])
              refine wpAnyH_ready (rs := [7]) (by kernel_rfl) (by simp) ?_
              refine AllReadyH.cons rfl (fun K hK => ?_) AllReadyH.nil
              go_simp
              refine (HTW.out _).mono ?_
              rintro e w6 ⟨rfl, hb6⟩
              dsimp only
              have hHeld5 : (fun w' => (w'.cell? ⟨w.heap.size, 0, none⟩ = some (.pointer (some ⟨g, 0, none⟩)) ∧ w'.cell? ⟨g, 0, none⟩ = some (.slice (some ⟨bt0, offt, none⟩) l.length ct) ∧ w'.cell? ⟨g, 1, none⟩ = some (.int .i64 t) ∧ w'.cell? ⟨bt0, offt + t * 4 + 3, none⟩ = some (.int .i64 ps)) ∧ w'.cell? ⟨b5, n, none⟩ = some (.slice (some ⟨bs, offs, none⟩) (flS n).length c5) ∧ w'.cell? ⟨bs, offs + j, none⟩ = some (.string (str (sg o)))) w6 := ⟨⟨(hb6.cell (p := ⟨w.heap.size, 0, none⟩) (Nat.lt_of_lt_of_le hl1 hb8.size)).trans hHeld6.1.1, (hb6.cell (p := ⟨g, 0, none⟩) (Nat.lt_of_lt_of_le hl2 hb8.size)).trans hHeld6.1.2.1, (hb6.cell (p := ⟨g, 1, none⟩) (Nat.lt_of_lt_of_le hl2 hb8.size)).trans hHeld6.1.2.2.1, (hb6.cell (p := ⟨bt0, offt + t * 4 + 3, none⟩) (Nat.lt_of_lt_of_le hl3 hb8.size)).trans hHeld6.1.2.2.2⟩, (hb6.cell (p := ⟨b5, n, none⟩) (Nat.lt_of_lt_of_le hbl5 hb8.size)).trans hHeld6.2.1, (hb6.cell (p := ⟨bs, offs + j, none⟩) (Nat.lt_of_lt_of_le hbsl hb8.size)).trans hHeld6.2.2⟩
              refine hK.out _ _ hHeld5 (fun _ => ?_)
              clear hK K
              (try simp only [Act.put, List.setIfInBounds_toArray, List.set_cons_zero, List.set_cons_succ])
              refine wpAnyH_take (i := 19) (v := ?_) rfl (by kernel_rfl) (by kernel_rfl) (by kernel_rfl) (fun _ _ _ h => h) (Or.inl ⟨by rfl, ?_⟩) (by assumption) ?_
              rotate_left
              · intro w0 hSw
                (try dsimp only at hSw)
                go_simp
                (try with_reducible rfl)
              (try simp only [Act.put, List.setIfInBounds_toArray])
              have hz := (Blk4.new w5 (.int .i64 0) (.int .i64 0) (.string ⟨#[]⟩) (.int .i64 0) 30).below hb6
              have HZ := Lib.hid hz
              obtain ⟨zl, z0, z1, z2, z3, zf0, zf1, zf2, zf3⟩ := hz
              refine wpAnyH_ready (rs := [21]) (by kernel_rfl) (by simp) ?_
              refine AllReadyH.cons rfl (fun K hK => ?_) AllReadyH.nil
              go_simp
              have hb9 := below_set4 (Below.refl w5.heap.size w6) (Nat.le_refl _) (.int .i64 o) (.int .i64 0) (.string ⟨#[]⟩) (.int .i64 ps)
              refine hK.out _ _ (⟨⟨(hb9.cell (p := ⟨w.heap.size, 0, none⟩) hl1).trans hHeld5.1.1, (hb9.cell (p := ⟨g, 0, none⟩) hl2).trans hHeld5.1.2.1, (hb9.cell (p := ⟨g, 1, none⟩) hl2).trans hHeld5.1.2.2.1, (hb9.cell (p := ⟨bt0, offt + t * 4 + 3, none⟩) hl3).trans hHeld5.1.2.2.2⟩, (hb9.cell (p := ⟨b5, n, none⟩) hbl5).trans hHeld5.2.1, (hb9.cell (p := ⟨bs, offs + j, none⟩) hbsl).trans hHeld5.2.2⟩) (fun _ => ?_)
              clear hK K
              (try simp only [Act.put, List.setIfInBounds_toArray, List.set_cons_zero, List.set_cons_succ])
              refine wpAnyH_done (by kernel_rfl) ?_ _
              go_wp2_with fail
              go_meet
              exact ⟨w5.heap.size, rfl, hb5.size, HZ.out.set _ _ _ _, below_set4 (bt (bt (bdr (Below.refl _ _)) hb5) (bt hb8 hb6)) hb5.size _ _ _ _⟩
          · refine AllReadyH.cons rfl (fun K hK => ?_) AllReadyH.nil
            have hb8 : Below w4.heap.size w4 ((w4.alloc (.cells #[.int .i64 0, .int .i64 0, .string ⟨#[]⟩, .int .i64 0] 30)).drew) := bdr (al _ _)
            have hl8 : w4.heap.size < ((w4.alloc (.cells #[.int .i64 0, .int .i64 0, .string ⟨#[]⟩, .int .i64 0] 30)).drew).heap.size := by show _ < (w4.alloc _).heap.size; rw [World.size_alloc]; omega
            have hZ1 : Blk4 ((w4.alloc (.cells #[.int .i64 0, .int .i64 0, .string ⟨#[]⟩, .int .i64 0] 30)).drew) w4.heap.size (.int .i64 0) (.int .i64 0) (.string ⟨#[]⟩) (.int .i64 0) := (Blk4.new w4 _ _ _ _ _).below (bdr (Below.refl _ _))
            have HZ1 := Lib.hid hZ1
            clear hZ1
            have hHA1 := (hb8.cell (p := ⟨w.heap.size, 0, none⟩) hlx4).trans hbx4
            have hHA2 := (hb8.cell (p := ⟨g, 0, none⟩) hgl4).trans hpc0
            have hHA3 := (hb8.cell (p := ⟨g, 1, none⟩) hgl4).trans hpc1
            have hHA4 := (hb8.cell (p := ⟨bt0, offt + t * 4 + 3, none⟩) hbt).trans hpp
            have HHA := Lib.hid (And.intro hHA1 (And.intro hHA2 (And.intro hHA3 hHA4)))
            clear hHA1 hHA2 hHA3 hHA4
            go_simp
            refine hK.out _ _ HHA.out (fun _ => ?_)
            clear hK K hHeld
            have hHeld := HHA.out
            (try simp only [Act.put, List.setIfInBounds_toArray, List.set_cons_zero, List.set_cons_succ])
            refine wpAnyH_ready (rs := [0]) (by kernel_rfl) (by simp) ?_
            refine AllReadyH.cons rfl (fun K hK => ?_) AllReadyH.nil
            go_simp
            refine (HFL.out _).mono ?_
            rintro e w5 ⟨b5, A5, c5, rfl, hbl5, hbf5, hsf5, hbc5, hbs5, hb5⟩
            dsimp only
            have hs1 : w.heap.size < ((w4.alloc (.cells #[.int .i64 0, .int .i64 0, .string ⟨#[]⟩, .int .i64 0] 30)).drew).heap.size := (Nat.lt_of_lt_of_le hlx4 hb8.size)
            have hs2 : g < ((w4.alloc (.cells #[.int .i64 0, .int .i64 0, .string ⟨#[]⟩, .int .i64 0] 30)).drew).heap.size := (Nat.lt_of_lt_of_le hgl4 hb8.size)
            have hs3 : bt0 < ((w4.alloc (.cells #[.int .i64 0, .int .i64 0, .string ⟨#[]⟩, .int .i64 0] 30)).drew).heap.size := (Nat.lt_of_lt_of_le hbt hb8.size)
            have hk1 := (hb5.cell (p := ⟨w.heap.size, 0, none⟩) hs1).trans hHeld.1
            have hk2 := (hb5.cell (p := ⟨g, 0, none⟩) hs2).trans hHeld.2.1
            have hk3 := (hb5.cell (p := ⟨g, 1, none⟩) hs2).trans hHeld.2.2.1
            have hk4 := (hb5.cell (p := ⟨bt0, offt + t * 4 + 3, none⟩) hs3).trans hHeld.2.2.2
            refine hK.out _ _ ⟨hk1, hk2, hk3, hk4⟩ (fun hHeld2 => ?_)
            obtain ⟨bs, offs, cs, hVe, hcs, hbsl, hbsat⟩ := hbs5.at_ HLS.out.2
            cases hVe
            have hsf6 := hsf5 _ _ _ rfl
            have hk6 := hbsat j HSL.out
            rw [HSG.out] at hk6
            refine wpAnyH_weaken (S2 := fun w' => (w'.cell? ⟨w.heap.size, 0, none⟩ = some (.pointer (some ⟨g, 0, none⟩)) ∧ w'.cell? ⟨g, 0, none⟩ = some (.slice (some ⟨bt0, offt, none⟩) l.length ct) ∧ w'.cell? ⟨g, 1, none⟩ = some (.int .i64 t) ∧ w'.cell? ⟨bt0, offt + t * 4 + 3, none⟩ = some (.int .i64 ps)) ∧ w'.cell? ⟨b5, n, none⟩ = some (.slice (some ⟨bs, offs, none⟩) (flS n).length c5) ∧ w'.cell? ⟨bs, offs + j, none⟩ = some (.string (str (sg o)))) (fun w0 h => h.1) _ _ _ _ ?_
            have hHeld3 : (fun w' => (w'.cell? ⟨w.heap.size, 0, none⟩ = some (.pointer (some ⟨g, 0, none⟩)) ∧ w'.cell? ⟨g, 0, none⟩ = some (.slice (some ⟨bt0, offt, none⟩) l.length ct) ∧ w'.cell? ⟨g, 1, none⟩ = some (.int .i64 t) ∧ w'.cell? ⟨bt0, offt + t * 4 + 3, none⟩ = some (.int .i64 ps)) ∧ w'.cell? ⟨b5, n, none⟩ = some (.slice (some ⟨bs, offs, none⟩) (flS n).length c5) ∧ w'.cell? ⟨bs, offs + j, none⟩ = some (.string (str (sg o)))) w5 := ⟨⟨hk1, hk2, hk3, hk4⟩, hbc5, hk6⟩
            have hl1 := Nat.lt_of_lt_of_le hs1 hb5.size
            have hl2 := Nat.lt_of_lt_of_le hs2 hb5.size
            have hl3 := Nat.lt_of_lt_of_le hs3 hb5.size
            have hgs : (Value.string (str (sg o))) = Value.string (str (sg o)) := rfl
            clear hK K hHeld hHeld2 hk1 hk2 hk3 hk4 hbsat hbs5 hcs
            (try simp only [Act.put, List.setIfInBounds_toArray, List.set_cons_zero, List.set_cons_succ])
            refine wpAnyH_take (i := 2) (v := ?_) rfl (by kernel_rfl) (by kernel_rfl) (by kernel_rfl) (fun _ _ _ h => h) (Or.inl ⟨by rfl, ?_⟩) (by assumption) ?_
            rotate_left
            · intro w0 hSw
              (try dsimp only at hSw)
              go_simp
              (try with_reducible rfl)
            (try simp only [Act.put, List.setIfInBounds_toArray])
            refine wpAnyH_take (i := 3) (v := ?_) rfl (by kernel_rfl) (by kernel_rfl) (by kernel_rfl) (fun _ _ _ h => h) (Or.inl ⟨by rfl, ?_⟩) (by assumption) ?_
            rotate_left
            · intro w0 hSw
              (try dsimp only at hSw)
              go_simp
              (try with_reducible rfl)
            (try simp only [Act.put])
            refine wpAnyH_take (i := 5) (v := ?_) rfl (by kernel_rfl) (by kernel_rfl) (by kernel_rfl) (fun _ _ _ h => h) (Or.inl ⟨by rfl, ?_⟩) (by assumption) ?_
            rotate_left
            · intro w0 hSw
              (try dsimp only at hSw)
              go_simp
              (try with_reducible rfl)
            (try simp only [Act.put])
            refine wpAnyH_take (i := 6) (v := ?_) rfl (by kernel_rfl) (by kernel_rfl) (by kernel_rfl) (fun _ _ _ h => h) (Or.inl ⟨by rfl, ?_⟩) (by assumption) ?_
            rotate_left
            · intro w0 hSw
              (try dsimp only at hSw)
              go_simp
              (try with_reducible rfl)
            (try simp only [Act.put])
            refine wpAnyH_ready (rs := [7]) (by kernel_rfl) (by simp) ?_
            refine AllReadyH.cons rfl (fun K hK => ?_) AllReadyH.nil
            go_simp
            refine (HTW.out _).mono ?_
            rintro e w6 ⟨rfl, hb6⟩
            dsimp only
            have hHeld5 : (fun w' => (w'.cell? ⟨w.heap.size, 0, none⟩ = some (.pointer (some ⟨g, 0, none⟩)) ∧ w'.cell? ⟨g, 0, none⟩ = some (.slice (some ⟨bt0, offt, none⟩) l.length ct) ∧ w'.cell? ⟨g, 1, none⟩ = some (.int .i64 t) ∧ w'.cell? ⟨bt0, offt + t * 4 + 3, none⟩ = some (.int .i64 ps)) ∧ w'.cell? ⟨b5, n, none⟩ = some (.slice (some ⟨bs, offs, none⟩) (flS n).length c5) ∧ w'.cell? ⟨bs, offs + j, none⟩ = some (.string (str (sg o)))) w6 := ⟨⟨(hb6.cell (p := ⟨w.heap.size, 0, none⟩) hl1).trans hHeld3.1.1, (hb6.cell (p := ⟨g, 0, none⟩) hl2).trans hHeld3.1.2.1, (hb6.cell (p := ⟨g, 1, none⟩) hl2).trans hHeld3.1.2.2.1, (hb6.cell (p := ⟨bt0, offt + t * 4 + 3, none⟩) hl3).trans hHeld3.1.2.2.2⟩, (hb6.cell (p := ⟨b5, n, none⟩) hbl5).trans hHeld3.2.1, (hb6.cell (p := ⟨bs, offs + j, none⟩) hbsl).trans hHeld3.2.2⟩
            refine hK.out _ _ hHeld5 (fun _ => ?_)
            clear hK K
            (try simp only [Act.put, List.setIfInBounds_toArray, List.set_cons_zero, List.set_cons_succ])
            refine wpAnyH_take (i := 19) (v := ?_) rfl (by kernel_rfl) (by kernel_rfl) (by kernel_rfl) (fun _ _ _ h => h) (Or.inl ⟨by rfl, ?_⟩) (by assumption) ?_
            rotate_left
            · intro w0 hSw
              (try dsimp only at hSw)
              go_simp
              (try with_reducible rfl)
            (try simp only [Act.put, List.setIfInBounds_toArray])
            have hz := (HZ1.out.below hb5).below hb6
            have HZ := Lib.hid hz
            obtain ⟨zl, z0, z1, z2, z3, zf0, zf1, zf2, zf3⟩ := hz
            have hq1 : w4.heap.size ≠ b5 := by have : ((w4.alloc (.cells #[.int .i64 0, .int .i64 0, .string ⟨#[]⟩, .int .i64 0] 30)).drew).heap.size ≤ b5 := hbf5; omega
            have hq2 : w4.heap.size ≠ bs := by have : ((w4.alloc (.cells #[.int .i64 0, .int .i64 0, .string ⟨#[]⟩, .int .i64 0] 30)).drew).heap.size ≤ bs := hsf6; omega
            refine wpAnyH_ready (rs := [21]) (by kernel_rfl) (by simp) ?_
            refine AllReadyH.cons rfl (fun K hK => ?_) AllReadyH.nil
            go_simp
            have hb9 := below_set4 (Below.refl w4.heap.size w6) (Nat.le_refl _) (.int .i64 o) (.int .i64 0) (.string ⟨#[]⟩) (.int .i64 ps)
            refine hK.out _ _ (⟨⟨(hb9.cell (p := ⟨w.heap.size, 0, none⟩) hlx4).trans hHeld5.1.1, (hb9.cell (p := ⟨g, 0, none⟩) hgl4).trans hHeld5.1.2.1, (hb9.cell (p := ⟨g, 1, none⟩) hgl4).trans hHeld5.1.2.2.1, (hb9.cell (p := ⟨bt0, offt + t * 4 + 3, none⟩) hbt).trans hHeld5.1.2.2.2⟩, (cell4_far _ hq1 _ _ _ _ _).trans hHeld5.2.1, (cell4_far _ hq2 _ _ _ _ _).trans hHeld5.2.2⟩) (fun _ => ?_)
            clear hK K
            (try simp only [Act.put, List.setIfInBounds_toArray, List.set_cons_zero, List.set_cons_succ])
            refine wpAnyH_done (by kernel_rfl) ?_ _
            go_wp2_with fail
            go_meet
            have hb5' : Below w4.heap.size w4 w5 := bt hb8 hb5
            exact ⟨w4.heap.size, rfl, Nat.le_refl _, HZ.out.set _ _ _ _, below_set4 (bt hb5' hb6) (Nat.le_refl _) _ _ _ _⟩
        case rest =>
          obtain ⟨hb, rfl, hhb, hblk, hbx⟩ := hcut
          have hBx := bt hB4 hbx
          have HPX : Hid (Par wc g v t d 0 0) := HPR.out.below hBx
          have HCXX : Hid (Ctx g v l wc) := HCR.out.belowB (hBx.mono (Nat.le_of_lt pl))
          have HKX : Hid (Keep g w wc) := HKR.out.trans (Keep.of hBx)
          have HBK := Lib.hid hblk
          have HNXX : Hid (Nods wc (.slice A mm c) x.flat) := SlN.below HNX.out.nods hBx
          have HHB : Hid (hb < wc.heap.size ∧ hb ≠ g) := ⟨hblk.lt, by have := hB4.size; omega⟩
          have HBXN : Hid (w.heap.size ≠ g) := by show _ ≠ _; omega
          have HLTX : Hid (w.heap.size < wc.heap.size ∧ wc.cell? ⟨w.heap.size, 0, none⟩ = some (.pointer (some ⟨g, 0, none⟩))) := ⟨Nat.lt_of_lt_of_le hltr hBx.size, (hBx.cell (p := ⟨w.heap.size, 0, none⟩) hltr).trans hbox⟩
          have HY : Hid (∀ u, Par u g v ((t : Int) + 1) d 0 0 → Ctx g v l u → Calls Tryd.prog 33 #[.pointer (some ⟨g, 0, none⟩), .int .i64 ((n : Int) + 1)] u (PPost l g v (t + 1) d k (flR (prR l kk) l m (t + 1)) u)) := fun u h1 h2 => HF.out (t + 1) u h1 h2
          have hgood := HFW.out.good (t + 1)
          have hbadd := HFW.out.bad (t + 1)
          have HGD : Hid (∀ y t2, flR (prR l kk) l m (t + 1) = .inl (y, t2) → y.flat.length ≤ l.length - (t + 1)) := fun y t2 h => by have := hgood y t2 h; omega
          have HL1 : Hid (1 + x.flat.length ≤ maxLen ∧ (1 + x.flat.length) * 40 ≤ 140737488355328) := by show _ ∧ _; unfold maxLen; constructor <;> omega
          have HL2 : Hid (∀ q, q ≤ l.length - (t + 1) → 1 + x.flat.length + q ≤ maxLen ∧ (1 + x.flat.length + q) * 40 ≤ 140737488355328) := fun q h => by unfold maxLen; constructor <;> omega
          obtain ⟨ql, q0, q1, q2, q3, qf0, qf1, qf2, qf3⟩ := hblk
          have hbox := HLTX.out.2
          clear p0 p1 p2 p3 p4 pl pf1 pf2 pf3 pf4
          obtain ⟨pl, p0, p1, p2, p3, p4, pf1, pf2, pf3, pf4⟩ := HPX.out
          have hne1 := HHB.out.2
          have hne2 := Ne.symm HHB.out.2
          have hne3 := HBXN.out
          have hne4 := Ne.symm HBXN.out
          have ht1 : (t : Int) < 100000 := by omega
          clear hbx hhb hBx hB4 hb4 hb3 hbox3 hlt3 hbc3 hbs3 hbl3 hyes
          go_upto_region 11 with (first
            | (go_at_call 33; refine (HY.out _ ((HPX.out).set1 _) (HCXX.out.keep ((Keep.refl g wc).set _ _) HPX.out.lt)).mono ?_; rintro e w5 ⟨hk5, A5, n5, c5, a5, e5, p5', rfl, hp5, hf5, hv5⟩; have HP5 := Lib.hid hp5; have hkx : Keep g wc w5 := ((Keep.refl g wc).set 1 (.int .i64 ((t : Int) + 1))).trans hk5; have hblk5 := (HBK.out).keep hkx HHB.out.2; clear q0 q1 q2 q3 ql qf0 qf1 qf2 qf3; obtain ⟨ql, q0, q1, q2, q3, qf0, qf1, qf2, qf3⟩ := hblk5; have hbox5 := keep_cell hkx HBXN.out HLTX.out.1 HLTX.out.2; obtain ⟨ny, hny, hnylen, hnyle⟩ := hv5.nods HGD.out; clear p0 p1 p2 p3 p4 pl pf1 pf2 pf3 pf4; obtain ⟨pl, p0, p1, p2, p3, p4, pf1, pf2, pf3, pf4⟩ := hp5)
            | (at_builtin; refine wpl_app rfl _ _ 24 rfl w5.heap.size 30 i0 _ 4 40 Tryd.underlying24 hi0 hz0 hz1 hz2 rfl (by decide) (.slice (some ⟨w5.heap.size, 0, none⟩) 1 1) 1 (Nod.cells ⟨o, 0, [], ps⟩) rfl (own_at w5 ⟨o, 0, [], ps⟩ _ w5.heap.size rfl (Nat.le_refl _)) (.slice A mm c) x.flat.length (x.flat.flatMap Nod.cells) rfl ((SlN.keep HNXX.out HFR.out (Nat.lt_succ_of_lt hwl) hkx).below (al _ _)) (nod_one _) (HL1.out).1 (HL1.out).2 (al w5 _).size ?_; intro v6 w6 hown6 hb6; obtain ⟨A6, c6, rfl⟩ := own_shape hown6)
            | (at_builtin; refine wpl_app rfl _ _ 24 rfl w5.heap.size 30 i0 _ 4 40 Tryd.underlying24 hi0 hz0 hz1 hz2 rfl (by decide) (.slice A6 (1 + x.flat.length) c6) (1 + x.flat.length) (Nod.cells ⟨o, 0, [], ps⟩ ++ x.flat.flatMap Nod.cells) rfl hown6 (.slice A5 n5 c5) ny.length (ny.flatMap Nod.cells) rfl (hny.below (btB (al _ _) hb6 (Nat.le_refl _))) (nod_one _) (HL2.out _ hnylen).1 (HL2.out _ hnylen).2 (Nat.le_trans (al w5 _).size hb6.size) ?_; intro v7 w7 hown7 hb7; obtain ⟨A7, c7, rfl⟩ := own_shape hown7))
          have hB7 : Below w5.heap.size w5 w7 := btB (btB (al _ _) hb6 (Nat.le_refl _)) hb7 (Nat.le_refl _)
          have hz := own_cons2 hown7
          have hw5 : w.heap.size < w5.heap.size := Nat.lt_of_lt_of_le HLTX.out.1 hkx.size
          have hKF : Keep g w w7 := (HKX.out.trans hkx).thenB (hB7.mono (Nat.le_of_lt hw5))
          have hPF := HP5.out.below hB7
          have hFF := hz.2.mono hw5
          have hnd : ({ op := (o : Int), n := 0, name := [], pos := ps } : Nod) = ⟨opAt n l t, 0, [], (tk l t).pos⟩ := by rw [HOP.out, HPS.out]
          have hvF := next_post (nd := ⟨o, 0, [], ps⟩) hit hlt hxl hv5 hnylen hnyle hz.1
          cases hn2 : ((n : Int) == 2)
          · have hnn : n ≠ 2 := fun e => by subst e; simp at hn2
            have hRn : Hid (R = contR (flR (prR l kk) l m) n l (nextR ⟨o, 0, [], ps⟩ x (flR (prR l kk) l m (t + 1)))) := by
              show _ = _
              rw [hnd]
              exact HRR.out.trans (next_R HFW.out hne hnn)
            have HNE := Lib.hid hnd
            have HVF := Lib.hid hvF
            have hgg : Hid (∀ y t', nextR ⟨o, 0, [], ps⟩ x (flR (prR l kk) l m (t + 1)) = .inl (y, t') → i < t' ∧ t' ≤ l.length ∧ y.flat.length ≤ t' - i ∧ t < t') := fun y t' h => by
              cases hy : flR (prR l kk) l m (t + 1) with
              | inl q =>
                obtain ⟨y2, t3⟩ := q
                rw [hy] at h
                have := hgood _ _ hy
                cases h
                refine ⟨by omega, this.2.1, ?_, by omega⟩
                simp only [Ex.flat, List.length_cons, List.length_append]; omega
              | inr e => rw [hy] at h; cases h
            have hbb : Hid (∀ e p, nextR ⟨o, 0, [], ps⟩ x (flR (prR l kk) l m (t + 1)) = .inr (e, p) → 1 ≤ e) := fun e p h => by
              cases hy : flR (prR l kk) l m (t + 1) with
              | inl q => rw [hy] at h; cases h
              | inr q =>
                obtain ⟨e2, p2⟩ := q
                rw [hy] at h
                cases h
                exact (hbadd _ _ hy).1
            have HPF := Lib.hid hPF
            have HM1 : Hid (wr.cell? ⟨g, 1, none⟩ = some (.int .i64 t)) := HPR.out.c1
            have HM3 : Hid (wr.cell? ⟨g, 3, none⟩ = some (.int .i64 0)) := HPR.out.c3
            clear hvF hnd hgood hbadd hPF p0 p1 p2 p3 p4 pf1 pf2 pf3 pf4 q0 q1 q2 q3
            go_wp2_with fail
            go_roundw
            case rel =>
              exact ⟨hKF, (hB7.cell (p := ⟨w.heap.size, 0, none⟩) hw5).trans hbox5, Nat.lt_of_lt_of_le hw5 hB7.size, A7, _, c7, a5, e5, p5', _, rfl, HPF.out, hFF, HVF.out, hRn.out, fun y t' h => ⟨(hgg.out y t' h).1, (hgg.out y t' h).2.1, (hgg.out y t' h).2.2.1⟩, hbb.out⟩
            case measure =>
              rw [HM1.out, HM3.out, HPF.out.c1, HPF.out.c3]
              have hv := HVF.out
              generalize hq : nextR ⟨o, 0, [], ps⟩ x (flR (prR l kk) l m (t + 1)) = q at hv hgg hbb
              cases q with
              | inl z =>
                obtain ⟨y, t'⟩ := z
                obtain ⟨ha, he, _, _⟩ := hv
                have := hgg.out y t' rfl
                subst ha he
                simp [intOf]
                omega
              | inr z =>
                obtain ⟨e2, p2⟩ := z
                obtain ⟨he, _⟩ := hv
                have := hbb.out e2 p2 rfl
                have h0 : ¬ e5 = 0 := by omega
                simp [intOf, h0]
                omega
          · have hnn : n = 2 := by have := eq_of_beq hn2; omega
            have hRn : Hid (R = nextR ⟨o, 0, [], ps⟩ x (flR (prR l kk) l m (t + 1))) := by
              show _ = _
              rw [hnd]
              exact HRR.out.trans (next_R2 HFW.out hne hnn)
            go_wp2_with fail
            go_ret
            rw [hRn.out]
            exact ⟨hKF, A7, _, c7, a5, e5, p5', rfl, hPF, hFF.mono (Nat.le_succ _), hvF⟩
end Go.Proofs.YtahdfglelhdcnaaDoor
/- The program's parser, whole. -/
namespace Go.Proofs.YtahdfglelhdcnaaDoor
open Go Go.RowKit
set_option linter.unusedVariables false
set_option maxHeartbeats 1000000 in
theorem oneS_c (g bb : Nat) (u : World) (hbox : u.cell? ⟨bb, 0, none⟩ = some (.pointer (some ⟨g, 0, none⟩))) {l : List Tok} {v : Value} {i : Nat} {d : Int} {k : Nat} {r : Res}
    (HF : Calls Tryd.prog 33 #[.pointer (some ⟨g, 0, none⟩), .int .i64 0] u (PPost l g v i d k r u)) :
    Calls Tryd.prog 73 #[.pointer (some ⟨bb, 0, none⟩)] u (PPost l g v i d k r u) := by
  have H := Lib.hid HF
  clear HF
  go_enter Tryd.func73, Tryd.ntmps73
  go_wp2_with (go_at_call 33; refine (H.out).mono ?_; rintro e w2 ⟨hk2, A, n, c, a, e1, p1, rfl, h2⟩)
  go_ret
  exact ⟨hk2, A, n, c, a, e1, p1, rfl, h2⟩
theorem floor_c (l : List Tok) (hl : l.length ≤ 100000) (g : Nat) (v : Value) (d : Int) (kk k : Nat)
    (HO : ∀ (i : Nat) u, Par u g v i d 0 0 → Ctx g v l u → Calls Tryd.prog 55 #[.pointer (some ⟨g, 0, none⟩)] u (PPost l g v i d k (prR l kk i) u)) :
    ∀ (m n : Nat), m + n = 5 → ∀ (i : Nat) u, Par u g v i d 0 0 → Ctx g v l u → Calls Tryd.prog 33 #[.pointer (some ⟨g, 0, none⟩), .int .i64 n] u (PPost l g v i d k (flR (prR l kk) l m i) u)
  | 0, n, hn, i, u, hp, hc => by
    obtain rfl : n = 5 := by omega
    exact floor_zero l g v i d kk k u hp hc (fun u h1 h2 => HO i u h1 h2)
  | m + 1, n, hn, i, u, hp, hc =>
    floor_succ l hl g v i d kk k m n hn u hp hc (fun i u h1 h2 => floor_c l hl g v d kk k HO m (n + 1) (by omega) i u h1 h2)
theorem one_c (l : List Tok) (hl : l.length ≤ 100000) (htx : ∀ t ∈ l, t.text.length ≤ 1000000) (g : Nat) (v : Value) :
    ∀ (kk d : Nat), d + kk = 12 → ∀ (i : Nat) u, Par u g v i d 0 0 → Ctx g v l u → Calls Tryd.prog 55 #[.pointer (some ⟨g, 0, none⟩)] u (PPost l g v i d (kk + 1) (prR l kk i) u)
  | 0, d, hd, i, u, hp, hc => by
    obtain rfl : d = 12 := by omega
    by_cases hi : i < l.length
    · cases h33 : isE l i [33]
      · cases h45 : isE l i [45]
        · cases h40 : isE l i [40]
          · have e : prR l 0 i = baseR l i := by rw [prR, if_neg (by omega), if_neg (by unfold unE opE; rw [h33, h45, h40]; decide)]
            rw [e]
            exact one_base l hl htx g v i _ u hp hc hi _ h33 h45 h40
          · have e : prR l 0 i = openR l (.inr (7, placeE l i)) := by rw [prR, if_neg (by omega), if_pos (by unfold unE opE; rw [h33, h45, h40]; decide)]; rfl
            rw [e]
            exact one_open l hl g v i _ u hp hc hi 1 0 (by omega) (by omega) h33 h45 h40 _ (fun _ _ h => by cases h) (fun _ _ h => by cases h; decide)
              (fun W hk hpW hb => within_deep_fl l hl g v i u.heap.size W hpW (hc.keep hk hp.lt) hi 0 (i + 1))
        · have e : prR l 0 i = unR ⟨if false then 4 else 3, 0, [], (tk l i).pos⟩ (.inr (7, placeE l i)) := by rw [prR, if_neg (by omega), if_pos (by unfold unE opE; rw [h33, h45]; rfl)]; rfl
          rw [e]
          exact one_un l hl g v i _ u hp hc hi 1 0 (by omega) false h33 h45 _ (fun _ _ h => by cases h) (fun W hk hpW => within_deep_one l hl g v i W hpW (hc.keep hk hp.lt) hi 0 (i + 1))
      · have e : prR l 0 i = unR ⟨if true then 4 else 3, 0, [], (tk l i).pos⟩ (.inr (7, placeE l i)) := by rw [prR, if_neg (by omega), if_pos (by unfold unE opE; rw [h33]; rfl)]; rfl
        rw [e]
        exact one_un l hl g v i _ u hp hc hi 1 0 (by omega) true h33 (isE_un h33).1 _ (fun _ _ h => by cases h) (fun W hk hpW => within_deep_one l hl g v i W hpW (hc.keep hk hp.lt) hi 0 (i + 1))
    · rw [prR_out (by omega)]
      exact one_out l hl g v i _ u hp hc (by omega) _
  | kk + 1, d, hd, i, u, hp, hc => by
    have IH := one_c l hl htx g v kk (d + 1) (by omega)
    have hfp := prR_fwd l kk
    have hff := flR_fwd hfp 5
    by_cases hi : i < l.length
    · have hunE : ∀ nd : Nod, (nd = ⟨if (tk l i).text = [45] then 3 else 4, 0, [], (tk l i).pos⟩) → unE l i = true → prR l (kk + 1) i = unR nd (prR l kk (i + 1)) := fun nd hnd hun => by
        subst hnd
        rw [prR, if_neg (by omega), if_pos hun]
        cases prR l kk (i + 1) <;> rfl
      cases h33 : isE l i [33]
      · cases h45 : isE l i [45]
        · cases h40 : isE l i [40]
          · have e : prR l (kk + 1) i = baseR l i := by rw [prR, if_neg (by omega), if_neg (by unfold unE; rw [h33, h45]; decide), if_neg (by unfold opE; rw [h40]; decide)]
            rw [e]
            exact one_base l hl htx g v i _ u hp hc hi _ h33 h45 h40
          · have e : prR l (kk + 1) i = openR l (flR (prR l kk) l 5 (i + 1)) := by
              rw [prR, if_neg (by omega), if_neg (by unfold unE; rw [h33, h45]; decide), if_pos (show opE l i = true from h40)]
              cases flR (prR l kk) l 5 (i + 1) <;> rfl
            rw [e]
            refine one_open l hl g v i _ u hp hc hi (kk + 2) (kk + 1) (by omega) (by omega) h33 h45 h40 _ (fun x t h => (hff.good _ _ _ h).2.1) (fun e p h => (hff.bad _ _ _ h).1) (fun W hk hpW hb => ?_)
            have hbl : u.heap.size < W.heap.size := World.block_lt_of_cell? W _ hb
            refine within_fl l hl g v i d (by omega) u.heap.size W hpW hi (kk + 1) _ (fun u2 hk2 hp2 => ?_)
            refine oneS_c g u.heap.size u2 (keep_cell hk2 (by have := hp.lt; omega) hbl hb) ?_
            exact floor_c l hl g v _ kk (kk + 1) (fun i u h1 h2 => IH i u h1 h2) 5 0 rfl (i + 1) u2 hp2 ((hc.keep hk hp.lt).keep hk2 hpW.lt)
        · rw [hunE ⟨if false then 4 else 3, 0, [], (tk l i).pos⟩ (by rw [(isE_text h45).1]; rfl) (by unfold unE; rw [h33, h45]; rfl)]
          refine one_un l hl g v i _ u hp hc hi (kk + 2) (kk + 1) (by omega) false h33 h45 _ (fun x t h => by have := hfp.good _ _ _ h; omega) (fun W hk hpW => ?_)
          exact within_one l hl g v i d (by omega) W hpW hi (kk + 1) _ (fun u2 hk2 hp2 => IH (i + 1) u2 hp2 ((hc.keep hk hp.lt).keep hk2 hpW.lt))
      · rw [hunE ⟨if true then 4 else 3, 0, [], (tk l i).pos⟩ (by rw [(isE_text h33).1]; rfl) (by unfold unE; rw [h33]; rfl)]
        refine one_un l hl g v i _ u hp hc hi (kk + 2) (kk + 1) (by omega) true h33 (isE_un h33).1 _ (fun x t h => by have := hfp.good _ _ _ h; omega) (fun W hk hpW => ?_)
        exact within_one l hl g v i d (by omega) W hpW hi (kk + 1) _ (fun u2 hk2 hp2 => IH (i + 1) u2 hp2 ((hc.keep hk hp.lt).keep hk2 hpW.lt))
    · rw [prR_out (by omega)]
      exact one_out l hl g v i _ u hp hc (by omega) _
/-- the program's parser from the first floor on -/
theorem parse0_c (l : List Tok) (hl : l.length ≤ 100000) (htx : ∀ t ∈ l, t.text.length ≤ 1000000) (g : Nat) (v : Value) (i : Nat) (u : World) (hp : Par u g v i 0 0 0) (hc : Ctx g v l u) :
    Calls Tryd.prog 33 #[.pointer (some ⟨g, 0, none⟩), .int .i64 0] u (PPost l g v i 0 13 (flR (prR l 12) l 5 i) u) :=
  floor_c l hl g v 0 12 13 (fun i u h1 h2 => one_c l hl htx g v 12 0 rfl i u h1 h2) 5 0 rfl i u hp hc
end Go.Proofs.YtahdfglelhdcnaaDoor

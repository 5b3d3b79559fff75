/- Parse: the reference's walk. -/
import Derived.Test.YtahdfglelhdcnaaDoorPalL
import Derived.Test.YtahdfglelhdcnaaDoorDepA
namespace Go.Proofs.YtahdfglelhdcnaaDoor
open Go Go.RowKit
set_option linter.unusedVariables false
theorem results_tmp4 {fn : Func} {x y z q : Tmp} (h : fn.results = #[.tmp x, .tmp y, .tmp z, .tmp q]) (tmps : Array Value) (P : Program) (w : World) :
    (results fn tmps).run P w = .ok (.tuple #[tmps.getD x undef, tmps.getD y undef, tmps.getD z undef, tmps.getD q undef]) w := by
  simp [results, h]
def ParsePost (l : List Tok) (i : Int) (w : World) (e : Ending) (w' : World) : Prop :=
  ∃ V, e = .returned (.tuple #[V, .int .i64 (parE l i).2.1, .int .i64 (parE l i).2.2.1, .int .i64 (parE l i).2.2.2]) ∧ Nods w' V (parE l i).1 ∧ Below w.heap.size w w'
theorem parse_ret {l : List Tok} {i : Int} {R : List Nod × Int × Int × Int} (hR : parE l i = R) {w w' : World} {V : Value} {a b c : Int} (ha : R.2.1 = a) (hb : R.2.2.1 = b) (hc : R.2.2.2 = c) (hV : Nods w' V R.1) (hB : Below w.heap.size w w') :
    ParsePost l i w (.returned (.tuple #[V, .int .i64 a, .int .i64 b, .int .i64 c])) w' := by
  subst hR ha hb hc; exact ⟨V, rfl, hV, hB⟩
set_option maxRecDepth 100000 in
set_option maxHeartbeats 4000000 in
theorem rParse_c (l : List Tok) (hl : l.length ≤ 100000) (htx : ∀ t ∈ l, t.text.length ≤ 1000000) (v : Value) (i : Int) (w : World) (hv : Toks w v l) :
    Calls Tryd.prog 12 #[v, .int .i64 i] w (ParsePost l i w) := by
  obtain ⟨Av, cv, hve, hcv⟩ := hv.shape
  subst hve
  by_cases hi : i < 0
  · have hR : parE l i = ([], 0, 1, 0) := by unfold parE; rw [if_pos hi]
    have HR := Lib.hid hR
    clear hR hv
    go_enter Tryd.func12, Tryd.ntmps12
    go_wp2_with fail
    refine bodyPost_ret (results_tmp4 rfl _ _ _) rfl ?_
    exact parse_ret HR.out rfl rfl rfl (Sl.nil _ _ _) (Below.refl _ _)
  · obtain ⟨n, rfl⟩ := Int.eq_ofNat_of_zero_le (show 0 ≤ i by omega)
    have hi0 : decide ((n : Int) < 0) = false := by simp
    have HC := Lib.hid (rparse_c l hl htx _ n w hv)
    have hfw := flR_fwd (prR_fwd l 12) 5
    have hP : parE l n = match flR (prR l 12) l 5 n with
      | .inr (e, p) => ([], 0, e, p)
      | .inl (x, t) => if 12 < x.deep then ([], 0, 7, (tk l n).pos) else if 40 < x.flat.length then ([], 0, 2, (tk l n).pos) else (x.flat, (t : Int), 0, 0) := by
      unfold parE; rw [if_neg (by omega)]; rfl
    cases hr : flR (prR l 12) l 5 n with
    | inr ep =>
      obtain ⟨ey, py⟩ := ep
      rw [hr] at hP HC
      have HP := Lib.hid hP
      have he1 := (hfw.bad _ _ _ hr).1
      have hee : (ey == 0) = false := by rw [beq_eq_false_iff_ne]; omega
      clear hP hfw hr hv
      go_enter Tryd.func12, Tryd.ntmps12
      go_wp2_with (go_at_call 31; refine (HC.out).mono ?_; rintro e w1 ⟨hb1, A1, n1, c1, t1, e1, p1, rfl, hr1⟩; obtain ⟨hA1, rfl, rfl, rfl⟩ := hr1; cases hA1)
      go_quiet (fail)
      go_wp2_with fail
      refine bodyPost_ret (results_tmp4 rfl _ _ _) rfl ?_
      exact parse_ret HP.out rfl rfl rfl (Sl.nil _ _ _) (bdrN (bt hb1 (al _ _)) _)
    | inl xt =>
      obtain ⟨x, t⟩ := xt
      rw [hr] at hP HC
      have HP := Lib.hid hP
      have hg := hfw.good _ _ _ hr
      obtain ⟨hg1, hg2, hg3, hg4⟩ := hg
      have HOK : Hid (x.ok) := hg4
      have HLX : Hid (x.flat.length ≤ 100000) := by show _ ≤ _; omega
      have hnl : n < l.length := by omega
      have hn0 : (0 : Int) ≤ (n : Int) := Int.natCast_nonneg _
      have hn1 : (n : Int) < (l.length : Int) := by omega
      obtain ⟨bt0, offt, ct, hE, hct, hbt, hatt⟩ := hv.at_ (by omega)
      cases hE
      have hps := (hatt n hnl).pos
      rw [← tk_at hnl] at hps
      clear hatt hct hfw hr hv
      by_cases h12 : 12 < x.deep
      · have hP2 : parE l n = ([], 0, 7, (tk l n).pos) := by rw [hP]; exact if_pos h12
        have HP2 := Lib.hid hP2
        have hd12 : decide ((12 : Int) < (x.deep : Int)) = true := by simp; omega
        clear hP hP2
        generalize (tk l n).pos = ps at hps HP2
        go_enter Tryd.func12, Tryd.ntmps12
        go_wp2_with (first
          | (go_at_call 31; refine (HC.out).mono ?_; rintro e w1 ⟨hb1, A1, n1, c1, t1, e1, p1, rfl, hr1⟩; obtain ⟨rfl, rfl, rfl, hnx, hfx⟩ := hr1; obtain ⟨A2, c2, hV2, hcc2⟩ := hnx.shape; (simp only [Value.slice.injEq] at hV2); obtain ⟨hA2, hn2, hc2⟩ := hV2; subst hA2 hc2 hn2; have hNX := Lib.hid (hnx.below (al w1 (.cells #[.slice A1 x.flat.length c1, .int .i64 t, .int .i64 0, .int .i64 0] 53))); have hps1 := (hb1.cell (p := ⟨bt0, offt + n * 4 + 3, none⟩) hbt).trans hps; have hbt1 := Nat.lt_of_lt_of_le hbt hb1.size)
          | (go_at_call 32; refine (rdeep_c x HOK.out (.slice A1 x.flat.length c1) (w1.alloc (.cells #[.slice A1 x.flat.length c1, .int .i64 t, .int .i64 0, .int .i64 0] 53)) hNX.out HLX.out).mono ?_; rintro r w' ⟨rfl, rfl⟩))
        go_quiet (fail)
        go_wp2_with fail
        refine bodyPost_ret (results_tmp4 rfl _ _ _) rfl ?_
        exact parse_ret HP2.out rfl rfl rfl (Sl.nil _ _ _) (bdrN (bt hb1 (al _ _)) _)
      · have hd12 : decide ((12 : Int) < (x.deep : Int)) = false := by simp; omega
        by_cases h40 : 40 < x.flat.length
        · have hP2 : parE l n = ([], 0, 2, (tk l n).pos) := by rw [hP]; exact (if_neg h12).trans (if_pos h40)
          have HP2 := Lib.hid hP2
          have hd40 : decide ((40 : Int) < (x.flat.length : Int)) = true := by simp; omega
          clear hP hP2
          generalize (tk l n).pos = ps at hps HP2
          go_enter Tryd.func12, Tryd.ntmps12
          go_wp2_with (first
            | (go_at_call 31; refine (HC.out).mono ?_; rintro e w1 ⟨hb1, A1, n1, c1, t1, e1, p1, rfl, hr1⟩; obtain ⟨rfl, rfl, rfl, hnx, hfx⟩ := hr1; obtain ⟨A2, c2, hV2, hcc2⟩ := hnx.shape; (simp only [Value.slice.injEq] at hV2); obtain ⟨hA2, hn2, hc2⟩ := hV2; subst hA2 hc2 hn2; have hNX := Lib.hid (hnx.below (al w1 (.cells #[.slice A1 x.flat.length c1, .int .i64 t, .int .i64 0, .int .i64 0] 53))); have hps1 := (hb1.cell (p := ⟨bt0, offt + n * 4 + 3, none⟩) hbt).trans hps; have hbt1 := Nat.lt_of_lt_of_le hbt hb1.size)
            | (go_at_call 32; refine (rdeep_c x HOK.out (.slice A1 x.flat.length c1) (w1.alloc (.cells #[.slice A1 x.flat.length c1, .int .i64 t, .int .i64 0, .int .i64 0] 53)) hNX.out HLX.out).mono ?_; rintro r w' ⟨rfl, rfl⟩))
          go_quiet (fail)
          go_wp2_with fail
          refine bodyPost_ret (results_tmp4 rfl _ _ _) rfl ?_
          exact parse_ret HP2.out rfl rfl rfl (Sl.nil _ _ _) (bdrN (bt hb1 (al _ _)) _)
        · have hP2 : parE l n = (x.flat, (t : Int), 0, 0) := by rw [hP]; exact (if_neg h12).trans (if_neg h40)
          have HP2 := Lib.hid hP2
          have hd40 : decide ((40 : Int) < (x.flat.length : Int)) = false := by simp; omega
          clear hP hP2
          go_enter Tryd.func12, Tryd.ntmps12
          go_wp2_with (first
            | (go_at_call 31; refine (HC.out).mono ?_; rintro e w1 ⟨hb1, A1, n1, c1, t1, e1, p1, rfl, hr1⟩; obtain ⟨rfl, rfl, rfl, hnx, hfx⟩ := hr1; obtain ⟨A2, c2, hV2, hcc2⟩ := hnx.shape; (simp only [Value.slice.injEq] at hV2); obtain ⟨hA2, hn2, hc2⟩ := hV2; subst hA2 hc2 hn2; have hNX := Lib.hid (hnx.below (al w1 (.cells #[.slice A1 x.flat.length c1, .int .i64 t, .int .i64 0, .int .i64 0] 53))); have hps1 := (hb1.cell (p := ⟨bt0, offt + n * 4 + 3, none⟩) hbt).trans hps; have hbt1 := Nat.lt_of_lt_of_le hbt hb1.size)
            | (go_at_call 32; refine (rdeep_c x HOK.out (.slice A1 x.flat.length c1) (w1.alloc (.cells #[.slice A1 x.flat.length c1, .int .i64 t, .int .i64 0, .int .i64 0] 53)) hNX.out HLX.out).mono ?_; rintro r w' ⟨rfl, rfl⟩))
          go_quiet (fail)
          go_wp2_with fail
          refine bodyPost_ret (results_tmp4 rfl _ _ _) rfl ?_
          exact parse_ret HP2.out rfl rfl rfl (hNX.out.below (bdrN (Below.refl _ _) _)) (bdrN (bt hb1 (al _ _)) _)
end Go.Proofs.YtahdfglelhdcnaaDoor
/- Parse: the program's walk. -/
namespace Go.Proofs.YtahdfglelhdcnaaDoor
open Go Go.RowKit
set_option linter.unusedVariables false
/-- what the program's Parse tells, in memory of its own -/
def ParsePostO (l : List Tok) (i : Int) (w : World) (e : Ending) (w' : World) : Prop :=
  ∃ V, e = .returned (.tuple #[V, .int .i64 (parE l i).2.1, .int .i64 (parE l i).2.2.1, .int .i64 (parE l i).2.2.2]) ∧ Nods w' V (parE l i).1 ∧ Below w.heap.size w w' ∧ Fresh w.heap.size V ∧ Unf w' V
theorem parse_retO {l : List Tok} {i : Int} {R : List Nod × Int × Int × Int} (hR : parE l i = R) {w w' : World} {V : Value} {a b c : Int} (ha : R.2.1 = a) (hb : R.2.2.1 = b) (hc : R.2.2.2 = c) (hV : Nods w' V R.1) (hB : Below w.heap.size w w') (hF : Fresh w.heap.size V) (hU : Unf w' V) :
    ParsePostO l i w (.returned (.tuple #[V, .int .i64 a, .int .i64 b, .int .i64 c])) w' := by
  subst hR ha hb hc; exact ⟨V, rfl, hV, hB, hF, hU⟩
theorem par_new (w : World) (v : Value) (i : Int) (t : TypeId) : Par (w.alloc (.cells #[v, .int .i64 i, .int .i64 0, .int .i64 0, .int .i64 0] t)) w.heap.size v i 0 0 0 := by
  refine ⟨by rw [World.size_alloc]; omega, cells_new _ _ _ _ _ rfl, cells_new _ _ _ _ _ rfl, cells_new _ _ _ _ _ rfl, cells_new _ _ _ _ _ rfl, cells_new _ _ _ _ _ rfl, ?_, ?_, ?_, ?_⟩ <;> simp
set_option maxRecDepth 100000 in
set_option maxHeartbeats 4000000 in
theorem ParseO_c (l : List Tok) (hl : l.length ≤ 100000) (htx : ∀ t ∈ l, t.text.length ≤ 1000000) (v : Value) (i : Int) (w : World) (hv : Toks w v l) (hE : Env w) :
    Calls Tryd.prog 13 #[v, .int .i64 i] w (ParsePostO l i w) := by
  obtain ⟨Av, cv, hve, hcv⟩ := hv.shape
  subst hve
  by_cases hi : i < 0
  · have hR : parE l i = ([], 0, 1, 0) := by unfold parE; rw [if_pos hi]
    have HR := Lib.hid hR
    clear hR hv hE
    go_enter Tryd.func13, Tryd.ntmps13
    go_wp2_with fail
    refine bodyPost_ret (results_tmp4 rfl _ _ _) rfl ?_
    exact parse_retO HR.out rfl rfl rfl (Sl.nil _ _ _) (Below.refl _ _) (fresh_nil _ _ _) (Unf.nil _ _ _)
  · obtain ⟨n, rfl⟩ := Int.eq_ofNat_of_zero_le (show 0 ≤ i by omega)
    have hi0 : decide ((n : Int) < 0) = false := by simp
    have hcx : Ctx w.heap.size (.slice Av l.length cv) l (w.alloc (.cells #[.slice Av l.length cv, .int .i64 n, .int .i64 0, .int .i64 0, .int .i64 0] 57)) := ⟨Sl.below hv (al _ _), hE.below (al _ _), hE.hm, hE.ht⟩
    have HC := Lib.hid (parse0_c l hl htx w.heap.size _ n _ (par_new w (.slice Av l.length cv) n 57) hcx)
    have hfw := flR_fwd (prR_fwd l 12) 5
    have hP : parE l n = match flR (prR l 12) l 5 n with
      | .inr (e, p) => ([], 0, e, p)
      | .inl (x, t) => if 12 < x.deep then ([], 0, 7, (tk l n).pos) else if 40 < x.flat.length then ([], 0, 2, (tk l n).pos) else (x.flat, (t : Int), 0, 0) := by
      unfold parE; rw [if_neg (by omega)]; rfl
    clear hcx hE
    cases hr : flR (prR l 12) l 5 n with
    | inr ep =>
      obtain ⟨ey, py⟩ := ep
      rw [hr] at hP HC
      have HP := Lib.hid hP
      have he1 := (hfw.bad _ _ _ hr).1
      have hee : (ey == 0) = false := by rw [beq_eq_false_iff_ne]; omega
      clear hP hfw hr hv
      go_enter Tryd.func13, Tryd.ntmps13
      go_wp2_with (go_at_call 33; refine (HC.out).mono ?_; rintro e w1 ⟨hk1, A1, n1, c1, a1, e1, p1', rfl, hp1, hf1, hv1⟩; obtain ⟨rfl, rfl, ha1, hb1, gl, hgl, hgll⟩ := hv1; have hB1 := (al w _).trans (hk1.below (Nat.le_of_lt (by rw [World.size_alloc]; omega))); have HP1 := Lib.hid hp1; obtain ⟨pl, p0, p1, p2, p3, p4, _, _, _, _⟩ := hp1)
      go_quiet (fail)
      go_wp2_with fail
      refine bodyPost_ret (results_tmp4 rfl _ _ _) rfl ?_
      exact parse_retO HP.out rfl rfl rfl (Sl.nil _ _ _) (bdrN hB1 _) (fresh_nil _ _ _) (Unf.nil _ _ _)
    | inl xt =>
      obtain ⟨x, t⟩ := xt
      rw [hr] at hP HC
      have hg := hfw.good _ _ _ hr
      obtain ⟨hg1, hg2, hg3, hg4⟩ := hg
      have HOK : Hid (x.ok) := hg4
      have HLX : Hid (x.flat.length ≤ 100000) := by show _ ≤ _; omega
      have hnl : n < l.length := by omega
      have hn0 : (0 : Int) ≤ (n : Int) := Int.natCast_nonneg _
      have hn1 : (n : Int) < (l.length : Int) := by omega
      obtain ⟨bt0, offt, ct, hE, hct, hbt, hatt⟩ := hv.at_ (by omega)
      cases hE
      have hps := (hatt n hnl).pos
      rw [← tk_at hnl] at hps
      clear hatt hct hfw hr hv
      by_cases h12 : 12 < x.deep
      · have hP2 : parE l n = ([], 0, 7, (tk l n).pos) := by rw [hP]; exact if_pos h12
        have HP2 := Lib.hid hP2
        have hd12 : decide ((12 : Int) < (x.deep : Int)) = true := by simp; omega
        clear hP hP2
        generalize (tk l n).pos = ps at hps HP2
        go_enter Tryd.func13, Tryd.ntmps13
        go_wp2_with (first
          | (go_at_call 33; refine (HC.out).mono ?_; rintro e w1 ⟨hk1, A1, n1, c1, a1, e1, p1', rfl, hp1, hf1, hv1⟩; obtain ⟨rfl, rfl, rfl, hnx⟩ := hv1; obtain ⟨A2, c2, hV2, hcc2⟩ := hnx.shape; (simp only [Value.slice.injEq] at hV2); obtain ⟨hA2, hn2, hc2⟩ := hV2; subst hA2 hc2 hn2; have hNX := Lib.hid hnx; have HF1 := Lib.hid hf1; have hB1 := (al w _).trans (hk1.below (Nat.le_of_lt (by rw [World.size_alloc]; omega))); have HP1 := Lib.hid hp1; obtain ⟨pl, p0, p1, p2, p3, p4, _, _, _, _⟩ := hp1)
          | (go_at_call 34; refine (depth_c x HOK.out (.slice A1 x.flat.length c1) w1 hNX.out.nods HLX.out).mono ?_; rintro r w3 ⟨rfl, hb3⟩; have hps3 := ((hB1.trans (hb3.mono hB1.size)).cell (p := ⟨bt0, offt + n * 4 + 3, none⟩) hbt).trans hps; have hHP3 := HP1.out.below hb3; obtain ⟨rl, r0, r1, r2, r3, r4, _, _, _, _⟩ := hHP3))
        go_quiet (fail)
        go_wp2_with fail
        refine bodyPost_ret (results_tmp4 rfl _ _ _) rfl ?_
        exact parse_retO HP2.out rfl rfl rfl (Sl.nil _ _ _) (bdrN (hB1.trans (hb3.mono hB1.size)) _) (fresh_nil _ _ _) (Unf.nil _ _ _)
      · have hd12 : decide ((12 : Int) < (x.deep : Int)) = false := by simp; omega
        by_cases h40 : 40 < x.flat.length
        · have hP2 : parE l n = ([], 0, 2, (tk l n).pos) := by rw [hP]; exact (if_neg h12).trans (if_pos h40)
          have HP2 := Lib.hid hP2
          have hd40 : decide ((40 : Int) < (x.flat.length : Int)) = true := by simp; omega
          clear hP hP2
          generalize (tk l n).pos = ps at hps HP2
          go_enter Tryd.func13, Tryd.ntmps13
          go_wp2_with (first
            | (go_at_call 33; refine (HC.out).mono ?_; rintro e w1 ⟨hk1, A1, n1, c1, a1, e1, p1', rfl, hp1, hf1, hv1⟩; obtain ⟨rfl, rfl, rfl, hnx⟩ := hv1; obtain ⟨A2, c2, hV2, hcc2⟩ := hnx.shape; (simp only [Value.slice.injEq] at hV2); obtain ⟨hA2, hn2, hc2⟩ := hV2; subst hA2 hc2 hn2; have hNX := Lib.hid hnx; have HF1 := Lib.hid hf1; have hB1 := (al w _).trans (hk1.below (Nat.le_of_lt (by rw [World.size_alloc]; omega))); have HP1 := Lib.hid hp1; obtain ⟨pl, p0, p1, p2, p3, p4, _, _, _, _⟩ := hp1)
            | (go_at_call 34; refine (depth_c x HOK.out (.slice A1 x.flat.length c1) w1 hNX.out.nods HLX.out).mono ?_; rintro r w3 ⟨rfl, hb3⟩; have hps3 := ((hB1.trans (hb3.mono hB1.size)).cell (p := ⟨bt0, offt + n * 4 + 3, none⟩) hbt).trans hps; have hHP3 := HP1.out.below hb3; obtain ⟨rl, r0, r1, r2, r3, r4, _, _, _, _⟩ := hHP3))
          go_quiet (fail)
          go_wp2_with fail
          refine bodyPost_ret (results_tmp4 rfl _ _ _) rfl ?_
          exact parse_retO HP2.out rfl rfl rfl (Sl.nil _ _ _) (bdrN (hB1.trans (hb3.mono hB1.size)) _) (fresh_nil _ _ _) (Unf.nil _ _ _)
        · have hP2 : parE l n = (x.flat, (t : Int), 0, 0) := by rw [hP]; exact (if_neg h12).trans (if_neg h40)
          have HP2 := Lib.hid hP2
          have hd40 : decide ((40 : Int) < (x.flat.length : Int)) = false := by simp; omega
          clear hP hP2
          go_enter Tryd.func13, Tryd.ntmps13
          go_wp2_with (first
            | (go_at_call 33; refine (HC.out).mono ?_; rintro e w1 ⟨hk1, A1, n1, c1, a1, e1, p1', rfl, hp1, hf1, hv1⟩; obtain ⟨rfl, rfl, rfl, hnx⟩ := hv1; obtain ⟨A2, c2, hV2, hcc2⟩ := hnx.shape; (simp only [Value.slice.injEq] at hV2); obtain ⟨hA2, hn2, hc2⟩ := hV2; subst hA2 hc2 hn2; have hNX := Lib.hid hnx; have HF1 := Lib.hid hf1; have hB1 := (al w _).trans (hk1.below (Nat.le_of_lt (by rw [World.size_alloc]; omega))); have HP1 := Lib.hid hp1; obtain ⟨pl, p0, p1, p2, p3, p4, _, _, _, _⟩ := hp1)
            | (go_at_call 34; refine (depth_c x HOK.out (.slice A1 x.flat.length c1) w1 hNX.out.nods HLX.out).mono ?_; rintro r w3 ⟨rfl, hb3⟩; have hps3 := ((hB1.trans (hb3.mono hB1.size)).cell (p := ⟨bt0, offt + n * 4 + 3, none⟩) hbt).trans hps; have hHP3 := HP1.out.below hb3; obtain ⟨rl, r0, r1, r2, r3, r4, _, _, _, _⟩ := hHP3))
          go_quiet (fail)
          go_wp2_with fail
          refine bodyPost_ret (results_tmp4 rfl _ _ _) rfl ?_
          exact parse_retO HP2.out rfl rfl rfl (SlN.below (SlN.below hNX.out.nods hb3) (bdrN (Below.refl _ _) _)) (bdrN (hB1.trans (hb3.mono hB1.size)) _) (HF1.out.mono (by rw [World.size_alloc]; omega)) ((hNX.out.unf.below hb3).below (bdrN (Below.refl _ _) _))
theorem Parse_c (l : List Tok) (hl : l.length ≤ 100000) (htx : ∀ t ∈ l, t.text.length ≤ 1000000) (v : Value) (i : Int) (w : World) (hv : Toks w v l) (hE : Env w) :
    Calls Tryd.prog 13 #[v, .int .i64 i] w (ParsePost l i w) :=
  (ParseO_c l hl htx v i w hv hE).mono fun e w' ⟨V, h1, h2, h3, _, _⟩ => ⟨V, h1, h2, h3⟩
end Go.Proofs.YtahdfglelhdcnaaDoor
/- The statements' own functions: the tokens of a text. -/
namespace Go.Proofs.YtahdfglelhdcnaaDoor
open Go Go.RowKit
set_option linter.unusedVariables false
theorem tokens_c (s : ByteArray) (hs : s.size ≤ 1000000) (w : World) :
    Calls Tryd.prog 11 #[.string s] w fun e w' => ∃ v, e = .returned v ∧ Toks w' v (scanE s.data.toList).1 ∧ Below w.heap.size w w' := by
  have HS := Lib.hid (scan_c s hs w)
  go_enter Tryd.func11, Tryd.ntmps11
  go_wp2_with (go_at_call 30; refine (HS.out).mono ?_; rintro e w1 ⟨v, rfl, hv, hb⟩)
  go_ret
  exact ⟨v, rfl, hv, hb⟩
end Go.Proofs.YtahdfglelhdcnaaDoor
/- The same nodes: the reference's walk. -/
namespace Go.Proofs.YtahdfglelhdcnaaDoor
open Go Go.RowKit
set_option linter.unusedVariables false
def nodS (pl : Bool) (x y : Nod) : Bool := !((x.op != y.op) || (x.n != y.n) || (x.name != y.name) || (pl && (x.pos != y.pos)))
def sameE (pl : Bool) : List Nod → List Nod → Bool
  | [], [] => true
  | x :: a, y :: b => nodS pl x y && sameE pl a b
  | _, _ => false
theorem sameE_len {pl : Bool} : ∀ {a b : List Nod}, a.length ≠ b.length → sameE pl a b = false
  | [], [], h => absurd rfl h
  | [], _ :: _, _ => rfl
  | _ :: _, [], _ => rfl
  | x :: a, y :: b, h => by
    unfold sameE
    rw [sameE_len (a := a) (b := b) (by simpa using h)]
    simp
theorem sameE_yes {pl : Bool} : ∀ {a b : List Nod} (h : a.length = b.length), (∀ i (hi : i < a.length), nodS pl a[i] (b[i]'(by omega)) = true) → sameE pl a b = true
  | [], [], _, _ => rfl
  | x :: a, y :: b, h, hall => by
    unfold sameE
    have h0 := hall 0 (by simp)
    have h1 := sameE_yes (pl := pl) (a := a) (b := b) (by simpa using h) (fun i hi => by have := hall (i + 1) (by simp; omega); simpa using this)
    simp only [List.getElem_cons_zero] at h0
    rw [h0, h1]; rfl
theorem sameE_no {pl : Bool} : ∀ {a b : List Nod} (h : a.length = b.length) (i : Nat) (hi : i < a.length), nodS pl a[i] (b[i]'(by omega)) = false → sameE pl a b = false
  | x :: a, y :: b, h, 0, _, h0 => by
    unfold sameE
    simp only [List.getElem_cons_zero] at h0
    rw [h0]; rfl
  | x :: a, y :: b, h, i + 1, hi, h0 => by
    unfold sameE
    rw [sameE_no (a := a) (b := b) (by simpa using h) i (by simpa using hi) (by simpa using h0)]
    simp
set_option maxRecDepth 100000 in
set_option maxHeartbeats 8000000 in
theorem rsame_c (a b : List Nod) (ha : a.length ≤ 100000) (hb : b.length ≤ 100000) (va vb : Value) (pl : Bool) (w : World) (hA : Nods w va a) (hB : Nods w vb b) :
    Calls Tryd.prog 14 #[va, vb, .bool pl] w fun e w' => e = .returned (.bool (sameE pl a b)) ∧ Below w.heap.size w w' := by
  obtain ⟨A1, c1, rfl, hc1⟩ := hA.shape
  obtain ⟨A2, c2, rfl, hc2⟩ := hB.shape
  by_cases hl : a.length = b.length
  · have hle : ((a.length : Int) == (b.length : Int)) = true := by rw [beq_iff_eq]; omega
    have hln : ((a.length : Int) != (b.length : Int)) = false := by unfold bne; rw [hle]; rfl
    have HA := Lib.hid hA
    have HB := Lib.hid hB
    clear hA hB
    go_enter Tryd.func14, Tryd.ntmps14
    go_wp2_with fail
    go_loopw [7] (fun k wr => Below w.heap.size w wr ∧ ∃ j : Nat, j ≤ a.length ∧ k = .int .i64 j ∧ ∀ j' (h : j' < a.length), j' < j → nodS pl a[j'] (b[j']'(by omega)) = true) (fun k _ => a.length - (intOf k).toNat)
    case atStart => exact ⟨Below.refl _ _, 0, Nat.zero_le _, rfl, fun j' _ h => absurd h (by omega)⟩
    case round =>
      obtain ⟨hbw, j, hj, rfl, hall⟩ := hrel
      have HBW := Lib.hid hbw
      have HALL := Lib.hid hall
      clear hall
      by_cases hjl : j < a.length
      · obtain ⟨b1, o1, k1, hE1, hk1, hl1, hat1⟩ := HA.out.at_ (by omega)
        obtain ⟨b2, o2, k2, hE2, hk2, hl2, hat2⟩ := HB.out.at_ (by omega)
        cases hE1
        cases hE2
        have x1 := hat1 j hjl
        have y1 := hat2 j (by omega)
        have hx0 := (hbw.cell (p := ⟨_, _, none⟩) hl1).trans x1.op
        have hx1 := (hbw.cell (p := ⟨_, _, none⟩) hl1).trans x1.n
        have hx2 := (hbw.cell (p := ⟨_, _, none⟩) hl1).trans x1.name
        have hx3 := (hbw.cell (p := ⟨_, _, none⟩) hl1).trans x1.pos
        have hy0 := (hbw.cell (p := ⟨_, _, none⟩) hl2).trans y1.op
        have hy1 := (hbw.cell (p := ⟨_, _, none⟩) hl2).trans y1.n
        have hy2 := (hbw.cell (p := ⟨_, _, none⟩) hl2).trans y1.name
        have hy3 := (hbw.cell (p := ⟨_, _, none⟩) hl2).trans y1.pos
        have HF : Hid (nodS pl a[j] (b[j]'(by omega)) = false → sameE pl a b = false) := fun h => sameE_no hl j hjl h
        have HT : Hid (nodS pl a[j] (b[j]'(by omega)) = true → ∀ j' (h : j' < a.length), j' = j → nodS pl a[j'] (b[j']'(by omega)) = true) := fun h j' hj' e => by subst e; exact h
        have hj0 : (0 : Int) ≤ (j : Int) := Int.natCast_nonneg _
        have hj1 : (j : Int) < (a.length : Int) := by omega
        have hj2 : (j : Int) < (b.length : Int) := by omega
        clear hat1 hat2 x1 y1 hbw
        generalize a[j] = x at hx0 hx1 hx2 hx3 HF HT
        generalize b[j]'(by omega) = y at hy0 hy1 hy2 hy3 HF HT
        cases h0 : (x.op == y.op)
        · have h0' : (x.op != y.op) = true := by unfold bne; rw [h0]; rfl
          go_wp2_with fail
          go_quiet (fail)
          go_wp2_with fail
          go_ret
          exact ⟨ret_bool (HF.out (by simp [nodS, *])).symm, bdrN HBW.out _⟩
        · have h0' : (x.op != y.op) = false := by unfold bne; rw [h0]; rfl
          cases h1 : (x.n == y.n)
          · have h1' : (x.n != y.n) = true := by unfold bne; rw [h1]; rfl
            go_wp2_with fail
            go_quiet (fail)
            go_wp2_with fail
            go_ret
            exact ⟨ret_bool (HF.out (by simp [nodS, *])).symm, bdrN HBW.out _⟩
          · have h1' : (x.n != y.n) = false := by unfold bne; rw [h1]; rfl
            have hnm : (x.name == y.name) = ((str x.name).toList == (str y.name).toList) := by rw [str_toList, str_toList]
            cases h2 : ((str x.name).toList == (str y.name).toList)
            · have h2' : ((str x.name).toList != (str y.name).toList) = true := by unfold bne; rw [h2]; rfl
              have HF2 : Hid (sameE pl a b = false) := HF.out (by rw [h2] at hnm; simp only [nodS, bne, hnm]; simp)
              clear hnm
              go_wp2_with fail
              go_quiet (fail)
              go_wp2_with fail
              go_ret
              exact ⟨ret_bool HF2.out.symm, bdrN HBW.out _⟩
            · have h2' : ((str x.name).toList != (str y.name).toList) = false := by unfold bne; rw [h2]; rfl
              rw [h2] at hnm
              cases pl
              · have HT2 := Lib.hid (HT.out (by simp only [nodS, bne, hnm, h0, h1]; simp))
                clear hnm
                go_wp2_with fail
                go_quiet (fail)
                go_wp2_with fail
                go_roundw
                case rel =>
                  refine ⟨bdrN HBW.out _, j + 1, by omega, by go_num, fun j' h hlt => ?_⟩
                  by_cases hjj : j' < j
                  · exact HALL.out j' h hjj
                  · exact HT2.out j' h (by omega)
                case measure => simp [intOf]; omega
              · cases h3 : (x.pos == y.pos)
                · have h3' : (x.pos != y.pos) = true := by unfold bne; rw [h3]; rfl
                  have HF2 : Hid (sameE true a b = false) := HF.out (by simp only [nodS, bne, h3]; simp)
                  clear hnm
                  go_wp2_with fail
                  go_quiet (fail)
                  go_wp2_with fail
                  go_ret
                  exact ⟨ret_bool HF2.out.symm, bdrN HBW.out _⟩
                · have h3' : (x.pos != y.pos) = false := by unfold bne; rw [h3]; rfl
                  have HT2 := Lib.hid (HT.out (by simp only [nodS, bne, hnm, h0, h1, h3]; simp))
                  clear hnm
                  go_wp2_with fail
                  go_quiet (fail)
                  go_wp2_with fail
                  go_roundw
                  case rel =>
                    refine ⟨bdrN HBW.out _, j + 1, by omega, by go_num, fun j' h hlt => ?_⟩
                    by_cases hjj : j' < j
                    · exact HALL.out j' h hjj
                    · exact HT2.out j' h (by omega)
                  case measure => simp [intOf]; omega
      · have HY := Lib.hid (sameE_yes (pl := pl) hl (fun i hi => HALL.out i hi (by omega)))
        go_wp2_with fail
        go_ret
        exact ⟨ret_bool HY.out.symm, HBW.out⟩
  · have hle : ((a.length : Int) == (b.length : Int)) = false := by rw [beq_eq_false_iff_ne]; omega
    have hln : ((a.length : Int) != (b.length : Int)) = true := by unfold bne; rw [hle]; rfl
    have HN := Lib.hid (sameE_len (pl := pl) hl)
    go_enter Tryd.func14, Tryd.ntmps14
    go_wp2_with fail
    go_ret
    exact ⟨ret_bool HN.out.symm, Below.refl _ _⟩
end Go.Proofs.YtahdfglelhdcnaaDoor
/- The same texts: the statements' walk. -/
namespace Go.Proofs.YtahdfglelhdcnaaDoor
open Go Go.RowKit
set_option linter.unusedVariables false
def eqE : List (List UInt8) → List (List UInt8) → Bool
  | [], [] => true
  | x :: a, y :: b => (x == y) && eqE a b
  | _, _ => false
theorem eqE_len : ∀ {a b : List (List UInt8)}, a.length ≠ b.length → eqE a b = false
  | [], [], h => absurd rfl h
  | [], _ :: _, _ => rfl
  | _ :: _, [], _ => rfl
  | x :: a, y :: b, h => by
    unfold eqE
    rw [eqE_len (a := a) (b := b) (by simpa using h)]
    simp
theorem eqE_yes : ∀ {a b : List (List UInt8)} (h : a.length = b.length), (∀ i (hi : i < a.length), (a[i] == (b[i]'(by omega))) = true) → eqE a b = true
  | [], [], _, _ => rfl
  | x :: a, y :: b, h, hall => by
    unfold eqE
    have h0 := hall 0 (by simp)
    have h1 := eqE_yes (a := a) (b := b) (by simpa using h) (fun i hi => by have := hall (i + 1) (by simp; omega); simpa using this)
    simp only [List.getElem_cons_zero] at h0
    rw [h0, h1]; rfl
theorem eqE_no : ∀ {a b : List (List UInt8)} (h : a.length = b.length) (i : Nat) (hi : i < a.length), (a[i] == (b[i]'(by omega))) = false → eqE a b = false
  | x :: a, y :: b, h, 0, _, h0 => by
    unfold eqE
    simp only [List.getElem_cons_zero] at h0
    rw [h0]; rfl
  | x :: a, y :: b, h, i + 1, hi, h0 => by
    unfold eqE
    rw [eqE_no (a := a) (b := b) (by simpa using h) i (by simpa using hi) (by simpa using h0)]
    simp
theorem Strs.shape {w : World} {v : Value} {l : List (List UInt8)} (h : Strs w v l) : ∃ A c, v = .slice A l.length c ∧ l.length ≤ c := by
  obtain ⟨_, A, c, hv, hc, _⟩ := h; exact ⟨A, c, hv, hc⟩
set_option maxRecDepth 100000 in
set_option maxHeartbeats 8000000 in
theorem texts_c (a b : List (List UInt8)) (ha : a.length ≤ 100000) (hb : b.length ≤ 100000) (va vb : Value) (w : World) (hA : Strs w va a) (hB : Strs w vb b) :
    Calls Tryd.prog 23 #[va, vb] w fun e w' => e = .returned (.bool (eqE a b)) ∧ Below w.heap.size w w' := by
  obtain ⟨A1, c1, rfl, hc1⟩ := Strs.shape hA
  obtain ⟨A2, c2, rfl, hc2⟩ := Strs.shape hB
  by_cases hl : a.length = b.length
  · have hle : ((a.length : Int) == (b.length : Int)) = true := by rw [beq_iff_eq]; omega
    have hln : ((a.length : Int) != (b.length : Int)) = false := by unfold bne; rw [hle]; rfl
    have HA := Lib.hid hA
    have HB := Lib.hid hB
    clear hA hB
    go_enter Tryd.func23, Tryd.ntmps23
    go_wp2_with fail
    go_loopw [5] (fun k wr => Below w.heap.size w wr ∧ ∃ j : Nat, j ≤ a.length ∧ k = .int .i64 j ∧ ∀ j' (h : j' < a.length), j' < j → (a[j'] == (b[j']'(by omega))) = true) (fun k _ => a.length - (intOf k).toNat)
    case atStart => exact ⟨Below.refl _ _, 0, Nat.zero_le _, rfl, fun j' _ h => absurd h (by omega)⟩
    case round =>
      obtain ⟨hbw, j, hj, rfl, hall⟩ := hrel
      have HBW := Lib.hid hbw
      have HALL := Lib.hid hall
      clear hall
      by_cases hjl : j < a.length
      · obtain ⟨b1, o1, k1, hE1, hk1, hl1, hat1⟩ := HA.out.at_ (by omega)
        obtain ⟨b2, o2, k2, hE2, hk2, hl2, hat2⟩ := HB.out.at_ (by omega)
        cases hE1
        cases hE2
        have hx := (hbw.cell (p := ⟨_, _, none⟩) hl1).trans (hat1 j hjl)
        have hy := (hbw.cell (p := ⟨_, _, none⟩) hl2).trans (hat2 j (by omega))
        have HF : Hid ((a[j] == (b[j]'(by omega))) = false → eqE a b = false) := fun h => eqE_no hl j hjl h
        have HT : Hid ((a[j] == (b[j]'(by omega))) = true → ∀ j' (h : j' < a.length), j' = j → (a[j'] == (b[j']'(by omega))) = true) := fun h j' hj' e => by subst e; exact h
        have hj0 : (0 : Int) ≤ (j : Int) := Int.natCast_nonneg _
        have hj1 : (j : Int) < (a.length : Int) := by omega
        have hj2 : (j : Int) < (b.length : Int) := by omega
        clear hat1 hat2 hbw
        generalize a[j] = x at hx HF HT
        generalize b[j]'(by omega) = y at hy HF HT
        have hnm : (x == y) = ((str x).toList == (str y).toList) := by rw [str_toList, str_toList]
        cases h2 : ((str x).toList == (str y).toList)
        · have h2' : ((str x).toList != (str y).toList) = true := by unfold bne; rw [h2]; rfl
          have HF2 := Lib.hid (HF.out (by rw [hnm, h2]))
          clear hnm
          go_wp2_with fail
          go_quiet (fail)
          go_wp2_with fail
          go_ret
          exact ⟨ret_bool HF2.out.symm, bdrN HBW.out _⟩
        · have h2' : ((str x).toList != (str y).toList) = false := by unfold bne; rw [h2]; rfl
          have HT2 := Lib.hid (HT.out (by rw [hnm, h2]))
          clear hnm
          go_wp2_with fail
          go_quiet (fail)
          go_wp2_with fail
          go_roundw
          case rel =>
            refine ⟨bdrN HBW.out _, j + 1, by omega, by go_num, fun j' h hlt => ?_⟩
            by_cases hjj : j' < j
            · exact HALL.out j' h hjj
            · exact HT2.out j' h (by omega)
          case measure => simp [intOf]; omega
      · have HY := Lib.hid (eqE_yes hl (fun i hi => HALL.out i hi (by omega)))
        go_wp2_with fail
        go_ret
        exact ⟨ret_bool HY.out.symm, HBW.out⟩
  · have hle : ((a.length : Int) == (b.length : Int)) = false := by rw [beq_eq_false_iff_ne]; omega
    have hln : ((a.length : Int) != (b.length : Int)) = true := by unfold bne; rw [hle]; rfl
    have HN := Lib.hid (eqE_len hl)
    go_enter Tryd.func23, Tryd.ntmps23
    go_wp2_with fail
    go_ret
    exact ⟨ret_bool HN.out.symm, Below.refl _ _⟩
end Go.Proofs.YtahdfglelhdcnaaDoor

/- Chapter 04 (statements), joined: StQ2, StQ3, StQN, StQO. -/
import Derived.Test.YtaoeaaebafcegaaGreatDoorPkA39
import Derived.IntWalk
import Derived.StillTailTactics
set_option maxRecDepth 100000
set_option maxHeartbeats 8000000
namespace Go.Proofs.YtaoeaaebafcegaaGreatDoor
open Go Go.RowKit
set_option linter.unusedVariables false
variable {lo:Int}
theorem pone12_c (l : List Tok) (hl : l.length ≤ 100000) (htx : ∀ t ∈ l, t.text.length ≤ 1000000) (d : Nat) (hd : d ≤ 12) (HB : BlkP l d) (g : Nat) (T : Nat → Prop) (v o : Value) (i : Nat) (p : Int) (pl : List Sv) (n : Nat) (w : World) (hn : n + 1 + d ≤ 100) (h : RX (n : Int) l g T v o w i 0 p pl) (hk : kindAt l i = 12) (hin : i < l.length) :
    Calls Tryz.prog 53 #[.pointer (some ⟨g, 0, none⟩), .int .i64 (12 - (d : Int))] w (OnePoP (n : Int) l (oneR (blkR l d) (decide (0 < n)) l i) g T v o p pl w) := by
  obtain ⟨S1, HS1⟩ : ∃ S1, Hid (str (hasS 12) = S1) := ⟨_, rfl⟩
  obtain ⟨S, HSS⟩ : ∃ S, Hid (str (lettS 12) = S) := ⟨_, rfl⟩
  have HHAS : Hid (∀ u, Calls Tryz.prog 22 #[.int .i64 12] u fun e w' => e = .returned (.string S1) ∧ Below u.heap.size u w') := fun u => by rw [← HS1.out]; exact has_c 12 (by decide) u
  have HTRIM : Hid (∀ u, Calls Tryz.prog 76 #[.string S1, .string ⟨#[98]⟩] u fun e w' => e = .returned (.string S) ∧ u = w') := fun u => by rw [← HS1.out, ← HSS.out]; exact lett_c 12 (by decide) u
  have HLEN : Hid (S.size = (lettS 12).length) := by show _ = _; rw [← HSS.out]; exact (str_get _).1
  have HGET : Hid (∀ j (h : j < S.size), ∃ h2 : j < (lettS 12).length, S[j] = (lettS 12)[j]) := fun j h => by
    have hlen := HLEN.out
    have h2 : j < (lettS 12).length := by omega
    refine ⟨h2, ?_⟩
    have hs := HSS.out
    subst hs
    exact (str_get _).2 j h h2
  have HRW := Lib.hid h
  have HBB := Lib.hid HB
  clear HB
  obtain ⟨Ao, co, hoe⟩ := own_shape h.row.own
  subst hoe
  obtain ⟨i0, hi0, hz0, hz1, hz2⟩ := info_parts info_stmt
  have HIN : Hid (i < l.length) := hin
  obtain ⟨bt0, offt, c, hE, hct, hbt, hatt⟩ := h.ctx.at_ (by omega)
  subst hE
  have HPP : Hid (posAt l i = (tk l i).pos) := by show _ = _; unfold posAt; rw [if_pos HIN.out]
  have HPOS : Hid (∀ u, Keep g w u → u.cell? ⟨bt0, offt + i * 4 + 3, none⟩ = some (.int .i64 (posAt l i))) := fun u hu => by
    have h := hatt u (hu.below (Nat.le_of_lt HRW.out.pq.lt)) i HIN.out
    rw [← tk_at HIN.out] at h
    rw [HPP.out]
    exact h.pos
  clear hatt hct
  have hlt1 : decide ((i : Int) < (l.length : Int)) = true := by simp; omega
  have hlt2 : decide (i < l.length) = true := by simp; omega
  have hin2 : (i : Int) < (l.length : Int) := by omega
  have hi0n : (0 : Int) ≤ (i : Int) := Int.natCast_nonneg _
  have HKD : Hid (∀ u, Below w.heap.size w u → Calls Tryz.prog 75 #[.pointer (some ⟨g, 0, none⟩)] u fun r w' => r = .returned (.int .i64 12) ∧ Below u.heap.size u w') := fun u hu => by
    have hh := pkind_c l hl g _ _ i 0 p u (HRW.out.below hu).pq (HRW.out.below hu).ctx
    rw [hk] at hh
    exact hh
  obtain ⟨pl0, p0, p1, p2, p3, p4, p5, pf⟩ := h.pq
  rw [oneR_kind hk]
  obtain ⟨P, HPA⟩ : ∃ P, Hid (posAt l i = P) := ⟨_, rfl⟩
  rw [HPA.out]
  have HKK := Lib.hid hk
  clear hk h
  go_enter Tryz.func53, Tryz.ntmps53
  go_upto_region 2 with (go_at_call 75; refine (HKD.out _ (Below.refl _ _)).mono ?_; rintro r w1 ⟨rfl, hb1⟩)
  have HSB : Hid (SB (w1.alloc (.cells #[.int .i64 12, .string ⟨#[]⟩, .string ⟨#[]⟩, .slice none 0 0, .slice none 0 0, .int .i64 0, .int .i64 0, .int .i64 0, .int .i64 0] 31)) w1.heap.size { zeroS with kind := 12 } (.slice none 0 0) (.slice none 0 0)) := sb_new w1 { zeroS with kind := 12 } (.slice none 0 0) (.slice none 0 0)
  have HBX : Hid (Below w.heap.size w (w1.alloc (.cells #[.int .i64 12, .string ⟨#[]⟩, .string ⟨#[]⟩, .slice none 0 0, .slice none 0 0, .int .i64 0, .int .i64 0, .int .i64 0, .int .i64 0] 31))) := bt hb1 (al _ _)
  have HWQ : Hid (w.heap.size ≤ w1.heap.size) := hb1.size
  clear hb1 pl0 p0 p1 p2 p3 p4 p5 pf
  generalize w1.heap.size = q at HSB HWQ ⊢
  generalize World.alloc w1 _ = X at HSB HBX ⊢
  have HGQ : Hid (g < q) := Nat.lt_of_lt_of_le HRW.out.pq.lt HWQ.out
  obtain ⟨pl0, p0, p1, p2, p3, p4, p5, pf⟩ := (HRW.out.below HBX.out).pq
  obtain ⟨sl, s0, s1, s2, s3, s4, s5, s6, s7, s8, sfr⟩ := HSB.out
  go_quiet (fail)
  replace HSB := Lib.hid (HSB.out.drewN nq)
  replace HBX := Lib.hid (qdrN HBX.out nq)
  clear pl0 p0 p1 p2 p3 p4 p5 pf sl s0 s1 s2 s3 s4 s5 s6 s7 s8 sfr
  generalize World.drewN _ _ = X at HSB HBX ⊢
  obtain ⟨pl0, p0, p1, p2, p3, p4, p5, pf⟩ := (HRW.out.below HBX.out).pq
  obtain ⟨sl, s0, s1, s2, s3, s4, s5, s6, s7, s8, sfr⟩ := HSB.out
  have sf8 := sfr 8
  have hpos := HPOS.out X (Keep.of HBX.out)
  rw [HPA.out] at hpos
  go_upto_region 3 with fail
  go_region
  have HSX := Lib.hid ((HSB.out.setPos P).keep (g := q + 1) (Keep.refl (q + 1) _).drew (Nat.ne_of_lt (Nat.lt_succ_self q)))
  have HKX := Lib.hid (((Keep.of (g := g) HBX.out).above HWQ.out 8 (.int .i64 P)).drew)
  have HPX := Lib.hid (((HRW.out.below HBX.out).pq.other (j := 8) (u := .int .i64 P) (Nat.ne_of_lt HGQ.out)).drew)
  clear pl0 p0 p1 p2 p3 p4 p5 pf sl s0 s1 s2 s3 s4 s5 s6 s7 s8 sfr sf8 hpos HSB HBX
  generalize World.drew _ = X at HSX HKX HPX ⊢
  obtain ⟨pl0, p0, p1, p2, p3, p4, p5, pf⟩ := HPX.out
  obtain ⟨sl, s0, s1, s2, s3, s4, s5, s6, s7, s8, sfr⟩ := HSX.out
  have HII : Hid (i + 1 ≤ 1000000) := by have := HIN.out; show _ ≤ _; omega
  have him : (i : Int) ≤ 1000000 := by have := HIN.out; omega
  have pf1 := pf 1
  go_upto_region 8 with fail
  rw [show (i : Int) + 1 = ((i + 1 : Nat) : Int) by omega]
  have HPY : Hid (PS (n : Int) (X.setCell ⟨g, 1, none⟩ (.int .i64 ((i + 1 : Nat) : Int))) g _ ((i + 1 : Nat) : Int) 0 p _) := HPX.out.set1 _
  have HSY := Lib.hid (HSX.out.keep ((Keep.refl g X).set 1 (.int .i64 ((i + 1 : Nat) : Int))) (Nat.ne_of_gt HGQ.out))
  have HKY := Lib.hid (HKX.out.trans ((Keep.refl g X).set 1 (.int .i64 ((i + 1 : Nat) : Int))))
  clear pl0 p0 p1 p2 p3 p4 p5 pf sl s0 s1 s2 s3 s4 s5 s6 s7 s8 sfr pf1 him HPX HSX HKX
  generalize World.setCell X _ _ = Y at HPY HSY HKY ⊢
  obtain ⟨pl0, p0, p1, p2, p3, p4, p5, pf⟩ := HPY.out
  obtain ⟨sl, s0, s1, s2, s3, s4, s5, s6, s7, s8, sfr⟩ := HSY.out
  go_upto_region 10 with (first
    | (go_at_call 22; (with_reducible refine (HHAS.out _).mono ?_); rintro r w3 ⟨rfl, hb3⟩)
    | (go_at_call 76; (with_reducible refine (HTRIM.out _).mono ?_); rintro r w4 ⟨rfl, rfl⟩))
  have HWX : Hid (WX (n : Int) l g _ _ w3 q w3 ⟨{ zeroS with kind := 12, pos := P }, (i + 1), 0, p⟩ (.slice none 0 0) (.slice none 0 0)) :=
    ⟨HPY.out.below hb3, HSY.out.below hb3, ⟨Sl.nil _ _ _, Unf.nil _ _ _⟩, ⟨Sl.nil _ _ _, Unf.nil _ _ _⟩, fresh_nil _ _ _, fresh_nil _ _ _, (HRW.out.ctx.keep HKY.out HRW.out.pq.lt).keep (Keep.of hb3) HPY.out.lt, Keep2.refl _ _ _, (HSY.out.below hb3).lt, HGQ.out, HII.out⟩
  have HK0 := Lib.hid (HKY.out.trans (Keep.of hb3))
  obtain ⟨R0, HR0⟩ : ∃ R0, Hid (runS l ⟨{ zeroS with kind := 12, pos := P }, (i + 1), 0, p⟩ (opsS 12) = R0) := ⟨_, rfl⟩
  clear pl0 p0 p1 p2 p3 p4 p5 pf sl s0 s1 s2 s3 s4 s5 s6 s7 s8 sfr HPY HSY HKY hb3 HHAS HTRIM
  go_loopw [68] (fun b wr => ∃ j : Nat, j ≤ S.size ∧ b = .int .i64 j ∧ ∃ σ ev fv, WX (n : Int) l g (.slice (some ⟨bt0, offt, none⟩) l.length c) (.slice Ao pl.length co) w3 q wr σ ev fv ∧ runS l σ (opsOf2 ((lettS 12).drop j) j) = R0) (fun b _ => S.size - (intOf b).toNat)
  case atStart => exact ⟨0, Nat.zero_le _, rfl, _, _, _, HWX.out, HR0.out⟩
  case round =>
    obtain ⟨j, hjs, rfl, σ, ev, fv, hwx, hrun⟩ := hrel
    have HWJ := Lib.hid hwx
    have HRJ := Lib.hid hrun
    clear hwx hrun
    by_cases hlt : j < S.size
    · obtain ⟨hj2, hgj⟩ := HGET.out j hlt
      have HGJ := Lib.hid hgj
      have HJ2 := Lib.hid hj2
      have HLJ : Hid (S[j] = 114 ∨ S[j] = 110 ∨ S[j] = 101 ∨ S[j] = 102 ∨ S[j] = 107) := by show _ ∨ _; rw [hgj]; exact (lett_in 12 (by decide) _ (List.getElem_mem hj2)).2
      clear hgj
      have hjb : (j : Int) ≤ 4 := by have := lett_len 12 (by decide); omega
      go_wp2_with (go_at_call 77; refine (part_c l hl htx g q _ _ w3 _ σ ev fv S[j] HLJ.out j HWJ.out).mono ?_; rintro r w5 ⟨rfl, ev', fv', hwx'⟩)
      go_roundw
      case rel => exact ⟨j + 1, by omega, by go_num, _, ev', fv', hwx', by rw [HGJ.out, run_letter l σ _ j HJ2.out]; exact HRJ.out⟩
      case measure => simp only [intOf]; omega
    · obtain rfl : j = S.size := by omega
      have hR : σ = R0 := by
        have := HRJ.out
        rw [HLEN.out, List.drop_length] at this
        exact this
      subst hR
      obtain ⟨x, j, e1, p1⟩ := σ
      have HRUN : Hid (runS l ⟨{ zeroS with kind := (12 : Nat), pos := P }, if (12 : Nat) = 1 then i else i + 1, 0, p⟩ (opsS 12) = ⟨x, j, e1, p1⟩) := by rw [if_neg (by decide)]; exact HR0.out
      have HOX := Lib.hid (oxp_new HRW.out HK0.out HWQ.out HWJ.out rfl (by
        have := run_mono l (opsS 12) ⟨{ zeroS with kind := 12, pos := P }, (i + 1), 0, p⟩
        rw [HR0.out] at this
        exact Nat.le_trans (Nat.le_succ i) this) (fun he => part_lt HRUN.out he))
      obtain ⟨A1, c1, rfl, _⟩ := HWJ.out.ne.shape
      obtain ⟨A2, c2, rfl, _⟩ := HWJ.out.nf.shape
      clear hlt hjs HWX HRJ HWJ HR0 HGET HLEN HK0
      generalize wr = X at HOX ⊢
      obtain ⟨pl0, p0, p1', p2, p3, p4, p5, pf⟩ := HOX.out.pq
      obtain ⟨bl, b0, b1, b2, b3, b4, b5, b6, b7, b8, bfr⟩ := HOX.out.sb
      go_upto_region 14 with fail
      have HT2 : Hid (pl.length + 1 ≤ maxLen ∧ (pl.length + 1) * 120 ≤ 140737488355328) := by have := HRW.out.n1; have := HRW.out.im; show _ ∧ _; unfold maxLen; constructor <;> omega
      have HGS : Hid (g + 1 ≤ X.heap.size) := HOX.out.pq.lt
      have hca := ((al X (.cells #[.int .i64 x.kind, .string (str x.reg), .string (str x.name), .slice A1 x.e.length c1, .slice A2 x.f.length c2, .int .i64 x.n, .int .i64 x.body, .int .i64 x.els, .int .i64 x.pos] 31)).cell (p := ⟨g, 5, none⟩) HOX.out.pq.lt).trans p5
      go_region_law
        ((refine step_append_lies _ (by rfl) _ _ _ (by rfl) (g + 1) 31 i0 _ 9 120 Tryz.underlying24 hi0 hz0 hz1 hz2 rfl (by decide) (.slice Ao pl.length co) pl.length (pl.flatMap Sv.cells) (by rfl) (HOX.out.row.below (bt (al X _) (qdr (Below.refl _ _)))).own ⟨X.heap.size, 0, none⟩ 1 1 (Sv.cells ⟨x, .slice A1 x.e.length c1, .slice A2 x.f.length c2⟩) (by rfl) (by rfl) (World.news_of_block (cs := #[.int .i64 x.kind, .string (str x.reg), .string (str x.name), .slice A1 x.e.length c1, .slice A2 x.f.length c2, .int .i64 x.n, .int .i64 x.body, .int .i64 x.els, .int .i64 x.pos]) (t := 31) (fr := (0, 0)) (heap_alloc_new X _)) (by simp [Sv.cells, Value.oneCell']) (by decide) HT2.out.1 HT2.out.2 (Nat.le_trans HGS.out (al X _).size) (X.heap.size + 1) (by simp) ?_; intro gg cap wa hown hgrow hat hlt; have HPG := (HOX.out.pq.below (bt (al X _) (qdr (Below.refl _ _)))).grown hgrow (fun e => by have := (HOX.out.row.own.lt g e).1; omega); have a5 := HPG.c5; have af := HPG.fr 5))
      all_goals
        have HAP := Lib.hid (one_apP (x := ⟨x, .slice A1 x.e.length c1, .slice A2 x.f.length c2⟩) HOX.out.pq HOX.out.row HOX.out.ctx ⟨.inl HOX.out.tg, fun k hk => hk.elim (fun h => Nat.lt_of_lt_of_le (HOX.out.tl k h) HOX.out.kp.size) (fun h => by subst h; exact HOX.out.sb.lt)⟩ HOX.out.off (bt (al X _) (qdr (Below.refl _ _))) (by simpa using hown) hgrow (by
          rcases hat with e | e
          · exact .inl e.symm
          · refine .inr ?_
            show some gg = some _
            rw [e]; simp) HOX.out.n1 HOX.out.n0 HOX.out.im)
        have HRY := Lib.hid HAP.out.1
        have HKY := Lib.hid ((KR.of _ HOX.out.kp).trans HAP.out.2)
        have HSY := Lib.hid (HOX.out.sb.kr HAP.out.2 (fun e => by have := HOX.out.hq; have := HRW.out.pq.lt; omega) HOX.out.own)
        have HQN := Lib.hid (HAP.out.2.ne HOX.out.sb.lt HOX.out.own)
        clear HAP hown hgrow hat hlt HPG a5 af hca HOX HT2 HGS pl0 p0 p1' p2 p3 p4 p5 pf bl b0 b1 b2 b3 b4 b5 b6 b7 b8 bfr
        generalize World.setCell wa _ _ = Y at HRY HKY HSY ⊢
        have hn9 : (n : Int) ≤ 100 := by omega
        have hn0 : (0 : Int) ≤ (n : Int) := Int.natCast_nonneg _
        have hd12 : (d : Int) ≤ 12 := by omega
        have HX0 := Lib.hid (run_body HRUN.out)
        obtain ⟨yl, y0, y1, y2, y3, y4, y5, yf⟩ := HRY.out.pq
        obtain ⟨sl, s0, s1, s2, s3, s4, s5, s6, s7, s8, sfr⟩ := HSY.out
        have HXK : Hid (x.kind = 12) := by
          have hc := run_kind HRUN.out
          exact hc
        rw [HXK.out] at s0
        have HBT : Hid (∀ u, Calls Tryz.prog 61 #[.bool true] u fun e w' => e = .returned (.int .i64 1) ∧ w' = u) := fun u => (boolP_c true u).mono (fun e w' h => ⟨h.1, h.2.symm⟩)
        go_upto_region 17 with fail
        by_cases he1 : e1 = 0
        · subst he1
          have hnw : IntKind.i64.wrap ((n : Int) + 1) = (n : Int) + 1 := IntWalk.i64_in _ (by omega)
          have hnw2 : (0 : Int) ≤ (n : Int) + 1 := by omega
          go_still_tail 9, (by kernel_rfl)
          still_call (HBT.out _)
          repeat still_step
          refine wpStill_nil ?_
          change wpList _ _ _ _ _ (World.drew Y)
          replace HRY := Lib.hid (HRY.out.below (qdr (Below.refl _ _)))
          replace HSY := Lib.hid (HSY.out.keep (g := q + 1) (Keep.refl (q + 1) _).drew (Nat.ne_of_lt (Nat.lt_succ_self q)))
          replace HKY := Lib.hid HKY.out.drew
          clear yl y0 y1 y2 y3 y4 y5 yf sl s0 s1 s2 s3 s4 s5 s6 s7 s8 sfr
          generalize World.drew Y = Z at HRY HSY HKY ⊢
          obtain ⟨yl, y0, y1, y2, y3, y4, y5, yf⟩ := HRY.out.pq
          have yf2 := yf 2
          go_upto_region 18 with fail
          replace HSY := Lib.hid (HSY.out.keep ((Keep.refl g Z).set 2 (.int .i64 ((n : Int) + 1))) (Nat.ne_of_gt HGQ.out))
          replace HKY := Lib.hid (HKY.out.trans (KR.of _ ((Keep.refl g Z).set 2 (.int .i64 ((n : Int) + 1)))))
          have HRYn := Lib.hid (HRY.out.set2 ((n : Int) + 1))
          clear yl y0 y1 y2 y3 y4 y5 yf yf2 hnw hnw2 HRY
          generalize World.setCell Z _ _ = Z at HRYn HSY HKY ⊢
          obtain ⟨yl, y0, y1, y2, y3, y4, y5, yf⟩ := HRYn.out.pq
          go_upto_region 19 with (go_at_call 27; refine (bpk_ok HBB.out (n := n + 1) (by omega) (by omega) (by omega) HRYn.out).mono ?_; rintro r w2 ⟨j2, e2, p2, o2, pl2, rfl, hr2, hk2, hb2⟩)
          have HB2 := Lib.hid hb2
          have HRZ := Lib.hid hr2
          have HSZ := Lib.hid (HSY.out.kr hk2 (Nat.ne_of_gt HGQ.out) HQN.out)
          have HKZ := Lib.hid (HKY.out.trans hk2)
          have HQZ := Lib.hid (hk2.ne HSY.out.lt HQN.out)
          clear yl y0 y1 y2 y3 y4 y5 yf hr2 hk2 hb2 HSY HKY HRYn
          obtain ⟨yl, y0, y1, y2, y3, y4, y5, yf⟩ := HRZ.out.pq
          obtain ⟨sl, s0, s1, s2, s3, s4, s5, s6, s7, s8, sfr⟩ := HSZ.out
          rw [HXK.out] at s0
          have hnw : IntKind.i64.wrap ((n : Int)) = (n : Int) := IntWalk.i64_in _ (by omega)
          have hnw2 : (n : Int) + 1 - 1 = (n : Int) := by omega
          go_still_tail 9, (by kernel_rfl)
          still_call (HBT.out _)
          repeat still_step
          refine wpStill_nil ?_
          change wpList _ _ _ _ _ (World.drew w2)
          replace HRZ := Lib.hid (HRZ.out.below (qdr (Below.refl _ _)))
          replace HSZ := Lib.hid (HSZ.out.keep (g := q + 1) (Keep.refl (q + 1) _).drew (Nat.ne_of_lt (Nat.lt_succ_self q)))
          replace HKZ := Lib.hid HKZ.out.drew
          clear yl y0 y1 y2 y3 y4 y5 yf sl s0 s1 s2 s3 s4 s5 s6 s7 s8 sfr
          generalize World.drew w2 = Z at HRZ HSZ HKZ ⊢
          obtain ⟨yl, y0, y1, y2, y3, y4, y5, yf⟩ := HRZ.out.pq
          have yf2 := yf 2
          go_upto_region 20 with fail
          replace HSZ := Lib.hid (HSZ.out.keep ((Keep.refl g Z).set 2 (.int .i64 (n : Int))) (Nat.ne_of_gt HGQ.out))
          replace HKZ := Lib.hid (HKZ.out.trans (KR.of _ ((Keep.refl g Z).set 2 (.int .i64 (n : Int)))))
          have HRZn := Lib.hid (HRZ.out.set2 (n : Int))
          clear yl y0 y1 y2 y3 y4 y5 yf yf2 hnw hnw2 HRZ
          generalize World.setCell Z _ _ = Z at HRZn HSZ HKZ ⊢
          obtain ⟨zl, z0, z1, z2, z3, z4, z5, zf⟩ := HRZn.out.pq
          obtain ⟨sl, s0, s1, s2, s3, s4, s5, s6, s7, s8, sfr⟩ := HSZ.out
          rw [HXK.out] at s0
          go_upto_region 21 with fail
          go_quiet (fail)
          replace HRZn := Lib.hid (HRZn.out.drewN nq)
          replace HKZ := Lib.hid (HKZ.out.drewN nq)
          clear zl z0 z1 z2 z3 z4 z5 zf sl s0 s1 s2 s3 s4 s5 s6 s7 s8 sfr
          generalize World.drewN _ _ = Z at HRZn HKZ ⊢
          go_upto_region 24 with fail
          obtain ⟨gg2, cap2, rfl, hog2, hcl2⟩ := own_some HRZn.out.row.own (by simp only [List.length_append, List.length_cons, List.length_nil]; omega)
          have HG2 := Lib.hid hog2
          have hgm : ∀ m, m < 9 → ∀ u, (Sv.cells ⟨x, .slice A1 x.e.length c1, .slice A2 x.f.length c2⟩)[m]? = some u → Z.cell? ⟨gg2, pl.length * 9 + m, none⟩ = some u := fun m hm u hu => hcl2 _ _ (by
            have := flat_getElem Sv.cells 9 Sv.cells_len (pl ++ [(⟨x, .slice A1 x.e.length c1, .slice A2 x.f.length c2⟩ : Sv)] ++ pl2) pl.length m (by simp only [List.length_append, List.length_cons, List.length_nil]; omega) hm
            rw [this]; simpa using hu)
          have k6 := hgm 6 (by decide) _ rfl
          have k7 := hgm 7 (by decide) _ rfl
          have kfr := (Unf.own HRZn.out.row.own ⟨gg2, 0, none⟩ _ _ rfl).2
          have HKL : Hid (pl.length < (pl ++ [(⟨x, .slice A1 x.e.length c1, .slice A2 x.f.length c2⟩ : Sv)] ++ pl2).length) := by show _ < _; simp only [List.length_append, List.length_cons, List.length_nil]; omega
          have hkl : (pl.length : Int) < ((pl ++ [(⟨x, .slice A1 x.e.length c1, .slice A2 x.f.length c2⟩ : Sv)] ++ pl2).length : Nat) := by have := HKL.out; omega
          have hkl2 : pl.length < (pl ++ [(⟨x, .slice A1 x.e.length c1, .slice A2 x.f.length c2⟩ : Sv)] ++ pl2).length := HKL.out
          obtain ⟨zl, z0, z1, z2, z3, z4, z5, zf⟩ := HRZn.out.pq
          clear hgm hcl2 hog2
          generalize hN : (pl ++ [(⟨x, .slice A1 x.e.length c1, .slice A2 x.f.length c2⟩ : Sv)] ++ pl2).length = N at z5 hkl hkl2
          have HN := Lib.hid hN
          clear hN
          go_region
          first | refine bodyPost_end (results_none rfl _ _ _) rfl ?_ | refine bodyPost_ret (results_none rfl _ _ _) rfl ?_
          have HPT := one_puP HRZn.out HG2.out pl.length HKL.out ((pl2.length : Nat) : Int) (0 : Int)
          have HPE : (pl ++ [(⟨x, .slice A1 x.e.length c1, .slice A2 x.f.length c2⟩ : Sv)] ++ pl2).set pl.length ⟨{ ((pl ++ [(⟨x, .slice A1 x.e.length c1, .slice A2 x.f.length c2⟩ : Sv)] ++ pl2)[pl.length]'HKL.out).s with body := ((pl2.length : Nat) : Int), els := (0 : Int) }, ((pl ++ [(⟨x, .slice A1 x.e.length c1, .slice A2 x.f.length c2⟩ : Sv)] ++ pl2)[pl.length]'HKL.out).ev, ((pl ++ [(⟨x, .slice A1 x.e.length c1, .slice A2 x.f.length c2⟩ : Sv)] ++ pl2)[pl.length]'HKL.out).fv⟩ = pl ++ (⟨{ x with body := ((pl2.length : Nat) : Int), els := (0 : Int) }, .slice A1 x.e.length c1, .slice A2 x.f.length c2⟩ :: (pl2)) := by
            have hq : (pl ++ [(⟨x, .slice A1 x.e.length c1, .slice A2 x.f.length c2⟩ : Sv)] ++ pl2)[pl.length]'HKL.out = ⟨x, .slice A1 x.e.length c1, .slice A2 x.f.length c2⟩ := by simp
            rw [hq]
            simp only [List.append_assoc, List.cons_append, List.nil_append, set_mid]
          rw [HPE] at HPT
          have hxe : ({ x with body := ((pl2.length : Nat) : Int), els := 0 } : St) = { x with body := ((pl2.length : Nat) : Int) } := by
            have h0 := HX0.out.2
            cases x
            simp only at h0
            subst h0
            rfl
          rw [hxe] at HPT
          have hb2 := HB2.out
          rw [decide_eq_true (Nat.succ_pos n)] at hb2
          exact ⟨_, _, _, _, _ :: pl2, rfl, (HPT.1.below (qdr (Below.refl _ _))).mono (fun k hk => .inl hk) HRW.out.tg, (HKZ.out.trans HPT.2).drew, one_loop HRUN.out rfl hb2⟩
        · have HE1 := Lib.hid he1
          clear he1
          have hnw : IntKind.i64.wrap ((n : Int) + 1) = (n : Int) + 1 := IntWalk.i64_in _ (by omega)
          have hnw2 : (0 : Int) ≤ (n : Int) + 1 := by omega
          go_still_tail 9, (by kernel_rfl)
          still_call (HBT.out _)
          repeat still_step
          refine wpStill_nil ?_
          change wpList _ _ _ _ _ (World.drew Y)
          replace HRY := Lib.hid (HRY.out.below (qdr (Below.refl _ _)))
          replace HSY := Lib.hid (HSY.out.keep (g := q + 1) (Keep.refl (q + 1) _).drew (Nat.ne_of_lt (Nat.lt_succ_self q)))
          replace HKY := Lib.hid HKY.out.drew
          clear yl y0 y1 y2 y3 y4 y5 yf sl s0 s1 s2 s3 s4 s5 s6 s7 s8 sfr
          generalize World.drew Y = Z at HRY HSY HKY ⊢
          obtain ⟨yl, y0, y1, y2, y3, y4, y5, yf⟩ := HRY.out.pq
          have yf2 := yf 2
          go_upto_region 18 with fail
          replace HSY := Lib.hid (HSY.out.keep ((Keep.refl g Z).set 2 (.int .i64 ((n : Int) + 1))) (Nat.ne_of_gt HGQ.out))
          replace HKY := Lib.hid (HKY.out.trans (KR.of _ ((Keep.refl g Z).set 2 (.int .i64 ((n : Int) + 1)))))
          have HRYn := Lib.hid (HRY.out.set2 ((n : Int) + 1))
          clear yl y0 y1 y2 y3 y4 y5 yf yf2 hnw hnw2 HRY
          generalize World.setCell Z _ _ = Z at HRYn HSY HKY ⊢
          obtain ⟨yl, y0, y1, y2, y3, y4, y5, yf⟩ := HRYn.out.pq
          go_upto_region 19 with (go_at_call 27; refine (bpk_no HBB.out (n := n + 1) (by omega) (by omega) (by omega) HE1.out HRYn.out).mono ?_; rintro r w2 ⟨rfl, hk2', hr2⟩; have hk2 := KR.of (.slice (some ⟨gg, 0, none⟩) (pl.length + 1) cap) hk2')
          have HRZ := Lib.hid hr2
          have HSZ := Lib.hid (HSY.out.kr hk2 (Nat.ne_of_gt HGQ.out) HQN.out)
          have HKZ := Lib.hid (HKY.out.trans hk2)
          have HQZ := Lib.hid (hk2.ne HSY.out.lt HQN.out)
          clear yl y0 y1 y2 y3 y4 y5 yf hr2 hk2 hk2' HSY HKY HRYn
          obtain ⟨yl, y0, y1, y2, y3, y4, y5, yf⟩ := HRZ.out.pq
          obtain ⟨sl, s0, s1, s2, s3, s4, s5, s6, s7, s8, sfr⟩ := HSZ.out
          rw [HXK.out] at s0
          have hnw : IntKind.i64.wrap ((n : Int)) = (n : Int) := IntWalk.i64_in _ (by omega)
          have hnw2 : (n : Int) + 1 - 1 = (n : Int) := by omega
          go_still_tail 9, (by kernel_rfl)
          still_call (HBT.out _)
          repeat still_step
          refine wpStill_nil ?_
          change wpList _ _ _ _ _ (World.drew w2)
          replace HRZ := Lib.hid (HRZ.out.below (qdr (Below.refl _ _)))
          replace HSZ := Lib.hid (HSZ.out.keep (g := q + 1) (Keep.refl (q + 1) _).drew (Nat.ne_of_lt (Nat.lt_succ_self q)))
          replace HKZ := Lib.hid HKZ.out.drew
          clear yl y0 y1 y2 y3 y4 y5 yf sl s0 s1 s2 s3 s4 s5 s6 s7 s8 sfr
          generalize World.drew w2 = Z at HRZ HSZ HKZ ⊢
          obtain ⟨yl, y0, y1, y2, y3, y4, y5, yf⟩ := HRZ.out.pq
          have yf2 := yf 2
          go_upto_region 20 with fail
          replace HSZ := Lib.hid (HSZ.out.keep ((Keep.refl g Z).set 2 (.int .i64 (n : Int))) (Nat.ne_of_gt HGQ.out))
          replace HKZ := Lib.hid (HKZ.out.trans (KR.of _ ((Keep.refl g Z).set 2 (.int .i64 (n : Int)))))
          have HRZn := Lib.hid (HRZ.out.set2 (n : Int))
          clear yl y0 y1 y2 y3 y4 y5 yf yf2 hnw hnw2 HRZ
          generalize World.setCell Z _ _ = Z at HRZn HSZ HKZ ⊢
          obtain ⟨zl, z0, z1, z2, z3, z4, z5, zf⟩ := HRZn.out.pq
          obtain ⟨sl, s0, s1, s2, s3, s4, s5, s6, s7, s8, sfr⟩ := HSZ.out
          rw [HXK.out] at s0
          go_upto_region 21 with fail
          go_quiet (fail)
          replace HRZn := Lib.hid (HRZn.out.drewN nq)
          replace HKZ := Lib.hid (HKZ.out.drewN nq)
          clear zl z0 z1 z2 z3 z4 z5 zf sl s0 s1 s2 s3 s4 s5 s6 s7 s8 sfr
          generalize World.drewN _ _ = Z at HRZn HKZ ⊢
          go_upto_region 24 with fail
          obtain ⟨gg2, cap2, hv2, hog2, hcl2⟩ := own_some HRZn.out.row.own (by simp only [List.length_append, List.length_cons, List.length_nil]; omega)
          obtain rfl : gg2 = gg := by injection hv2 with e1; injection e1 with e1; injection e1 with e1; exact e1.symm
          clear hv2
          have HG2 := Lib.hid hog2
          have hgm : ∀ m, m < 9 → ∀ u, (Sv.cells ⟨x, .slice A1 x.e.length c1, .slice A2 x.f.length c2⟩)[m]? = some u → Z.cell? ⟨gg2, pl.length * 9 + m, none⟩ = some u := fun m hm u hu => hcl2 _ _ (by
            have := flat_getElem Sv.cells 9 Sv.cells_len (pl ++ [(⟨x, .slice A1 x.e.length c1, .slice A2 x.f.length c2⟩ : Sv)]) pl.length m (by simp only [List.length_append, List.length_cons, List.length_nil]; omega) hm
            rw [this]; simpa using hu)
          have k6 := hgm 6 (by decide) _ rfl
          have k7 := hgm 7 (by decide) _ rfl
          have kfr := (Unf.own HRZn.out.row.own ⟨gg2, 0, none⟩ _ _ rfl).2
          have HKL : Hid (pl.length < (pl ++ [(⟨x, .slice A1 x.e.length c1, .slice A2 x.f.length c2⟩ : Sv)]).length) := by show _ < _; simp only [List.length_append, List.length_cons, List.length_nil]; omega
          have hkl : (pl.length : Int) < ((pl ++ [(⟨x, .slice A1 x.e.length c1, .slice A2 x.f.length c2⟩ : Sv)]).length : Nat) := by have := HKL.out; omega
          have hkl2 : pl.length < (pl ++ [(⟨x, .slice A1 x.e.length c1, .slice A2 x.f.length c2⟩ : Sv)]).length := HKL.out
          obtain ⟨zl, z0, z1, z2, z3, z4, z5, zf⟩ := HRZn.out.pq
          clear hgm hcl2 hog2
          rw [List.length_append, List.length_cons, List.length_nil] at hkl hkl2
          generalize hN : pl.length + (0 + 1) = N at hkl hkl2
          have hN2 : pl.length + 1 = N := by omega
          rw [hN2] at z5
          have HN := Lib.hid hN2
          clear hN hN2
          go_region
          first | refine bodyPost_end (results_none rfl _ _ _) rfl ?_ | refine bodyPost_ret (results_none rfl _ _ _) rfl ?_
          have HPT := one_puP HRZn.out HG2.out pl.length HKL.out (0 : Int) (0 : Int)
          have HPE : (pl ++ [(⟨x, .slice A1 x.e.length c1, .slice A2 x.f.length c2⟩ : Sv)]).set pl.length ⟨{ ((pl ++ [(⟨x, .slice A1 x.e.length c1, .slice A2 x.f.length c2⟩ : Sv)])[pl.length]'HKL.out).s with body := (0 : Int), els := (0 : Int) }, ((pl ++ [(⟨x, .slice A1 x.e.length c1, .slice A2 x.f.length c2⟩ : Sv)])[pl.length]'HKL.out).ev, ((pl ++ [(⟨x, .slice A1 x.e.length c1, .slice A2 x.f.length c2⟩ : Sv)])[pl.length]'HKL.out).fv⟩ = pl ++ (⟨{ x with body := (0 : Int), els := (0 : Int) }, .slice A1 x.e.length c1, .slice A2 x.f.length c2⟩ :: ([])) := by
            have hq : (pl ++ [(⟨x, .slice A1 x.e.length c1, .slice A2 x.f.length c2⟩ : Sv)])[pl.length]'HKL.out = ⟨x, .slice A1 x.e.length c1, .slice A2 x.f.length c2⟩ := by simp
            rw [hq]
            simp only [set_mid]
          rw [HPE] at HPT
          exact ⟨_, _, _, _, _ :: [], rfl, (HPT.1.below (qdr (Below.refl _ _))).mono (fun k hk => .inl hk) HRW.out.tg, (HKZ.out.trans HPT.2).drew, one_wrong (fun h => absurd h.1 (by decide)) HRUN.out HE1.out _ _⟩
theorem pone11_c (l : List Tok) (hl : l.length ≤ 100000) (htx : ∀ t ∈ l, t.text.length ≤ 1000000) (d : Nat) (hd : d ≤ 12) (HB : BlkP l d) (g : Nat) (T : Nat → Prop) (v o : Value) (i : Nat) (p : Int) (pl : List Sv) (n : Nat) (w : World) (hn : n + 1 + d ≤ 100) (h : RX (n : Int) l g T v o w i 0 p pl) (hk : kindAt l i = 11) (hin : i < l.length) :
    Calls Tryz.prog 53 #[.pointer (some ⟨g, 0, none⟩), .int .i64 (12 - (d : Int))] w (OnePoP (n : Int) l (oneR (blkR l d) (decide (0 < n)) l i) g T v o p pl w) := by
  obtain ⟨S1, HS1⟩ : ∃ S1, Hid (str (hasS 11) = S1) := ⟨_, rfl⟩
  obtain ⟨S, HSS⟩ : ∃ S, Hid (str (lettS 11) = S) := ⟨_, rfl⟩
  have HHAS : Hid (∀ u, Calls Tryz.prog 22 #[.int .i64 11] u fun e w' => e = .returned (.string S1) ∧ Below u.heap.size u w') := fun u => by rw [← HS1.out]; exact has_c 11 (by decide) u
  have HTRIM : Hid (∀ u, Calls Tryz.prog 76 #[.string S1, .string ⟨#[98]⟩] u fun e w' => e = .returned (.string S) ∧ u = w') := fun u => by rw [← HS1.out, ← HSS.out]; exact lett_c 11 (by decide) u
  have HLEN : Hid (S.size = (lettS 11).length) := by show _ = _; rw [← HSS.out]; exact (str_get _).1
  have HGET : Hid (∀ j (h : j < S.size), ∃ h2 : j < (lettS 11).length, S[j] = (lettS 11)[j]) := fun j h => by
    have hlen := HLEN.out
    have h2 : j < (lettS 11).length := by omega
    refine ⟨h2, ?_⟩
    have hs := HSS.out
    subst hs
    exact (str_get _).2 j h h2
  have HRW := Lib.hid h
  have HBB := Lib.hid HB
  clear HB
  obtain ⟨Ao, co, hoe⟩ := own_shape h.row.own
  subst hoe
  obtain ⟨i0, hi0, hz0, hz1, hz2⟩ := info_parts info_stmt
  have HIN : Hid (i < l.length) := hin
  obtain ⟨bt0, offt, c, hE, hct, hbt, hatt⟩ := h.ctx.at_ (by omega)
  subst hE
  have HPP : Hid (posAt l i = (tk l i).pos) := by show _ = _; unfold posAt; rw [if_pos HIN.out]
  have HPOS : Hid (∀ u, Keep g w u → u.cell? ⟨bt0, offt + i * 4 + 3, none⟩ = some (.int .i64 (posAt l i))) := fun u hu => by
    have h := hatt u (hu.below (Nat.le_of_lt HRW.out.pq.lt)) i HIN.out
    rw [← tk_at HIN.out] at h
    rw [HPP.out]
    exact h.pos
  clear hatt hct
  have hlt1 : decide ((i : Int) < (l.length : Int)) = true := by simp; omega
  have hlt2 : decide (i < l.length) = true := by simp; omega
  have hin2 : (i : Int) < (l.length : Int) := by omega
  have hi0n : (0 : Int) ≤ (i : Int) := Int.natCast_nonneg _
  have HKD : Hid (∀ u, Below w.heap.size w u → Calls Tryz.prog 75 #[.pointer (some ⟨g, 0, none⟩)] u fun r w' => r = .returned (.int .i64 11) ∧ Below u.heap.size u w') := fun u hu => by
    have hh := pkind_c l hl g _ _ i 0 p u (HRW.out.below hu).pq (HRW.out.below hu).ctx
    rw [hk] at hh
    exact hh
  obtain ⟨pl0, p0, p1, p2, p3, p4, p5, pf⟩ := h.pq
  rw [oneR_kind hk]
  obtain ⟨P, HPA⟩ : ∃ P, Hid (posAt l i = P) := ⟨_, rfl⟩
  rw [HPA.out]
  have HKK := Lib.hid hk
  clear hk h
  go_enter Tryz.func53, Tryz.ntmps53
  go_upto_region 2 with (go_at_call 75; refine (HKD.out _ (Below.refl _ _)).mono ?_; rintro r w1 ⟨rfl, hb1⟩)
  have HSB : Hid (SB (w1.alloc (.cells #[.int .i64 11, .string ⟨#[]⟩, .string ⟨#[]⟩, .slice none 0 0, .slice none 0 0, .int .i64 0, .int .i64 0, .int .i64 0, .int .i64 0] 31)) w1.heap.size { zeroS with kind := 11 } (.slice none 0 0) (.slice none 0 0)) := sb_new w1 { zeroS with kind := 11 } (.slice none 0 0) (.slice none 0 0)
  have HBX : Hid (Below w.heap.size w (w1.alloc (.cells #[.int .i64 11, .string ⟨#[]⟩, .string ⟨#[]⟩, .slice none 0 0, .slice none 0 0, .int .i64 0, .int .i64 0, .int .i64 0, .int .i64 0] 31))) := bt hb1 (al _ _)
  have HWQ : Hid (w.heap.size ≤ w1.heap.size) := hb1.size
  clear hb1 pl0 p0 p1 p2 p3 p4 p5 pf
  generalize w1.heap.size = q at HSB HWQ ⊢
  generalize World.alloc w1 _ = X at HSB HBX ⊢
  have HGQ : Hid (g < q) := Nat.lt_of_lt_of_le HRW.out.pq.lt HWQ.out
  obtain ⟨pl0, p0, p1, p2, p3, p4, p5, pf⟩ := (HRW.out.below HBX.out).pq
  obtain ⟨sl, s0, s1, s2, s3, s4, s5, s6, s7, s8, sfr⟩ := HSB.out
  go_quiet (fail)
  replace HSB := Lib.hid (HSB.out.drewN nq)
  replace HBX := Lib.hid (qdrN HBX.out nq)
  clear pl0 p0 p1 p2 p3 p4 p5 pf sl s0 s1 s2 s3 s4 s5 s6 s7 s8 sfr
  generalize World.drewN _ _ = X at HSB HBX ⊢
  obtain ⟨pl0, p0, p1, p2, p3, p4, p5, pf⟩ := (HRW.out.below HBX.out).pq
  obtain ⟨sl, s0, s1, s2, s3, s4, s5, s6, s7, s8, sfr⟩ := HSB.out
  have sf8 := sfr 8
  have hpos := HPOS.out X (Keep.of HBX.out)
  rw [HPA.out] at hpos
  go_upto_region 3 with fail
  go_region
  have HSX := Lib.hid ((HSB.out.setPos P).keep (g := q + 1) (Keep.refl (q + 1) _).drew (Nat.ne_of_lt (Nat.lt_succ_self q)))
  have HKX := Lib.hid (((Keep.of (g := g) HBX.out).above HWQ.out 8 (.int .i64 P)).drew)
  have HPX := Lib.hid (((HRW.out.below HBX.out).pq.other (j := 8) (u := .int .i64 P) (Nat.ne_of_lt HGQ.out)).drew)
  clear pl0 p0 p1 p2 p3 p4 p5 pf sl s0 s1 s2 s3 s4 s5 s6 s7 s8 sfr sf8 hpos HSB HBX
  generalize World.drew _ = X at HSX HKX HPX ⊢
  obtain ⟨pl0, p0, p1, p2, p3, p4, p5, pf⟩ := HPX.out
  obtain ⟨sl, s0, s1, s2, s3, s4, s5, s6, s7, s8, sfr⟩ := HSX.out
  have HII : Hid (i + 1 ≤ 1000000) := by have := HIN.out; show _ ≤ _; omega
  have him : (i : Int) ≤ 1000000 := by have := HIN.out; omega
  have pf1 := pf 1
  go_upto_region 8 with fail
  rw [show (i : Int) + 1 = ((i + 1 : Nat) : Int) by omega]
  have HPY : Hid (PS (n : Int) (X.setCell ⟨g, 1, none⟩ (.int .i64 ((i + 1 : Nat) : Int))) g _ ((i + 1 : Nat) : Int) 0 p _) := HPX.out.set1 _
  have HSY := Lib.hid (HSX.out.keep ((Keep.refl g X).set 1 (.int .i64 ((i + 1 : Nat) : Int))) (Nat.ne_of_gt HGQ.out))
  have HKY := Lib.hid (HKX.out.trans ((Keep.refl g X).set 1 (.int .i64 ((i + 1 : Nat) : Int))))
  clear pl0 p0 p1 p2 p3 p4 p5 pf sl s0 s1 s2 s3 s4 s5 s6 s7 s8 sfr pf1 him HPX HSX HKX
  generalize World.setCell X _ _ = Y at HPY HSY HKY ⊢
  obtain ⟨pl0, p0, p1, p2, p3, p4, p5, pf⟩ := HPY.out
  obtain ⟨sl, s0, s1, s2, s3, s4, s5, s6, s7, s8, sfr⟩ := HSY.out
  go_upto_region 10 with (first
    | (go_at_call 22; (with_reducible refine (HHAS.out _).mono ?_); rintro r w3 ⟨rfl, hb3⟩)
    | (go_at_call 76; (with_reducible refine (HTRIM.out _).mono ?_); rintro r w4 ⟨rfl, rfl⟩))
  have HWX : Hid (WX (n : Int) l g _ _ w3 q w3 ⟨{ zeroS with kind := 11, pos := P }, (i + 1), 0, p⟩ (.slice none 0 0) (.slice none 0 0)) :=
    ⟨HPY.out.below hb3, HSY.out.below hb3, ⟨Sl.nil _ _ _, Unf.nil _ _ _⟩, ⟨Sl.nil _ _ _, Unf.nil _ _ _⟩, fresh_nil _ _ _, fresh_nil _ _ _, (HRW.out.ctx.keep HKY.out HRW.out.pq.lt).keep (Keep.of hb3) HPY.out.lt, Keep2.refl _ _ _, (HSY.out.below hb3).lt, HGQ.out, HII.out⟩
  have HK0 := Lib.hid (HKY.out.trans (Keep.of hb3))
  obtain ⟨R0, HR0⟩ : ∃ R0, Hid (runS l ⟨{ zeroS with kind := 11, pos := P }, (i + 1), 0, p⟩ (opsS 11) = R0) := ⟨_, rfl⟩
  clear pl0 p0 p1 p2 p3 p4 p5 pf sl s0 s1 s2 s3 s4 s5 s6 s7 s8 sfr HPY HSY HKY hb3 HHAS HTRIM
  go_loopw [68] (fun b wr => ∃ j : Nat, j ≤ S.size ∧ b = .int .i64 j ∧ ∃ σ ev fv, WX (n : Int) l g (.slice (some ⟨bt0, offt, none⟩) l.length c) (.slice Ao pl.length co) w3 q wr σ ev fv ∧ runS l σ (opsOf2 ((lettS 11).drop j) j) = R0) (fun b _ => S.size - (intOf b).toNat)
  case atStart => exact ⟨0, Nat.zero_le _, rfl, _, _, _, HWX.out, HR0.out⟩
  case round =>
    obtain ⟨j, hjs, rfl, σ, ev, fv, hwx, hrun⟩ := hrel
    have HWJ := Lib.hid hwx
    have HRJ := Lib.hid hrun
    clear hwx hrun
    by_cases hlt : j < S.size
    · obtain ⟨hj2, hgj⟩ := HGET.out j hlt
      have HGJ := Lib.hid hgj
      have HJ2 := Lib.hid hj2
      have HLJ : Hid (S[j] = 114 ∨ S[j] = 110 ∨ S[j] = 101 ∨ S[j] = 102 ∨ S[j] = 107) := by show _ ∨ _; rw [hgj]; exact (lett_in 11 (by decide) _ (List.getElem_mem hj2)).2
      clear hgj
      have hjb : (j : Int) ≤ 4 := by have := lett_len 11 (by decide); omega
      go_wp2_with (go_at_call 77; refine (part_c l hl htx g q _ _ w3 _ σ ev fv S[j] HLJ.out j HWJ.out).mono ?_; rintro r w5 ⟨rfl, ev', fv', hwx'⟩)
      go_roundw
      case rel => exact ⟨j + 1, by omega, by go_num, _, ev', fv', hwx', by rw [HGJ.out, run_letter l σ _ j HJ2.out]; exact HRJ.out⟩
      case measure => simp only [intOf]; omega
    · obtain rfl : j = S.size := by omega
      have hR : σ = R0 := by
        have := HRJ.out
        rw [HLEN.out, List.drop_length] at this
        exact this
      subst hR
      obtain ⟨x, j, e1, p1⟩ := σ
      have HRUN : Hid (runS l ⟨{ zeroS with kind := (11 : Nat), pos := P }, if (11 : Nat) = 1 then i else i + 1, 0, p⟩ (opsS 11) = ⟨x, j, e1, p1⟩) := by rw [if_neg (by decide)]; exact HR0.out
      have HOX := Lib.hid (oxp_new HRW.out HK0.out HWQ.out HWJ.out rfl (by
        have := run_mono l (opsS 11) ⟨{ zeroS with kind := 11, pos := P }, (i + 1), 0, p⟩
        rw [HR0.out] at this
        exact Nat.le_trans (Nat.le_succ i) this) (fun he => part_lt HRUN.out he))
      obtain ⟨A1, c1, rfl, _⟩ := HWJ.out.ne.shape
      obtain ⟨A2, c2, rfl, _⟩ := HWJ.out.nf.shape
      clear hlt hjs HWX HRJ HWJ HR0 HGET HLEN HK0
      generalize wr = X at HOX ⊢
      obtain ⟨pl0, p0, p1', p2, p3, p4, p5, pf⟩ := HOX.out.pq
      obtain ⟨bl, b0, b1, b2, b3, b4, b5, b6, b7, b8, bfr⟩ := HOX.out.sb
      go_upto_region 14 with fail
      have HT2 : Hid (pl.length + 1 ≤ maxLen ∧ (pl.length + 1) * 120 ≤ 140737488355328) := by have := HRW.out.n1; have := HRW.out.im; show _ ∧ _; unfold maxLen; constructor <;> omega
      have HGS : Hid (g + 1 ≤ X.heap.size) := HOX.out.pq.lt
      have hca := ((al X (.cells #[.int .i64 x.kind, .string (str x.reg), .string (str x.name), .slice A1 x.e.length c1, .slice A2 x.f.length c2, .int .i64 x.n, .int .i64 x.body, .int .i64 x.els, .int .i64 x.pos] 31)).cell (p := ⟨g, 5, none⟩) HOX.out.pq.lt).trans p5
      go_region_law
        ((refine step_append_lies _ (by rfl) _ _ _ (by rfl) (g + 1) 31 i0 _ 9 120 Tryz.underlying24 hi0 hz0 hz1 hz2 rfl (by decide) (.slice Ao pl.length co) pl.length (pl.flatMap Sv.cells) (by rfl) (HOX.out.row.below (bt (al X _) (qdr (Below.refl _ _)))).own ⟨X.heap.size, 0, none⟩ 1 1 (Sv.cells ⟨x, .slice A1 x.e.length c1, .slice A2 x.f.length c2⟩) (by rfl) (by rfl) (World.news_of_block (cs := #[.int .i64 x.kind, .string (str x.reg), .string (str x.name), .slice A1 x.e.length c1, .slice A2 x.f.length c2, .int .i64 x.n, .int .i64 x.body, .int .i64 x.els, .int .i64 x.pos]) (t := 31) (fr := (0, 0)) (heap_alloc_new X _)) (by simp [Sv.cells, Value.oneCell']) (by decide) HT2.out.1 HT2.out.2 (Nat.le_trans HGS.out (al X _).size) (X.heap.size + 1) (by simp) ?_; intro gg cap wa hown hgrow hat hlt; have HPG := (HOX.out.pq.below (bt (al X _) (qdr (Below.refl _ _)))).grown hgrow (fun e => by have := (HOX.out.row.own.lt g e).1; omega); have a5 := HPG.c5; have af := HPG.fr 5))
      all_goals
        have HAP := Lib.hid (one_apP (x := ⟨x, .slice A1 x.e.length c1, .slice A2 x.f.length c2⟩) HOX.out.pq HOX.out.row HOX.out.ctx ⟨.inl HOX.out.tg, fun k hk => hk.elim (fun h => Nat.lt_of_lt_of_le (HOX.out.tl k h) HOX.out.kp.size) (fun h => by subst h; exact HOX.out.sb.lt)⟩ HOX.out.off (bt (al X _) (qdr (Below.refl _ _))) (by simpa using hown) hgrow (by
          rcases hat with e | e
          · exact .inl e.symm
          · refine .inr ?_
            show some gg = some _
            rw [e]; simp) HOX.out.n1 HOX.out.n0 HOX.out.im)
        have HRY := Lib.hid HAP.out.1
        have HKY := Lib.hid ((KR.of _ HOX.out.kp).trans HAP.out.2)
        have HSY := Lib.hid (HOX.out.sb.kr HAP.out.2 (fun e => by have := HOX.out.hq; have := HRW.out.pq.lt; omega) HOX.out.own)
        have HQN := Lib.hid (HAP.out.2.ne HOX.out.sb.lt HOX.out.own)
        clear HAP hown hgrow hat hlt HPG a5 af hca HOX HT2 HGS pl0 p0 p1' p2 p3 p4 p5 pf bl b0 b1 b2 b3 b4 b5 b6 b7 b8 bfr
        generalize World.setCell wa _ _ = Y at HRY HKY HSY ⊢
        have hn9 : (n : Int) ≤ 100 := by omega
        have hn0 : (0 : Int) ≤ (n : Int) := Int.natCast_nonneg _
        have hd12 : (d : Int) ≤ 12 := by omega
        have HX0 := Lib.hid (run_body HRUN.out)
        obtain ⟨yl, y0, y1, y2, y3, y4, y5, yf⟩ := HRY.out.pq
        obtain ⟨sl, s0, s1, s2, s3, s4, s5, s6, s7, s8, sfr⟩ := HSY.out
        have HXK : Hid (x.kind = 11) := by
          have hc := run_kind HRUN.out
          exact hc
        rw [HXK.out] at s0
        have HBT : Hid (∀ u, Calls Tryz.prog 61 #[.bool false] u fun e w' => e = .returned (.int .i64 0) ∧ w' = u) := fun u => (boolP_c false u).mono (fun e w' h => ⟨h.1, h.2.symm⟩)
        go_upto_region 17 with fail
        by_cases he1 : e1 = 0
        · subst he1
          have hnw : IntKind.i64.wrap ((n : Int)) = (n : Int) := IntWalk.i64_in _ (by omega)
          have hnw2 : (n : Int) + 0 = (n : Int) := by omega
          go_still_tail 9, (by kernel_rfl)
          still_call (HBT.out _)
          repeat still_step
          refine wpStill_nil ?_
          change wpList _ _ _ _ _ (World.drew Y)
          replace HRY := Lib.hid (HRY.out.below (qdr (Below.refl _ _)))
          replace HSY := Lib.hid (HSY.out.keep (g := q + 1) (Keep.refl (q + 1) _).drew (Nat.ne_of_lt (Nat.lt_succ_self q)))
          replace HKY := Lib.hid HKY.out.drew
          clear yl y0 y1 y2 y3 y4 y5 yf sl s0 s1 s2 s3 s4 s5 s6 s7 s8 sfr
          generalize World.drew Y = Z at HRY HSY HKY ⊢
          obtain ⟨yl, y0, y1, y2, y3, y4, y5, yf⟩ := HRY.out.pq
          have yf2 := yf 2
          go_upto_region 18 with fail
          replace HSY := Lib.hid (HSY.out.keep ((Keep.refl g Z).set 2 (.int .i64 (n : Int))) (Nat.ne_of_gt HGQ.out))
          replace HKY := Lib.hid (HKY.out.trans (KR.of _ ((Keep.refl g Z).set 2 (.int .i64 (n : Int)))))
          have HRYn := Lib.hid (HRY.out.set2 (n : Int))
          clear yl y0 y1 y2 y3 y4 y5 yf yf2 hnw hnw2 HRY
          generalize World.setCell Z _ _ = Z at HRYn HSY HKY ⊢
          obtain ⟨yl, y0, y1, y2, y3, y4, y5, yf⟩ := HRYn.out.pq
          go_upto_region 19 with (go_at_call 27; refine (bpk_ok HBB.out (n := n) (by omega) (by omega) (by omega) HRYn.out).mono ?_; rintro r w2 ⟨j2, e2, p2, o2, pl2, rfl, hr2, hk2, hb2⟩)
          have HB2 := Lib.hid hb2
          have HRZ := Lib.hid hr2
          have HSZ := Lib.hid (HSY.out.kr hk2 (Nat.ne_of_gt HGQ.out) HQN.out)
          have HKZ := Lib.hid (HKY.out.trans hk2)
          have HQZ := Lib.hid (hk2.ne HSY.out.lt HQN.out)
          clear yl y0 y1 y2 y3 y4 y5 yf hr2 hk2 hb2 HSY HKY HRYn
          obtain ⟨yl, y0, y1, y2, y3, y4, y5, yf⟩ := HRZ.out.pq
          obtain ⟨sl, s0, s1, s2, s3, s4, s5, s6, s7, s8, sfr⟩ := HSZ.out
          rw [HXK.out] at s0
          have hnw : IntKind.i64.wrap ((n : Int)) = (n : Int) := IntWalk.i64_in _ (by omega)
          have hnw2 : (n : Int) - 0 = (n : Int) := by omega
          go_still_tail 9, (by kernel_rfl)
          still_call (HBT.out _)
          repeat still_step
          refine wpStill_nil ?_
          change wpList _ _ _ _ _ (World.drew w2)
          replace HRZ := Lib.hid (HRZ.out.below (qdr (Below.refl _ _)))
          replace HSZ := Lib.hid (HSZ.out.keep (g := q + 1) (Keep.refl (q + 1) _).drew (Nat.ne_of_lt (Nat.lt_succ_self q)))
          replace HKZ := Lib.hid HKZ.out.drew
          clear yl y0 y1 y2 y3 y4 y5 yf sl s0 s1 s2 s3 s4 s5 s6 s7 s8 sfr
          generalize World.drew w2 = Z at HRZ HSZ HKZ ⊢
          obtain ⟨yl, y0, y1, y2, y3, y4, y5, yf⟩ := HRZ.out.pq
          have yf2 := yf 2
          go_upto_region 20 with fail
          replace HSZ := Lib.hid (HSZ.out.keep ((Keep.refl g Z).set 2 (.int .i64 (n : Int))) (Nat.ne_of_gt HGQ.out))
          replace HKZ := Lib.hid (HKZ.out.trans (KR.of _ ((Keep.refl g Z).set 2 (.int .i64 (n : Int)))))
          have HRZn := Lib.hid (HRZ.out.set2 (n : Int))
          clear yl y0 y1 y2 y3 y4 y5 yf yf2 hnw hnw2 HRZ
          generalize World.setCell Z _ _ = Z at HRZn HSZ HKZ ⊢
          obtain ⟨zl, z0, z1, z2, z3, z4, z5, zf⟩ := HRZn.out.pq
          obtain ⟨sl, s0, s1, s2, s3, s4, s5, s6, s7, s8, sfr⟩ := HSZ.out
          rw [HXK.out] at s0
          go_upto_region 21 with fail
          by_cases he2 : e2 = 0
          · subst he2
            cases hi : isE l j2 wElse
            · have HIS2 : Hid (∀ u, Below Z.heap.size Z u → Calls Tryz.prog 50 #[.slice (some ⟨bt0, offt, none⟩) l.length c, .int .i64 j2, .string (str wElse)] u fun r w' => r = .returned (.bool false) ∧ u = w') := fun u hu => by
                have hh := is_c l (by omega) j2 wElse _ u ((HRZn.out.below hu).ctx.now (HRZn.out.below hu).pq.lt)
                unfold IsPost at hh
                rw [hi] at hh
                exact hh
              have HI2 := Lib.hid hi
              clear hi
              go_quiet (first | (go_at_call 50; refine (HIS2.out _ ?_).mono ?_; (repeat (first | exact Below.refl _ _ | refine qdrN ?_ _ | refine qdr ?_)); rintro e w' ⟨he, hw⟩; exact ⟨he, _, hw.symm⟩))
              replace HRZn := Lib.hid (HRZn.out.drewN nq)
              replace HKZ := Lib.hid (HKZ.out.drewN nq)
              clear zl z0 z1 z2 z3 z4 z5 zf sl s0 s1 s2 s3 s4 s5 s6 s7 s8 sfr
              generalize World.drewN _ _ = Z at HRZn HKZ ⊢
              go_upto_region 24 with fail
              obtain ⟨gg2, cap2, rfl, hog2, hcl2⟩ := own_some HRZn.out.row.own (by simp only [List.length_append, List.length_cons, List.length_nil]; omega)
              have HG2 := Lib.hid hog2
              have hgm : ∀ m, m < 9 → ∀ u, (Sv.cells ⟨x, .slice A1 x.e.length c1, .slice A2 x.f.length c2⟩)[m]? = some u → Z.cell? ⟨gg2, pl.length * 9 + m, none⟩ = some u := fun m hm u hu => hcl2 _ _ (by
                have := flat_getElem Sv.cells 9 Sv.cells_len (pl ++ [(⟨x, .slice A1 x.e.length c1, .slice A2 x.f.length c2⟩ : Sv)] ++ pl2) pl.length m (by simp only [List.length_append, List.length_cons, List.length_nil]; omega) hm
                rw [this]; simpa using hu)
              have k6 := hgm 6 (by decide) _ rfl
              have k7 := hgm 7 (by decide) _ rfl
              have kfr := (Unf.own HRZn.out.row.own ⟨gg2, 0, none⟩ _ _ rfl).2
              have HKL : Hid (pl.length < (pl ++ [(⟨x, .slice A1 x.e.length c1, .slice A2 x.f.length c2⟩ : Sv)] ++ pl2).length) := by show _ < _; simp only [List.length_append, List.length_cons, List.length_nil]; omega
              have hkl : (pl.length : Int) < ((pl ++ [(⟨x, .slice A1 x.e.length c1, .slice A2 x.f.length c2⟩ : Sv)] ++ pl2).length : Nat) := by have := HKL.out; omega
              have hkl2 : pl.length < (pl ++ [(⟨x, .slice A1 x.e.length c1, .slice A2 x.f.length c2⟩ : Sv)] ++ pl2).length := HKL.out
              obtain ⟨zl, z0, z1, z2, z3, z4, z5, zf⟩ := HRZn.out.pq
              clear hgm hcl2 hog2
              generalize hN : (pl ++ [(⟨x, .slice A1 x.e.length c1, .slice A2 x.f.length c2⟩ : Sv)] ++ pl2).length = N at z5 hkl hkl2
              have HN := Lib.hid hN
              clear hN
              go_region
              first | refine bodyPost_end (results_none rfl _ _ _) rfl ?_ | refine bodyPost_ret (results_none rfl _ _ _) rfl ?_
              have HPT := one_puP HRZn.out HG2.out pl.length HKL.out ((pl2.length : Nat) : Int) (0 : Int)
              have HPE : (pl ++ [(⟨x, .slice A1 x.e.length c1, .slice A2 x.f.length c2⟩ : Sv)] ++ pl2).set pl.length ⟨{ ((pl ++ [(⟨x, .slice A1 x.e.length c1, .slice A2 x.f.length c2⟩ : Sv)] ++ pl2)[pl.length]'HKL.out).s with body := ((pl2.length : Nat) : Int), els := (0 : Int) }, ((pl ++ [(⟨x, .slice A1 x.e.length c1, .slice A2 x.f.length c2⟩ : Sv)] ++ pl2)[pl.length]'HKL.out).ev, ((pl ++ [(⟨x, .slice A1 x.e.length c1, .slice A2 x.f.length c2⟩ : Sv)] ++ pl2)[pl.length]'HKL.out).fv⟩ = pl ++ (⟨{ x with body := ((pl2.length : Nat) : Int), els := (0 : Int) }, .slice A1 x.e.length c1, .slice A2 x.f.length c2⟩ :: (pl2)) := by
                have hq : (pl ++ [(⟨x, .slice A1 x.e.length c1, .slice A2 x.f.length c2⟩ : Sv)] ++ pl2)[pl.length]'HKL.out = ⟨x, .slice A1 x.e.length c1, .slice A2 x.f.length c2⟩ := by simp
                rw [hq]
                simp only [List.append_assoc, List.cons_append, List.nil_append, set_mid]
              rw [HPE] at HPT
              have hxe : ({ x with body := ((pl2.length : Nat) : Int), els := 0 } : St) = { x with body := ((pl2.length : Nat) : Int) } := by
                have h0 := HX0.out.2
                cases x
                simp only at h0
                subst h0
                rfl
              rw [hxe] at HPT
              exact ⟨_, _, _, _, _ :: pl2, rfl, (HPT.1.below (qdr (Below.refl _ _))).mono (fun k hk => .inl hk) HRW.out.tg, (HKZ.out.trans HPT.2).drew, one_ifb HRUN.out rfl HB2.out (fun h => by rw [HI2.out] at h; exact absurd h.2 (by decide))⟩
            · have HIS2 : Hid (∀ u, Below Z.heap.size Z u → Calls Tryz.prog 50 #[.slice (some ⟨bt0, offt, none⟩) l.length c, .int .i64 j2, .string (str wElse)] u fun r w' => r = .returned (.bool true) ∧ u = w') := fun u hu => by
                have hh := is_c l (by omega) j2 wElse _ u ((HRZn.out.below hu).ctx.now (HRZn.out.below hu).pq.lt)
                unfold IsPost at hh
                rw [hi] at hh
                exact hh
              have HI2 := Lib.hid hi
              clear hi
              go_quiet (first | (go_at_call 50; refine (HIS2.out _ ?_).mono ?_; (repeat (first | exact Below.refl _ _ | refine qdrN ?_ _ | refine qdr ?_)); rintro e w' ⟨he, hw⟩; exact ⟨he, _, hw.symm⟩))
              replace HRZn := Lib.hid (HRZn.out.drewN nq)
              replace HKZ := Lib.hid (HKZ.out.drewN nq)
              clear zl z0 z1 z2 z3 z4 z5 zf sl s0 s1 s2 s3 s4 s5 s6 s7 s8 sfr
              generalize World.drewN _ _ = Z at HRZn HKZ ⊢
              have HJ2 : Hid (j2 + 1 ≤ 1000000) := by have := isE_lt HI2.out; show _ ≤ _; omega
              have hj2 : (j2 : Int) ≤ 1000000 := by have := HJ2.out; omega
              obtain ⟨zl, z0, z1, z2, z3, z4, z5, zf⟩ := HRZn.out.pq
              have zf1 := zf 1
              go_upto_region 23 with fail
              rw [show (j2 : Int) + 1 = ((j2 + 1 : Nat) : Int) by omega]
              have hkg := (Keep.refl g Z).set 1 (.int .i64 ((j2 + 1 : Nat) : Int))
              have HRV := Lib.hid (HRZn.out.keep hkg (HRZn.out.pq.set1 ((j2 + 1 : Nat) : Int)) (Nat.le_succ _) HJ2.out id)
              have H11 := Lib.hid (HKZ.out.trans (KR.of _ hkg))
              clear zl z0 z1 z2 z3 z4 z5 zf zf1 hkg hj2 HRZn HKZ
              generalize World.setCell Z _ _ = V at HRV H11 ⊢
              obtain ⟨zl, z0, z1, z2, z3, z4, z5, zf⟩ := HRV.out.pq
              go_upto_region 24 with (go_at_call 27; refine (bpk_ok HBB.out (n := n) (by omega) (by omega) (by omega) HRV.out).mono ?_; rintro r w3 ⟨j3, e3, p3, o3, pl3, rfl, hr3, hk3, hb3⟩)
              have HB3 := Lib.hid hb3
              have HRZn := Lib.hid hr3
              have HKZ := Lib.hid (H11.out.trans hk3)
              clear zl z0 z1 z2 z3 z4 z5 zf hr3 hk3 hb3
              obtain ⟨Z, hZ⟩ : ∃ Z, w3 = Z := ⟨_, rfl⟩
              subst hZ
              obtain ⟨gg2, cap2, rfl, hog2, hcl2⟩ := own_some HRZn.out.row.own (by simp only [List.length_append, List.length_cons, List.length_nil]; omega)
              have HG2 := Lib.hid hog2
              have hgm : ∀ m, m < 9 → ∀ u, (Sv.cells ⟨x, .slice A1 x.e.length c1, .slice A2 x.f.length c2⟩)[m]? = some u → w3.cell? ⟨gg2, pl.length * 9 + m, none⟩ = some u := fun m hm u hu => hcl2 _ _ (by
                have := flat_getElem Sv.cells 9 Sv.cells_len (pl ++ [(⟨x, .slice A1 x.e.length c1, .slice A2 x.f.length c2⟩ : Sv)] ++ pl2 ++ pl3) pl.length m (by simp only [List.length_append, List.length_cons, List.length_nil]; omega) hm
                rw [this]; simpa using hu)
              have k6 := hgm 6 (by decide) _ rfl
              have k7 := hgm 7 (by decide) _ rfl
              have kfr := (Unf.own HRZn.out.row.own ⟨gg2, 0, none⟩ _ _ rfl).2
              have HKL : Hid (pl.length < (pl ++ [(⟨x, .slice A1 x.e.length c1, .slice A2 x.f.length c2⟩ : Sv)] ++ pl2 ++ pl3).length) := by show _ < _; simp only [List.length_append, List.length_cons, List.length_nil]; omega
              have hkl : (pl.length : Int) < ((pl ++ [(⟨x, .slice A1 x.e.length c1, .slice A2 x.f.length c2⟩ : Sv)] ++ pl2 ++ pl3).length : Nat) := by have := HKL.out; omega
              have hkl2 : pl.length < (pl ++ [(⟨x, .slice A1 x.e.length c1, .slice A2 x.f.length c2⟩ : Sv)] ++ pl2 ++ pl3).length := HKL.out
              obtain ⟨zl, z0, z1, z2, z3, z4, z5, zf⟩ := HRZn.out.pq
              clear hgm hcl2 hog2
              generalize hN : (pl ++ [(⟨x, .slice A1 x.e.length c1, .slice A2 x.f.length c2⟩ : Sv)] ++ pl2 ++ pl3).length = N at z5 hkl hkl2
              have HN := Lib.hid hN
              clear hN
              go_region
              first | refine bodyPost_end (results_none rfl _ _ _) rfl ?_ | refine bodyPost_ret (results_none rfl _ _ _) rfl ?_
              have HPT := one_puP HRZn.out HG2.out pl.length HKL.out ((pl2.length : Nat) : Int) ((pl3.length : Nat) : Int)
              have HPE : (pl ++ [(⟨x, .slice A1 x.e.length c1, .slice A2 x.f.length c2⟩ : Sv)] ++ pl2 ++ pl3).set pl.length ⟨{ ((pl ++ [(⟨x, .slice A1 x.e.length c1, .slice A2 x.f.length c2⟩ : Sv)] ++ pl2 ++ pl3)[pl.length]'HKL.out).s with body := ((pl2.length : Nat) : Int), els := ((pl3.length : Nat) : Int) }, ((pl ++ [(⟨x, .slice A1 x.e.length c1, .slice A2 x.f.length c2⟩ : Sv)] ++ pl2 ++ pl3)[pl.length]'HKL.out).ev, ((pl ++ [(⟨x, .slice A1 x.e.length c1, .slice A2 x.f.length c2⟩ : Sv)] ++ pl2 ++ pl3)[pl.length]'HKL.out).fv⟩ = pl ++ (⟨{ x with body := ((pl2.length : Nat) : Int), els := ((pl3.length : Nat) : Int) }, .slice A1 x.e.length c1, .slice A2 x.f.length c2⟩ :: (pl2 ++ pl3)) := by
                have hq : (pl ++ [(⟨x, .slice A1 x.e.length c1, .slice A2 x.f.length c2⟩ : Sv)] ++ pl2 ++ pl3)[pl.length]'HKL.out = ⟨x, .slice A1 x.e.length c1, .slice A2 x.f.length c2⟩ := by simp
                rw [hq]
                simp only [List.append_assoc, List.cons_append, List.nil_append, set_mid]
              rw [HPE] at HPT
              exact ⟨_, _, _, _, _ :: (pl2 ++ pl3), rfl, (HPT.1.below (qdr (Below.refl _ _))).mono (fun k hk => .inl hk) HRW.out.tg, (HKZ.out.trans HPT.2).drew, one_ife HRUN.out rfl HB2.out rfl HI2.out HB3.out⟩
          · have HE2 := Lib.hid he2
            have heq : (e2 == 0) = false := by simpa using he2
            clear he2
            go_quiet (fail)
            replace HRZn := Lib.hid (HRZn.out.drewN nq)
            replace HKZ := Lib.hid (HKZ.out.drewN nq)
            clear zl z0 z1 z2 z3 z4 z5 zf sl s0 s1 s2 s3 s4 s5 s6 s7 s8 sfr
            generalize World.drewN _ _ = Z at HRZn HKZ ⊢
            go_upto_region 24 with fail
            obtain ⟨gg2, cap2, rfl, hog2, hcl2⟩ := own_some HRZn.out.row.own (by simp only [List.length_append, List.length_cons, List.length_nil]; omega)
            have HG2 := Lib.hid hog2
            have hgm : ∀ m, m < 9 → ∀ u, (Sv.cells ⟨x, .slice A1 x.e.length c1, .slice A2 x.f.length c2⟩)[m]? = some u → Z.cell? ⟨gg2, pl.length * 9 + m, none⟩ = some u := fun m hm u hu => hcl2 _ _ (by
              have := flat_getElem Sv.cells 9 Sv.cells_len (pl ++ [(⟨x, .slice A1 x.e.length c1, .slice A2 x.f.length c2⟩ : Sv)] ++ pl2) pl.length m (by simp only [List.length_append, List.length_cons, List.length_nil]; omega) hm
              rw [this]; simpa using hu)
            have k6 := hgm 6 (by decide) _ rfl
            have k7 := hgm 7 (by decide) _ rfl
            have kfr := (Unf.own HRZn.out.row.own ⟨gg2, 0, none⟩ _ _ rfl).2
            have HKL : Hid (pl.length < (pl ++ [(⟨x, .slice A1 x.e.length c1, .slice A2 x.f.length c2⟩ : Sv)] ++ pl2).length) := by show _ < _; simp only [List.length_append, List.length_cons, List.length_nil]; omega
            have hkl : (pl.length : Int) < ((pl ++ [(⟨x, .slice A1 x.e.length c1, .slice A2 x.f.length c2⟩ : Sv)] ++ pl2).length : Nat) := by have := HKL.out; omega
            have hkl2 : pl.length < (pl ++ [(⟨x, .slice A1 x.e.length c1, .slice A2 x.f.length c2⟩ : Sv)] ++ pl2).length := HKL.out
            obtain ⟨zl, z0, z1, z2, z3, z4, z5, zf⟩ := HRZn.out.pq
            clear hgm hcl2 hog2
            generalize hN : (pl ++ [(⟨x, .slice A1 x.e.length c1, .slice A2 x.f.length c2⟩ : Sv)] ++ pl2).length = N at z5 hkl hkl2
            have HN := Lib.hid hN
            clear hN
            go_region
            first | refine bodyPost_end (results_none rfl _ _ _) rfl ?_ | refine bodyPost_ret (results_none rfl _ _ _) rfl ?_
            have HPT := one_puP HRZn.out HG2.out pl.length HKL.out ((pl2.length : Nat) : Int) (0 : Int)
            have HPE : (pl ++ [(⟨x, .slice A1 x.e.length c1, .slice A2 x.f.length c2⟩ : Sv)] ++ pl2).set pl.length ⟨{ ((pl ++ [(⟨x, .slice A1 x.e.length c1, .slice A2 x.f.length c2⟩ : Sv)] ++ pl2)[pl.length]'HKL.out).s with body := ((pl2.length : Nat) : Int), els := (0 : Int) }, ((pl ++ [(⟨x, .slice A1 x.e.length c1, .slice A2 x.f.length c2⟩ : Sv)] ++ pl2)[pl.length]'HKL.out).ev, ((pl ++ [(⟨x, .slice A1 x.e.length c1, .slice A2 x.f.length c2⟩ : Sv)] ++ pl2)[pl.length]'HKL.out).fv⟩ = pl ++ (⟨{ x with body := ((pl2.length : Nat) : Int), els := (0 : Int) }, .slice A1 x.e.length c1, .slice A2 x.f.length c2⟩ :: (pl2)) := by
              have hq : (pl ++ [(⟨x, .slice A1 x.e.length c1, .slice A2 x.f.length c2⟩ : Sv)] ++ pl2)[pl.length]'HKL.out = ⟨x, .slice A1 x.e.length c1, .slice A2 x.f.length c2⟩ := by simp
              rw [hq]
              simp only [List.append_assoc, List.cons_append, List.nil_append, set_mid]
            rw [HPE] at HPT
            have hxe : ({ x with body := ((pl2.length : Nat) : Int), els := 0 } : St) = { x with body := ((pl2.length : Nat) : Int) } := by
              have h0 := HX0.out.2
              cases x
              simp only at h0
              subst h0
              rfl
            rw [hxe] at HPT
            exact ⟨_, _, _, _, _ :: pl2, rfl, (HPT.1.below (qdr (Below.refl _ _))).mono (fun k hk => .inl hk) HRW.out.tg, (HKZ.out.trans HPT.2).drew, one_ifb HRUN.out rfl HB2.out (fun h => HE2.out h.1)⟩
        · have HE1 := Lib.hid he1
          have heq : (e1 == 0) = false := by simpa using he1
          clear he1
          have hnw : IntKind.i64.wrap ((n : Int)) = (n : Int) := IntWalk.i64_in _ (by omega)
          have hnw2 : (n : Int) + 0 = (n : Int) := by omega
          go_still_tail 9, (by kernel_rfl)
          still_call (HBT.out _)
          repeat still_step
          refine wpStill_nil ?_
          change wpList _ _ _ _ _ (World.drew Y)
          replace HRY := Lib.hid (HRY.out.below (qdr (Below.refl _ _)))
          replace HSY := Lib.hid (HSY.out.keep (g := q + 1) (Keep.refl (q + 1) _).drew (Nat.ne_of_lt (Nat.lt_succ_self q)))
          replace HKY := Lib.hid HKY.out.drew
          clear yl y0 y1 y2 y3 y4 y5 yf sl s0 s1 s2 s3 s4 s5 s6 s7 s8 sfr
          generalize World.drew Y = Z at HRY HSY HKY ⊢
          obtain ⟨yl, y0, y1, y2, y3, y4, y5, yf⟩ := HRY.out.pq
          have yf2 := yf 2
          go_upto_region 18 with fail
          replace HSY := Lib.hid (HSY.out.keep ((Keep.refl g Z).set 2 (.int .i64 (n : Int))) (Nat.ne_of_gt HGQ.out))
          replace HKY := Lib.hid (HKY.out.trans (KR.of _ ((Keep.refl g Z).set 2 (.int .i64 (n : Int)))))
          have HRYn := Lib.hid (HRY.out.set2 (n : Int))
          clear yl y0 y1 y2 y3 y4 y5 yf yf2 hnw hnw2 HRY
          generalize World.setCell Z _ _ = Z at HRYn HSY HKY ⊢
          obtain ⟨yl, y0, y1, y2, y3, y4, y5, yf⟩ := HRYn.out.pq
          go_upto_region 19 with (go_at_call 27; refine (bpk_no HBB.out (n := n) (by omega) (by omega) (by omega) HE1.out HRYn.out).mono ?_; rintro r w2 ⟨rfl, hk2', hr2⟩; have hk2 := KR.of (.slice (some ⟨gg, 0, none⟩) (pl.length + 1) cap) hk2')
          have HRZ := Lib.hid hr2
          have HSZ := Lib.hid (HSY.out.kr hk2 (Nat.ne_of_gt HGQ.out) HQN.out)
          have HKZ := Lib.hid (HKY.out.trans hk2)
          have HQZ := Lib.hid (hk2.ne HSY.out.lt HQN.out)
          clear yl y0 y1 y2 y3 y4 y5 yf hr2 hk2 hk2' HSY HKY HRYn
          obtain ⟨yl, y0, y1, y2, y3, y4, y5, yf⟩ := HRZ.out.pq
          obtain ⟨sl, s0, s1, s2, s3, s4, s5, s6, s7, s8, sfr⟩ := HSZ.out
          rw [HXK.out] at s0
          have hnw : IntKind.i64.wrap ((n : Int)) = (n : Int) := IntWalk.i64_in _ (by omega)
          have hnw2 : (n : Int) - 0 = (n : Int) := by omega
          go_still_tail 9, (by kernel_rfl)
          still_call (HBT.out _)
          repeat still_step
          refine wpStill_nil ?_
          change wpList _ _ _ _ _ (World.drew w2)
          replace HRZ := Lib.hid (HRZ.out.below (qdr (Below.refl _ _)))
          replace HSZ := Lib.hid (HSZ.out.keep (g := q + 1) (Keep.refl (q + 1) _).drew (Nat.ne_of_lt (Nat.lt_succ_self q)))
          replace HKZ := Lib.hid HKZ.out.drew
          clear yl y0 y1 y2 y3 y4 y5 yf sl s0 s1 s2 s3 s4 s5 s6 s7 s8 sfr
          generalize World.drew w2 = Z at HRZ HSZ HKZ ⊢
          obtain ⟨yl, y0, y1, y2, y3, y4, y5, yf⟩ := HRZ.out.pq
          have yf2 := yf 2
          go_upto_region 20 with fail
          replace HSZ := Lib.hid (HSZ.out.keep ((Keep.refl g Z).set 2 (.int .i64 (n : Int))) (Nat.ne_of_gt HGQ.out))
          replace HKZ := Lib.hid (HKZ.out.trans (KR.of _ ((Keep.refl g Z).set 2 (.int .i64 (n : Int)))))
          have HRZn := Lib.hid (HRZ.out.set2 (n : Int))
          clear yl y0 y1 y2 y3 y4 y5 yf yf2 hnw hnw2 HRZ
          generalize World.setCell Z _ _ = Z at HRZn HSZ HKZ ⊢
          obtain ⟨zl, z0, z1, z2, z3, z4, z5, zf⟩ := HRZn.out.pq
          obtain ⟨sl, s0, s1, s2, s3, s4, s5, s6, s7, s8, sfr⟩ := HSZ.out
          rw [HXK.out] at s0
          go_upto_region 21 with fail
          go_quiet (fail)
          replace HRZn := Lib.hid (HRZn.out.drewN nq)
          replace HKZ := Lib.hid (HKZ.out.drewN nq)
          clear zl z0 z1 z2 z3 z4 z5 zf sl s0 s1 s2 s3 s4 s5 s6 s7 s8 sfr
          generalize World.drewN _ _ = Z at HRZn HKZ ⊢
          go_upto_region 24 with fail
          obtain ⟨gg2, cap2, hv2, hog2, hcl2⟩ := own_some HRZn.out.row.own (by simp only [List.length_append, List.length_cons, List.length_nil]; omega)
          obtain rfl : gg2 = gg := by injection hv2 with e1; injection e1 with e1; injection e1 with e1; exact e1.symm
          clear hv2
          have HG2 := Lib.hid hog2
          have hgm : ∀ m, m < 9 → ∀ u, (Sv.cells ⟨x, .slice A1 x.e.length c1, .slice A2 x.f.length c2⟩)[m]? = some u → Z.cell? ⟨gg2, pl.length * 9 + m, none⟩ = some u := fun m hm u hu => hcl2 _ _ (by
            have := flat_getElem Sv.cells 9 Sv.cells_len (pl ++ [(⟨x, .slice A1 x.e.length c1, .slice A2 x.f.length c2⟩ : Sv)]) pl.length m (by simp only [List.length_append, List.length_cons, List.length_nil]; omega) hm
            rw [this]; simpa using hu)
          have k6 := hgm 6 (by decide) _ rfl
          have k7 := hgm 7 (by decide) _ rfl
          have kfr := (Unf.own HRZn.out.row.own ⟨gg2, 0, none⟩ _ _ rfl).2
          have HKL : Hid (pl.length < (pl ++ [(⟨x, .slice A1 x.e.length c1, .slice A2 x.f.length c2⟩ : Sv)]).length) := by show _ < _; simp only [List.length_append, List.length_cons, List.length_nil]; omega
          have hkl : (pl.length : Int) < ((pl ++ [(⟨x, .slice A1 x.e.length c1, .slice A2 x.f.length c2⟩ : Sv)]).length : Nat) := by have := HKL.out; omega
          have hkl2 : pl.length < (pl ++ [(⟨x, .slice A1 x.e.length c1, .slice A2 x.f.length c2⟩ : Sv)]).length := HKL.out
          obtain ⟨zl, z0, z1, z2, z3, z4, z5, zf⟩ := HRZn.out.pq
          clear hgm hcl2 hog2
          rw [List.length_append, List.length_cons, List.length_nil] at hkl hkl2
          generalize hN : pl.length + (0 + 1) = N at hkl hkl2
          have hN2 : pl.length + 1 = N := by omega
          rw [hN2] at z5
          have HN := Lib.hid hN2
          clear hN hN2
          go_region
          first | refine bodyPost_end (results_none rfl _ _ _) rfl ?_ | refine bodyPost_ret (results_none rfl _ _ _) rfl ?_
          have HPT := one_puP HRZn.out HG2.out pl.length HKL.out (0 : Int) (0 : Int)
          have HPE : (pl ++ [(⟨x, .slice A1 x.e.length c1, .slice A2 x.f.length c2⟩ : Sv)]).set pl.length ⟨{ ((pl ++ [(⟨x, .slice A1 x.e.length c1, .slice A2 x.f.length c2⟩ : Sv)])[pl.length]'HKL.out).s with body := (0 : Int), els := (0 : Int) }, ((pl ++ [(⟨x, .slice A1 x.e.length c1, .slice A2 x.f.length c2⟩ : Sv)])[pl.length]'HKL.out).ev, ((pl ++ [(⟨x, .slice A1 x.e.length c1, .slice A2 x.f.length c2⟩ : Sv)])[pl.length]'HKL.out).fv⟩ = pl ++ (⟨{ x with body := (0 : Int), els := (0 : Int) }, .slice A1 x.e.length c1, .slice A2 x.f.length c2⟩ :: ([])) := by
            have hq : (pl ++ [(⟨x, .slice A1 x.e.length c1, .slice A2 x.f.length c2⟩ : Sv)])[pl.length]'HKL.out = ⟨x, .slice A1 x.e.length c1, .slice A2 x.f.length c2⟩ := by simp
            rw [hq]
            simp only [set_mid]
          rw [HPE] at HPT
          exact ⟨_, _, _, _, _ :: [], rfl, (HPT.1.below (qdr (Below.refl _ _))).mono (fun k hk => .inl hk) HRW.out.tg, (HKZ.out.trans HPT.2).drew, one_wrong (fun h => absurd h.1 (by decide)) HRUN.out HE1.out _ _⟩
end Go.Proofs.YtaoeaaebafcegaaGreatDoor
namespace Go.Proofs.YtaoeaaebafcegaaGreatDoor
open Go Go.RowKit
set_option linter.unusedVariables false
theorem pone_c (l:List Tok) (hl:l.length≤100000) (htx:∀ t∈l,t.text.length≤1000000) (d:Nat) (hd:d≤12) (HB:BlkP l d) (g:Nat) (T:Nat→Prop) (v o:Value) (i:Nat) (p:Int) (pl:List Sv) (n:Nat) (w:World) (hn:n+1+d≤100) (h:RX (n:Int) l g T v o w i 0 p pl) :
 Calls Tryz.prog 53 #[.pointer (some ⟨g,0,none⟩),.int .i64 (12 - (d:Int))] w (OnePoP (n:Int) l (oneR (blkR l d) (decide (0 < n)) l i) g T v o p pl w):=by
 have hr:=kindAt_range l i
 by_cases h1:kindAt l i=1
 ·by_cases hin:i < l.length
  ·exact pone1i_c l hl htx d hd HB g T v o i p pl n w hn h h1 hin
  ·exact pone1o_c l hl htx d hd HB g T v o i p pl n w hn h h1 (by omega)
 ·have hin:i < l.length:=isE_lt (kindAt_is h1)
  by_cases h11:kindAt l i=11
  ·exact pone11_c l hl htx d hd HB g T v o i p pl n w hn h h11 hin
  ·by_cases h12:kindAt l i=12
   ·exact pone12_c l hl htx d hd HB g T v o i p pl n w hn h h12 hin
   ·by_cases h13:kindAt l i=13
    ·by_cases h0:n=0
     ·exact poneB_c l hl htx d hd HB g T v o i p pl n w hn h h13 hin h0
     ·exact pone13_c l hl htx d hd HB g T v o i p pl n w hn h h13 hin (by rw [beq_eq_false_iff_ne];omega)
    ·exact poneS_c l hl htx d hd HB g T v o i p pl n w hn h (kindAt l i) rfl hin (by omega) hr.2 (by rw [beq_eq_false_iff_ne];omega) (by rw [beq_eq_false_iff_ne];omega) (by rw [beq_eq_false_iff_ne];omega) (by rw [beq_eq_false_iff_ne];omega)
theorem sign_err {n:Nat} (l:List Tok) (hl:l.length≤100000) (s:List UInt8) {g:Nat} {T:Nat→Prop} {v o:Value} {i:Nat} {e p:Int} {pl:List Sv} {w:World} (he:¬ e=0) (h:RX (n:Int) l g T v o w i e p pl) :
 Calls Tryz.prog 52 #[.pointer (some ⟨g,0,none⟩),.string (str s)] w fun r w'=>r = .returned (.tuple #[])∧Keep g w w'∧RX (n:Int) l g T v o w' i e p pl :=
 (psign_c l hl s g v o i (Nat.le_trans h.im (by decide)) e p w h.pq h.ctx).mono (fun r w' hh=>by
   obtain ⟨hr,hk,hp⟩:=hh
   have hm:=mI_err (l:=l) (s:=s) (i:=i) (p:=p) he
   rw [hm.1,hm.2.1,hm.2.2] at hp
   exact ⟨hr,hk,h.keep hk hp (Nat.le_refl _) h.im id⟩)
theorem pblk_err (l:List Tok) (hl:l.length≤100000) (g:Nat) (T:Nat→Prop) (v o:Value) (i:Nat) (e p:Int) (pl:List Sv) (D:Int) (n:Nat) (w:World) (h:RX (n:Int) l g T v o w i e p pl) (he:¬ e=0) :
 Calls Tryz.prog 27 #[.pointer (some ⟨g,0,none⟩),.int .i64 D] w fun z w'=>z = .returned (.int .i64 0)∧Keep g w w'∧RX (n:Int) l g T v o w' i e p pl:=by
 have HRW:=Lib.hid h
 have HE:=Lib.hid he
 have heb:(e == 0)=false:=by simpa using he
 have heb2:(e != 0)=true:=by rw [bne,heb];rfl
 obtain ⟨A,c,hve,hcc⟩:=(h.ctx.now h.pq.lt).shape
 subst hve
 obtain ⟨Ao,co,hoe⟩:=own_shape h.row.own
 subst hoe
 obtain ⟨pl0,p0,p1,p2,p3,p4,p5,pf⟩:=h.pq
 clear h he
 go_enter Tryz.func27,Tryz.ntmps27
 go_upto_region 2 with fail
 go_quiet (fail)
 have HR1:=Lib.hid (HRW.out.drewN nq)
 have HK1:=Lib.hid ((Keep.refl g w).drewN nq)
 clear pl0 p0 p1 p2 p3 p4 p5 pf
 generalize World.drewN _ _=X at HR1 HK1 ⊢
 go_upto_region 5 with (go_at_call 52;refine (sign_err l hl [123] HE.out HR1.out).mono ?_;rintro r w2 ⟨rfl,hk2,hr2⟩)
 have HR2:=Lib.hid hr2
 have HK2:=Lib.hid (HK1.out.trans hk2)
 clear hr2 hk2
 go_loopw [] (fun wr=>RX (n:Int) l g T (.slice A l.length c) (.slice Ao pl.length co) wr i e p pl∧Keep g w wr) (fun _=>0)
 case atStart=>exact ⟨HR2.out,HK2.out⟩
 case round =>
  obtain ⟨hr,hk⟩:=hrel
  have HR3:=Lib.hid (hr)
  have HK3:=Lib.hid (hk)
  clear hr hk
  obtain ⟨pl0,p0,p1,p2,p3,p4,p5,pf⟩:=HR3.out.pq
  go_upto_region 5 with fail
  go_quiet (fail)
  replace HR3:=Lib.hid (HR3.out.drewN nq)
  replace HK3:=Lib.hid (HK3.out.drewN nq)
  clear pl0 p0 p1 p2 p3 p4 p5 pf
  generalize World.drewN _ _=Y at HR3 HK3 ⊢
  go_upto_region 8 with (go_at_call 52;refine (sign_err l hl [125] HE.out HR3.out).mono ?_;rintro r w4 ⟨rfl,hk4,hr4⟩)
  have HR4:=Lib.hid hr4
  have HK4:=Lib.hid (HK3.out.trans hk4)
  clear hr4 hk4
  obtain ⟨pl0,p0,p1,p2,p3,p4,p5,pf⟩:=HR4.out.pq
  go_wp2_with fail
  go_ret
  exact ⟨ret_int (by omega),HK4.out,HR4.out⟩
theorem pblk_zeroa (l:List Tok) (hl:l.length≤100000) (g:Nat) (T:Nat→Prop) (v o:Value) (i:Nat) (p:Int) (pl:List Sv) (n:Nat) (w:World) (h:RX (n:Int) l g T v o w i 0 p pl) (B:Bool) (hs:isE l i [123] = false) :
 Calls Tryz.prog 27 #[.pointer (some ⟨g,0,none⟩),.int .i64 13] w (BlkPoP (n:Int) l (blkR l 0 B i) g T v o p pl w):=by
 have HRW:=Lib.hid h
 obtain ⟨A,c,hve,hcc⟩:=(h.ctx.now h.pq.lt).shape
 subst hve
 obtain ⟨Ao,co,hoe⟩:=own_shape h.row.own
 subst hoe
 obtain ⟨pl0,p0,p1,p2,p3,p4,p5,pf⟩:=h.pq
 clear h
 have HIS:Hid (∀ u,Below w.heap.size w u→Calls Tryz.prog 50 #[.slice A l.length c,.int .i64 i,.string (str [123])] u fun r w'=>r = .returned (.bool false)∧u=w'):=fun u hu=>by
  have hh:=is_c l (by omega) i [123] _ u ((HRW.out.below hu).ctx.now (HRW.out.below hu).pq.lt)
  unfold IsPost at hh
  rw [hs] at hh
  exact hh
 have HS:=Lib.hid hs
 clear hs
 go_enter Tryz.func27,Tryz.ntmps27
 go_upto_region 2 with fail
 go_quiet (first | (go_at_call 50;refine (HIS.out _ ?_).mono ?_;(repeat (first | exact Below.refl _ _ | refine qdrN ?_ _ | refine qdr ?_));rintro e w' ⟨he,hw⟩;exact ⟨he,_,hw.symm⟩))
 have HR1:=Lib.hid (HRW.out.drewN nq)
 have HK1:=Lib.hid ((Keep.refl g w).drewN nq)
 clear pl0 p0 p1 p2 p3 p4 p5 pf
 generalize World.drewN _ _=X at HR1 HK1 ⊢
 have HE:Hid (¬ mE l [123] i 0=0):=by show ¬ _;unfold mE wE;rw [if_neg (fun h=>by rw [HS.out] at h;exact absurd h.2 (by decide)),if_pos rfl];split <;> decide
 have HPV:Hid (BlkEnd (blkR l 0 B i) i (mE l [123] i 0) (mP l [123] i 0 p) p []):=by
  show BlkEnd _ _ _ _ _ _
  have hn:¬ ((0:Int)=0∧isE l i [123] = true):=fun h=>by rw [HS.out] at h;exact absurd h.2 (by decide)
  have hn2:¬ isE l i [123] = true:=by rw [HS.out];decide
  unfold blkR mE mP wE wP badR
  rw [if_neg hn2,if_neg hn,if_neg hn,if_pos rfl,if_pos rfl]
  exact ⟨rfl,rfl,by split <;> decide⟩
 have HMI:Hid (mI l [123] i 0=i):=by show _=_;unfold mI;rw [if_neg (fun h=>by rw [HS.out] at h;exact absurd h.2 (by decide))]
 go_upto_region 5 with (go_at_call 52;refine (psign_c l hl [123] g _ _ i (Nat.le_trans HR1.out.im (by decide)) 0 p _ HR1.out.pq HR1.out.ctx).mono ?_;rintro r w2 ⟨rfl,hk2,hp2⟩)
 have hr2:=HR1.out.keep hk2 hp2 (mI_le _ _ _ _) (mI_lt hl _ HR1.out.im _) mE_zero
 rw [HMI.out] at hr2
 clear hp2
 have HP0:=Lib.hid (rfl:mP l [123] i 0 p=mP l [123] i 0 p)
 generalize mE l [123] i 0=e at hr2 HE HPV
 generalize mP l [123] i 0 p=p' at hr2 HPV
 have heb:(e == 0)=false:=by have:=HE.out;simpa using this
 have HR2:=Lib.hid hr2
 have HK2:=Lib.hid (HK1.out.trans hk2)
 clear hr2 hk2
 go_loopw [] (fun wr=>RX (n:Int) l g T (.slice A l.length c) (.slice Ao pl.length co) wr i e p' pl∧Keep g w wr) (fun _=>0)
 case atStart=>exact ⟨HR2.out,HK2.out⟩
 case round =>
  obtain ⟨hr,hk⟩:=hrel
  have HR3:=Lib.hid (hr)
  have HK3:=Lib.hid (hk)
  clear hr hk
  obtain ⟨pl0,p0,p1,p2,p3,p4,p5,pf⟩:=HR3.out.pq
  go_upto_region 5 with fail
  go_quiet (fail)
  replace HR3:=Lib.hid (HR3.out.drewN nq)
  replace HK3:=Lib.hid (HK3.out.drewN nq)
  clear pl0 p0 p1 p2 p3 p4 p5 pf
  generalize World.drewN _ _=Y at HR3 HK3 ⊢
  go_upto_region 8 with (go_at_call 52;refine (sign_err l hl [125] HE.out HR3.out).mono ?_;rintro r w4 ⟨rfl,hk4,hr4⟩)
  have HR4:=Lib.hid hr4
  have HK4:=Lib.hid (HK3.out.trans hk4)
  clear hr4 hk4
  obtain ⟨pl0,p0,p1,p2,p3,p4,p5,pf⟩:=HR4.out.pq
  go_wp2_with fail
  go_ret
  exact ⟨i,e,p',_,[],ret_int (by simp),by rw [List.append_nil];exact HR4.out,KR.of _ HK4.out,HPV.out⟩
theorem pblk_zerob (l:List Tok) (hl:l.length≤100000) (g:Nat) (T:Nat→Prop) (v o:Value) (i:Nat) (p:Int) (pl:List Sv) (n:Nat) (w:World) (h:RX (n:Int) l g T v o w i 0 p pl) (B:Bool) (hs:isE l i [123] = true) :
 Calls Tryz.prog 27 #[.pointer (some ⟨g,0,none⟩),.int .i64 13] w (BlkPoP (n:Int) l (blkR l 0 B i) g T v o p pl w):=by
 have HRW:=Lib.hid h
 obtain ⟨A,c,hve,hcc⟩:=(h.ctx.now h.pq.lt).shape
 subst hve
 obtain ⟨Ao,co,hoe⟩:=own_shape h.row.own
 subst hoe
 obtain ⟨pl0,p0,p1,p2,p3,p4,p5,pf⟩:=h.pq
 clear h
 have HIS:Hid (∀ u,Below w.heap.size w u→Calls Tryz.prog 50 #[.slice A l.length c,.int .i64 i,.string (str [123])] u fun r w'=>r = .returned (.bool true)∧u=w'):=fun u hu=>by
  have hh:=is_c l (by omega) i [123] _ u ((HRW.out.below hu).ctx.now (HRW.out.below hu).pq.lt)
  unfold IsPost at hh
  rw [hs] at hh
  exact hh
 have HS:=Lib.hid hs
 clear hs
 go_enter Tryz.func27,Tryz.ntmps27
 go_upto_region 2 with fail
 go_quiet (first | (go_at_call 50;refine (HIS.out _ ?_).mono ?_;(repeat (first | exact Below.refl _ _ | refine qdrN ?_ _ | refine qdr ?_));rintro e w' ⟨he,hw⟩;exact ⟨he,_,hw.symm⟩))
 have HR1:=Lib.hid (HRW.out.drewN nq)
 have HK1:=Lib.hid ((Keep.refl g w).drewN nq)
 clear pl0 p0 p1 p2 p3 p4 p5 pf
 generalize World.drewN _ _=X at HR1 HK1 ⊢
 have HW7:Hid (wE l i 0 7=7):=by show _=_;have:=isE_lt HS.out;unfold wE;rw [if_pos rfl,if_neg (by omega)]
 have HPV:Hid (BlkEnd (blkR l 0 B i) i 7 (wP l i 0 p) p []):=by
  show BlkEnd _ _ _ _ _ _
  unfold blkR wP
  rw [if_pos HS.out,if_pos rfl]
  exact ⟨rfl,rfl,by decide⟩
 have HE:Hid (¬ (7:Int)=0):=by show ¬ _;decide
 go_upto_region 4 with (go_at_call 51;refine (pwrong_c l hl g _ _ i 0 7 p _ HR1.out.pq HR1.out.ctx).mono ?_;rintro r w2 ⟨rfl,hk2,hp2⟩)
 rw [HW7.out] at hp2
 have hr2:=HR1.out.keep hk2 hp2 (Nat.le_refl _) HR1.out.im (fun h=>absurd h HE.out)
 clear hp2
 generalize wP l i 0 p=p' at hr2 HPV
 replace HR1:=Lib.hid hr2
 replace HK1:=Lib.hid (HK1.out.trans hk2)
 clear hr2 hk2
 go_upto_region 5 with (go_at_call 52;refine (sign_err l hl [123] HE.out HR1.out).mono ?_;rintro r w2 ⟨rfl,hk2,hr2⟩)
 have HR2:=Lib.hid hr2
 have HK2:=Lib.hid (HK1.out.trans hk2)
 clear hr2 hk2
 go_loopw [] (fun wr=>RX (n:Int) l g T (.slice A l.length c) (.slice Ao pl.length co) wr i 7 p' pl∧Keep g w wr) (fun _=>0)
 case atStart=>exact ⟨HR2.out,HK2.out⟩
 case round =>
  obtain ⟨hr,hk⟩:=hrel
  have HR3:=Lib.hid (hr)
  have HK3:=Lib.hid (hk)
  clear hr hk
  obtain ⟨pl0,p0,p1,p2,p3,p4,p5,pf⟩:=HR3.out.pq
  go_upto_region 5 with fail
  go_quiet (fail)
  replace HR3:=Lib.hid (HR3.out.drewN nq)
  replace HK3:=Lib.hid (HK3.out.drewN nq)
  clear pl0 p0 p1 p2 p3 p4 p5 pf
  generalize World.drewN _ _=Y at HR3 HK3 ⊢
  go_upto_region 8 with (go_at_call 52;refine (sign_err l hl [125] HE.out HR3.out).mono ?_;rintro r w4 ⟨rfl,hk4,hr4⟩)
  have HR4:=Lib.hid hr4
  have HK4:=Lib.hid (HK3.out.trans hk4)
  clear hr4 hk4
  obtain ⟨pl0,p0,p1,p2,p3,p4,p5,pf⟩:=HR4.out.pq
  go_wp2_with fail
  go_ret
  exact ⟨i,7,p',_,[],ret_int (by simp),by rw [List.append_nil];exact HR4.out,KR.of _ HK4.out,HPV.out⟩
def leftP (l : List Tok) (g : Nat) (w : World) : Nat := match w.cell? ⟨g, 3, none⟩ with
  | some (.int .i64 e) => if e = 0 then (match w.cell? ⟨g, 1, none⟩ with | some (.int .i64 i) => l.length + 2 - i.toNat | _ => 0) else 0
  | _ => 0
theorem left_ofP {n:Nat} {l:List Tok} {g:Nat} {v o:Value} {w:World} {i:Nat} {e p:Int} (h:PS (n:Int) w g v i e p o):leftP l g w=if e=0 then l.length+2 - i else 0:=by
 unfold leftP
 rw [h.c3]
 simp only
 rw [h.c1]
 simp only [Int.toNat_natCast]
theorem pblk_succ (l:List Tok) (hl:l.length≤100000) (htx:∀ t∈l,t.text.length≤1000000) (d:Nat) (hd:d≤12) (HB:BlkP l d) (g:Nat) (T:Nat→Prop) (v o:Value) (i:Nat) (p:Int) (pl:List Sv) (n:Nat) (w:World) (hn:n+1+d≤100) (h:RX (n:Int) l g T v o w i 0 p pl) (hD:decide ((12:Int) < 12 - (d:Int))=false) :
 Calls Tryz.prog 27 #[.pointer (some ⟨g,0,none⟩),.int .i64 (12 - (d:Int))] w (BlkPoP (n:Int) l (blkR l (d+1) (decide (0 < n)) i) g T v o p pl w):=by
 have HRW:=Lib.hid h
 have HONE:Hid (∀ (o:Value) (j:Nat) (p:Int) (pl:List Sv) u,RX (n:Int) l g T v o u j 0 p pl→Calls Tryz.prog 53 #[.pointer (some ⟨g,0,none⟩),.int .i64 (12 - (d:Int))] u (OnePoP (n:Int) l (oneR (blkR l d) (decide (0 < n)) l j) g T v o p pl u)):=fun o j p pl u hu=>pone_c l hl htx d hd HB g T v o j p pl n u hn hu
 obtain ⟨A,c,hve,hcc⟩:=(h.ctx.now h.pq.lt).shape
 subst hve
 obtain ⟨Ao,co,hoe⟩:=own_shape h.row.own
 subst hoe
 obtain ⟨pl0,p0,p1,p2,p3,p4,p5,pf⟩:=h.pq
 clear h HB
 generalize hb:decide (0 < n)=b at HONE ⊢
 clear hb
 obtain ⟨R,HR⟩:∃ R:RS (List St),Hid (blkR l (d+1) b i=shutR l R∧((isE l i [123] = true∧R=stsR (oneR (blkR l d) b l) l (l.length+1 - (i+1)) (i+1))∨(isE l i [123] = false∧R = .inr (badR l i 5)))):=by
  cases hs:isE l i [123]
  ·exact ⟨.inr (badR l i 5),by rw [blk_shut hs];rfl,.inr ⟨rfl,rfl⟩⟩
  ·exact ⟨_,by rw [blk_open hs];rfl,.inl ⟨rfl,rfl⟩⟩
 rw [HR.out.1]
 go_enter Tryz.func27,Tryz.ntmps27
 go_upto_region 2 with fail
 go_quiet (fail)
 have HR1:=Lib.hid (HRW.out.drewN nq)
 have HK1:=Lib.hid ((Keep.refl g w).drewN nq)
 clear pl0 p0 p1 p2 p3 p4 p5 pf
 generalize World.drewN _ _=X at HR1 HK1 ⊢
 go_upto_region 5 with (go_at_call 52;refine (psign_c l hl [123] g _ _ i (Nat.le_trans HR1.out.im (by decide)) 0 p _ HR1.out.pq HR1.out.ctx).mono ?_;rintro r w2 ⟨rfl,hk2,hp2⟩)
 have HR2:=Lib.hid (HR1.out.keep hk2 hp2 (mI_le _ _ _ _) (mI_lt hl _ HR1.out.im _) mE_zero)
 have HK2:=Lib.hid (KR.of (.slice Ao pl.length co) (HK1.out.trans hk2))
 have HST:Hid (Rest (oneR (blkR l d) b l) l R p (mI l [123] i 0) (mE l [123] i 0) (mP l [123] i 0 p) []∧(mE l [123] i 0=0→mI l [123] i 0≤l.length)):=by
  rcases HR.out.2 with ⟨hs,hR⟩ | ⟨hs,hR⟩
  ·have h1:(0:Int)=0∧isE l i [123] = true:=⟨rfl,hs⟩
   have hlt:=isE_lt hs
   show Rest _ _ _ _ _ _ _ _∧_
   unfold mI mE mP
   rw [if_pos h1,if_pos h1,if_pos h1,hR]
   exact ⟨rest_start _ _ _ _,fun _=>hlt⟩
  ·have h1:¬ ((0:Int)=0∧isE l i [123] = true):=fun h=>by rw [hs] at h;exact absurd h.2 (by decide)
   show Rest _ _ _ _ _ _ _ _∧_
   unfold mI mE mP wE wP
   have hne:¬ (if l.length≤i then (6:Int) else 5)=0:=by split <;> decide
   rw [if_neg h1,if_neg h1,if_neg h1,if_pos rfl,if_pos rfl]
   exact ⟨.inr ⟨hne,hR⟩,fun h=>absurd h hne⟩
 clear hk2 hp2
 go_loopw [] (fun wr=>∃ (j:Nat) (e q:Int) (o':Value) (pl':List Sv),RX (n:Int) l g T (.slice A l.length c) o' wr j e q (pl++pl')∧KR g (.slice Ao pl.length co) o' w wr∧Rest (oneR (blkR l d) b l) l R p j e q (pl'.map (·.s))∧(e=0→j≤l.length)) (fun wr=>leftP l g wr)
 case atStart=>exact ⟨_,_,_,_,[],by rw [List.append_nil];exact HR2.out,HK2.out,HST.out.1,HST.out.2⟩
 case round =>
  obtain ⟨j,e,q,o',pl',hr,hk,hst,hj⟩:=hrel
  have HR3:=Lib.hid (hr)
  have HK3:=Lib.hid (hk)
  have HS3:=Lib.hid hst
  have HJ3:=Lib.hid hj
  obtain ⟨A3,c3,ho3⟩:=own_len hr.row.own
  subst ho3
  clear hr hk hst hj HR2 HK2 HST
  obtain ⟨N,HN⟩:∃ N:Nat,Hid (N=pl.length+pl'.length):=⟨_,rfl⟩
  have hNl:(pl++pl').length=N:=by rw [List.length_append];exact HN.out.symm
  obtain ⟨pl0,p0,p1,p2,p3,p4,p5,pf⟩:=HR3.out.pq
  rw [hNl] at p5
  clear hNl
  by_cases he:e=0
  ·subst he
   cases hs:isE l j [125]
   all_goals
    have HIS:Hid (∀ u,Below wr.heap.size wr u→Calls Tryz.prog 50 #[.slice A l.length c,.int .i64 j,.string (str [125])] u fun r w'=>r = .returned (.bool (isE l j [125]))∧u=w'):=fun u hu=>is_c l (by omega) j [125] _ u ((HR3.out.below hu).ctx.now (HR3.out.below hu).pq.lt)
    have HS:=Lib.hid hs
    rw [hs] at HIS
    clear hs
    go_upto_region 5 with fail
    go_quiet (first | (go_at_call 50;refine (HIS.out _ ?_).mono ?_;(repeat (first | exact Below.refl _ _ | refine qdrN ?_ _ | refine qdr ?_));rintro e w' ⟨he,hw⟩;exact ⟨he,_,hw.symm⟩))
    have HML:=Lib.hid (left_ofP (l:=l) HR3.out.pq)
    replace HR3:=Lib.hid (HR3.out.drewN nq)
    replace HK3:=Lib.hid (HK3.out.drewN nq)
    clear pl0 p0 p1 p2 p3 p4 p5 pf
    generalize World.drewN _ _=Y at HR3 HK3 ⊢
   ·go_wp2_with (go_at_call 53;refine (HONE.out _ _ _ _ _ HR3.out).mono ?_;rintro r w4 ⟨j2,e2,p2,o2,pl2,rfl,hr4,hk4,hb4⟩)
    have hst:=rest_step HS3.out (HJ3.out (by trivial)) HS.out hb4
    go_roundw
    case rel=>exact ⟨j2,e2,p2,o2,pl'++pl2,by rw [← List.append_assoc];exact hr4,HK3.out.trans hk4,by rw [List.map_append];exact hst.1,fun h=>(hst.2 h).2⟩
    case measure =>
     have hml:leftP l g wr=l.length+2 - j:=by rw [HML.out];simp
     rw [hml,left_ofP hr4.pq]
     have h3:=HJ3.out (by trivial)
     split
     ·rename_i h;have:=hst.2 h;omega
     ·omega
   ·obtain ⟨pl0,p0,p1,p2,p3,p4,p5,pf⟩:=HR3.out.pq
    go_upto_region 8 with (go_at_call 52;refine (psign_c l hl [125] g _ _ j (Nat.le_trans HR3.out.im (by decide)) 0 q _ HR3.out.pq HR3.out.ctx).mono ?_;rintro r w4 ⟨rfl,hk4,hp4⟩)
    have HR4:=Lib.hid (HR3.out.keep hk4 hp4 (mI_le _ _ _ _) (mI_lt hl _ HR3.out.im _) mE_zero)
    have HK4:=Lib.hid (HK3.out.trans (KR.of _ hk4))
    clear hk4 hp4 pl0 p0 p1 p2 p3 p4 pf
    obtain ⟨pl0,p0,p1,p2,p3,p4,p5,pf⟩:=HR4.out.pq
    have hNl:(pl++pl').length=N:=by rw [List.length_append];exact HN.out.symm
    rw [hNl] at p5
    have hb1:(pl.length:Int)≤(N:Int):=by have:=HN.out;omega
    have hb2:(N:Int)≤2000000:=by have:=HR4.out.n1;have:=HR4.out.im;omega
    clear hNl
    go_wp2_with fail
    go_ret
    exact ⟨_,_,_,_,pl',ret_int (by have:=HN.out;omega),HR4.out,HK4.out,shut_ok HS3.out HS.out⟩
  ·have HE:=Lib.hid he
   have heb:(e == 0)=false:=by simpa using he
   have heb2:(e != 0)=true:=by rw [bne,heb];rfl
   clear he
   go_upto_region 5 with fail
   go_quiet (fail)
   replace HR3:=Lib.hid (HR3.out.drewN nq)
   replace HK3:=Lib.hid (HK3.out.drewN nq)
   clear pl0 p0 p1 p2 p3 p4 p5 pf
   generalize World.drewN _ _=Y at HR3 HK3 ⊢
   go_upto_region 8 with (go_at_call 52;refine (sign_err l hl [125] HE.out HR3.out).mono ?_;rintro r w4 ⟨rfl,hk4,hr4⟩)
   have HR4:=Lib.hid hr4
   have HK4:=Lib.hid (HK3.out.trans (KR.of _ hk4))
   clear hr4 hk4
   obtain ⟨pl0,p0,p1,p2,p3,p4,p5,pf⟩:=HR4.out.pq
   have hNl:(pl++pl').length=N:=by rw [List.length_append];exact HN.out.symm
   rw [hNl] at p5
   have hb1:(pl.length:Int)≤(N:Int):=by have:=HN.out;omega
   have hb2:(N:Int)≤2000000:=by have:=HR4.out.n1;have:=HR4.out.im;omega
   clear hNl
   go_wp2_with fail
   go_ret
   exact ⟨_,_,_,_,pl',ret_int (by have:=HN.out;omega),HR4.out,HK4.out,shut_err HS3.out HE.out⟩
theorem pblk_c (l : List Tok) (hl : l.length ≤ 100000) (htx : ∀ t ∈ l, t.text.length ≤ 1000000) : ∀ d, d ≤ 13 → BlkP l d
  | 0, _ => fun g T v o i e p pl n w hn h => by
    have e13 : (13 - ((0 : Nat) : Int)) = 13 := by omega
    rw [e13]
    by_cases he : e = 0
    · subst he
      rw [if_pos rfl]
      cases hs : isE l i [123]
      · exact pblk_zeroa l hl g T v o i p pl n w h _ hs
      · exact pblk_zerob l hl g T v o i p pl n w h _ hs
    · rw [if_neg he]
      exact pblk_err l hl g T v o i e p pl _ n w h he
  | d + 1, hd => fun g T v o i e p pl n w hn h => by
    have e13 : (13 - ((d + 1 : Nat) : Int)) = 12 - (d : Int) := by omega
    rw [e13]
    by_cases he : e = 0
    · subst he
      rw [if_pos rfl]
      exact pblk_succ l hl htx d (by omega) (pblk_c l hl htx d (by omega)) g T v o i p pl n w (by omega) h (by rw [decide_eq_false_iff_not]; omega)
    · rw [if_neg he]
      exact pblk_err l hl g T v o i e p pl _ n w h he
end Go.Proofs.YtaoeaaebafcegaaGreatDoor

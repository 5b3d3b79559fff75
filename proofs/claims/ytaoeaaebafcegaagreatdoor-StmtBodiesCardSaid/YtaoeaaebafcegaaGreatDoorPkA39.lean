/- Chapter 04 (statements), joined: StQ1. -/
import Derived.Test.YtaoeaaebafcegaaGreatDoorPkA32
set_option maxRecDepth 100000
set_option maxHeartbeats 2000000
namespace Go.Proofs.YtaoeaaebafcegaaGreatDoor
open Go Go.RowKit
set_option linter.unusedVariables false
variable {lo:Int}
theorem poneB_c (l:List Tok) (hl:l.length≤100000) (htx:∀ t∈l,t.text.length≤1000000) (d:Nat) (hd:d≤12) (HB:BlkP l d) (g:Nat) (T:Nat→Prop) (v o:Value) (i:Nat) (p:Int) (pl:List Sv) (n:Nat) (w:World) (hn:n+1+d≤100) (h:RX (n:Int) l g T v o w i 0 p pl) (hk:kindAt l i=13) (hin:i < l.length) (h0:n=0) :
 Calls Tryz.prog 53 #[.pointer (some ⟨g,0,none⟩),.int .i64 (12 - (d:Int))] w (OnePoP (n:Int) l (oneR (blkR l d) (decide (0 < n)) l i) g T v o p pl w):=by
 subst h0
 have HRW:=Lib.hid h
 have HBB:=Lib.hid HB
 clear HB
 obtain ⟨Ao,co,hoe⟩:=own_shape h.row.own
 subst hoe
 obtain ⟨i0,hi0,hz0,hz1,hz2⟩:=info_parts info_stmt
 have HIN:Hid (i < l.length):=hin
 obtain ⟨bt0,offt,c,hE,hct,hbt,hatt⟩:=h.ctx.at_ (by omega)
 subst hE
 have HPP:Hid (posAt l i=(tk l i).pos):=by show _=_;unfold posAt;rw [if_pos HIN.out]
 have HPOS:Hid (∀ u,Keep g w u→u.cell? ⟨bt0,offt+i*4+3,none⟩=some (.int .i64 (posAt l i))):=fun u hu=>by
  have h:=hatt u (hu.below (Nat.le_of_lt HRW.out.pq.lt)) i HIN.out
  rw [← tk_at HIN.out] at h
  rw [HPP.out]
  exact h.pos
 clear hatt hct
 have hlt1:decide ((i:Int) < (l.length:Int))=true:=by simp;omega
 have hlt2:decide (i < l.length)=true:=by simp;omega
 have hin2:(i:Int) < (l.length:Int):=by omega
 have hi0n:(0:Int)≤(i:Int):=Int.natCast_nonneg _
 have HKD:Hid (∀ u,Below w.heap.size w u→Calls Tryz.prog 75 #[.pointer (some ⟨g,0,none⟩)] u fun r w'=>r = .returned (.int .i64 13)∧Below u.heap.size u w'):=fun u hu=>by
  have hh:=pkind_c l hl g _ _ i 0 p u (HRW.out.below hu).pq (HRW.out.below hu).ctx
  rw [hk] at hh
  exact hh
 obtain ⟨pl0,p0,p1,p2,p3,p4,p5,pf⟩:=h.pq
 rw [oneR_kind hk]
 obtain ⟨P,HPA⟩:∃ P,Hid (posAt l i=P):=⟨_,rfl⟩
 rw [HPA.out]
 have HKK:=Lib.hid hk
 clear hk h
 go_enter Tryz.func53,Tryz.ntmps53
 go_upto_region 2 with (go_at_call 75;refine (HKD.out _ (Below.refl _ _)).mono ?_;rintro r w1 ⟨rfl,hb1⟩)
 have HSB:Hid (SB (w1.alloc (.cells #[.int .i64 13,.string ⟨#[]⟩,.string ⟨#[]⟩,.slice none 0 0,.slice none 0 0,.int .i64 0,.int .i64 0,.int .i64 0,.int .i64 0] 31)) w1.heap.size { zeroS with kind:=13 } (.slice none 0 0) (.slice none 0 0)):=sb_new w1 { zeroS with kind:=13 } (.slice none 0 0) (.slice none 0 0)
 have HBX:Hid (Below w.heap.size w (w1.alloc (.cells #[.int .i64 13,.string ⟨#[]⟩,.string ⟨#[]⟩,.slice none 0 0,.slice none 0 0,.int .i64 0,.int .i64 0,.int .i64 0,.int .i64 0] 31))):=bt hb1 (al _ _)
 have HWQ:Hid (w.heap.size≤w1.heap.size):=hb1.size
 clear hb1 pl0 p0 p1 p2 p3 p4 p5 pf
 generalize w1.heap.size=q at HSB HWQ ⊢
 generalize World.alloc w1 _=X at HSB HBX ⊢
 have HGQ:Hid (g < q):=Nat.lt_of_lt_of_le HRW.out.pq.lt HWQ.out
 obtain ⟨pl0,p0,p1,p2,p3,p4,p5,pf⟩:=(HRW.out.below HBX.out).pq
 obtain ⟨sl,s0,s1,s2,s3,s4,s5,s6,s7,s8,sfr⟩:=HSB.out
 go_quiet (fail)
 replace HSB:=Lib.hid (HSB.out.drewN nq)
 replace HBX:=Lib.hid (qdrN HBX.out nq)
 clear pl0 p0 p1 p2 p3 p4 p5 pf sl s0 s1 s2 s3 s4 s5 s6 s7 s8 sfr
 generalize World.drewN _ _=X at HSB HBX ⊢
 obtain ⟨pl0,p0,p1,p2,p3,p4,p5,pf⟩:=(HRW.out.below HBX.out).pq
 obtain ⟨sl,s0,s1,s2,s3,s4,s5,s6,s7,s8,sfr⟩:=HSB.out
 have sf8:=sfr 8
 have hpos:=HPOS.out X (Keep.of HBX.out)
 rw [HPA.out] at hpos
 go_upto_region 3 with fail
 go_region
 have HSX:=Lib.hid ((HSB.out.setPos P).keep (g:=q+1) (Keep.refl (q+1) _).drew (Nat.ne_of_lt (Nat.lt_succ_self q)))
 have HKX:=Lib.hid (((Keep.of (g:=g) HBX.out).above HWQ.out 8 (.int .i64 P)).drew)
 have HPX:=Lib.hid (((HRW.out.below HBX.out).pq.other (j:=8) (u:=.int .i64 P) (Nat.ne_of_lt HGQ.out)).drew)
 clear pl0 p0 p1 p2 p3 p4 p5 pf sl s0 s1 s2 s3 s4 s5 s6 s7 s8 sfr sf8 hpos HSB HBX
 generalize World.drew _=X at HSX HKX HPX ⊢
 obtain ⟨pl0,p0,p1,p2,p3,p4,p5,pf⟩:=HPX.out
 obtain ⟨sl,s0,s1,s2,s3,s4,s5,s6,s7,s8,sfr⟩:=HSX.out
 have HCX:=Lib.hid (HRW.out.ctx.keep HKX.out HRW.out.pq.lt)
 go_wp2_with (go_at_call 51;refine (pwrong_c l hl g _ _ i 0 5 p _ HPX.out HCX.out).mono ?_;rintro r w2 ⟨rfl,hk2,hp2⟩)
 refine bodyPost_ret (results_none rfl _ _ _) rfl ?_
 have hE:¬ wE l i 0 5=0:=by unfold wE;rw [if_pos rfl];split <;> decide
 refine ⟨i,_,_,_,[],rfl,by rw [List.append_nil];exact HRW.out.keep (HKX.out.trans hk2) hp2 (Nat.le_refl _) HRW.out.im (fun h=>absurd h hE),KR.of _ (HKX.out.trans hk2),?_⟩
 unfold oneP
 rw [if_pos ⟨rfl,rfl⟩]
 exact ⟨rfl,rfl,hE⟩
theorem pone1i_c (l : List Tok) (hl : l.length ≤ 100000) (htx : ∀ t ∈ l, t.text.length ≤ 1000000) (d : Nat) (hd : d ≤ 12) (HB : BlkP l d) (g : Nat) (T : Nat → Prop) (v o : Value) (i : Nat) (p : Int) (pl : List Sv) (n : Nat) (w : World) (hn : n + 1 + d ≤ 100) (h : RX (n : Int) l g T v o w i 0 p pl) (hk : kindAt l i = 1) (hin : i < l.length) :
    Calls Tryz.prog 53 #[.pointer (some ⟨g, 0, none⟩), .int .i64 (12 - (d : Int))] w (OnePoP (n : Int) l (oneR (blkR l d) (decide (0 < n)) l i) g T v o p pl w) := by
  obtain ⟨S1, HS1⟩ : ∃ S1, Hid (str (hasS 1) = S1) := ⟨_, rfl⟩
  obtain ⟨S, HSS⟩ : ∃ S, Hid (str (lettS 1) = S) := ⟨_, rfl⟩
  have HHAS : Hid (∀ u, Calls Tryz.prog 22 #[.int .i64 1] u fun e w' => e = .returned (.string S1) ∧ Below u.heap.size u w') := fun u => by rw [← HS1.out]; exact has_c 1 (by decide) u
  have HTRIM : Hid (∀ u, Calls Tryz.prog 76 #[.string S1, .string ⟨#[98]⟩] u fun e w' => e = .returned (.string S) ∧ u = w') := fun u => by rw [← HS1.out, ← HSS.out]; exact lett_c 1 (by decide) u
  have HLEN : Hid (S.size = (lettS 1).length) := by show _ = _; rw [← HSS.out]; exact (str_get _).1
  have HGET : Hid (∀ j (h : j < S.size), ∃ h2 : j < (lettS 1).length, S[j] = (lettS 1)[j]) := fun j h => by
    have hlen := HLEN.out
    have h2 : j < (lettS 1).length := by omega
    refine ⟨h2, ?_⟩
    have hs := HSS.out
    subst hs
    exact (str_get _).2 j h h2
  have HRW := Lib.hid h
  have HBB := Lib.hid HB
  clear HB
  obtain ⟨Ao, co, hoe⟩ := own_shape h.row.own
  subst hoe
  obtain ⟨i0, hi0, hz0, hz1, hz2⟩ := info_parts info_stmt
  have HIN : Hid (i < l.length) := hin
  obtain ⟨bt0, offt, c, hE, hct, hbt, hatt⟩ := h.ctx.at_ (by omega)
  subst hE
  have HPP : Hid (posAt l i = (tk l i).pos) := by show _ = _; unfold posAt; rw [if_pos HIN.out]
  have HPOS : Hid (∀ u, Keep g w u → u.cell? ⟨bt0, offt + i * 4 + 3, none⟩ = some (.int .i64 (posAt l i))) := fun u hu => by
    have h := hatt u (hu.below (Nat.le_of_lt HRW.out.pq.lt)) i HIN.out
    rw [← tk_at HIN.out] at h
    rw [HPP.out]
    exact h.pos
  clear hatt hct
  have hlt1 : decide ((i : Int) < (l.length : Int)) = true := by simp; omega
  have hlt2 : decide (i < l.length) = true := by simp; omega
  have hin2 : (i : Int) < (l.length : Int) := by omega
  have hi0n : (0 : Int) ≤ (i : Int) := Int.natCast_nonneg _
  have HKD : Hid (∀ u, Below w.heap.size w u → Calls Tryz.prog 75 #[.pointer (some ⟨g, 0, none⟩)] u fun r w' => r = .returned (.int .i64 1) ∧ Below u.heap.size u w') := fun u hu => by
    have hh := pkind_c l hl g _ _ i 0 p u (HRW.out.below hu).pq (HRW.out.below hu).ctx
    rw [hk] at hh
    exact hh
  obtain ⟨pl0, p0, p1, p2, p3, p4, p5, pf⟩ := h.pq
  rw [oneR_kind hk]
  obtain ⟨P, HPA⟩ : ∃ P, Hid (posAt l i = P) := ⟨_, rfl⟩
  rw [HPA.out]
  have HKK := Lib.hid hk
  clear hk h
  go_enter Tryz.func53, Tryz.ntmps53
  go_upto_region 2 with (go_at_call 75; refine (HKD.out _ (Below.refl _ _)).mono ?_; rintro r w1 ⟨rfl, hb1⟩)
  have HSB : Hid (SB (w1.alloc (.cells #[.int .i64 1, .string ⟨#[]⟩, .string ⟨#[]⟩, .slice none 0 0, .slice none 0 0, .int .i64 0, .int .i64 0, .int .i64 0, .int .i64 0] 31)) w1.heap.size { zeroS with kind := 1 } (.slice none 0 0) (.slice none 0 0)) := sb_new w1 { zeroS with kind := 1 } (.slice none 0 0) (.slice none 0 0)
  have HBX : Hid (Below w.heap.size w (w1.alloc (.cells #[.int .i64 1, .string ⟨#[]⟩, .string ⟨#[]⟩, .slice none 0 0, .slice none 0 0, .int .i64 0, .int .i64 0, .int .i64 0, .int .i64 0] 31))) := bt hb1 (al _ _)
  have HWQ : Hid (w.heap.size ≤ w1.heap.size) := hb1.size
  clear hb1 pl0 p0 p1 p2 p3 p4 p5 pf
  generalize w1.heap.size = q at HSB HWQ ⊢
  generalize World.alloc w1 _ = X at HSB HBX ⊢
  have HGQ : Hid (g < q) := Nat.lt_of_lt_of_le HRW.out.pq.lt HWQ.out
  obtain ⟨pl0, p0, p1, p2, p3, p4, p5, pf⟩ := (HRW.out.below HBX.out).pq
  obtain ⟨sl, s0, s1, s2, s3, s4, s5, s6, s7, s8, sfr⟩ := HSB.out
  go_quiet (fail)
  replace HSB := Lib.hid (HSB.out.drewN nq)
  replace HBX := Lib.hid (qdrN HBX.out nq)
  clear pl0 p0 p1 p2 p3 p4 p5 pf sl s0 s1 s2 s3 s4 s5 s6 s7 s8 sfr
  generalize World.drewN _ _ = X at HSB HBX ⊢
  obtain ⟨pl0, p0, p1, p2, p3, p4, p5, pf⟩ := (HRW.out.below HBX.out).pq
  obtain ⟨sl, s0, s1, s2, s3, s4, s5, s6, s7, s8, sfr⟩ := HSB.out
  have sf8 := sfr 8
  have hpos := HPOS.out X (Keep.of HBX.out)
  rw [HPA.out] at hpos
  go_upto_region 3 with fail
  go_region
  have HSX := Lib.hid ((HSB.out.setPos P).keep (g := q + 1) (Keep.refl (q + 1) _).drew (Nat.ne_of_lt (Nat.lt_succ_self q)))
  have HKX := Lib.hid (((Keep.of (g := g) HBX.out).above HWQ.out 8 (.int .i64 P)).drew)
  have HPX := Lib.hid (((HRW.out.below HBX.out).pq.other (j := 8) (u := .int .i64 P) (Nat.ne_of_lt HGQ.out)).drew)
  clear pl0 p0 p1 p2 p3 p4 p5 pf sl s0 s1 s2 s3 s4 s5 s6 s7 s8 sfr sf8 hpos HSB HBX
  generalize World.drew _ = X at HSX HKX HPX ⊢
  obtain ⟨pl0, p0, p1, p2, p3, p4, p5, pf⟩ := HPX.out
  obtain ⟨sl, s0, s1, s2, s3, s4, s5, s6, s7, s8, sfr⟩ := HSX.out
  have HII : Hid (i ≤ 1000000) := HRW.out.im
  go_upto_region 8 with fail
  have HPY : Hid (PS (n : Int) X g _ ((i : Nat) : Int) 0 p _) := HPX.out
  have HSY := Lib.hid HSX.out
  have HKY := Lib.hid HKX.out
  clear pl0 p0 p1 p2 p3 p4 p5 pf sl s0 s1 s2 s3 s4 s5 s6 s7 s8 sfr HPX HSX HKX
  obtain ⟨Y, hXY⟩ : ∃ Y, X = Y := ⟨_, rfl⟩
  subst hXY
  obtain ⟨pl0, p0, p1, p2, p3, p4, p5, pf⟩ := HPY.out
  obtain ⟨sl, s0, s1, s2, s3, s4, s5, s6, s7, s8, sfr⟩ := HSY.out
  go_upto_region 10 with (first
    | (go_at_call 22; (with_reducible refine (HHAS.out _).mono ?_); rintro r w3 ⟨rfl, hb3⟩)
    | (go_at_call 76; (with_reducible refine (HTRIM.out _).mono ?_); rintro r w4 ⟨rfl, rfl⟩))
  have HWX : Hid (WX (n : Int) l g _ _ w3 q w3 ⟨{ zeroS with kind := 1, pos := P }, i, 0, p⟩ (.slice none 0 0) (.slice none 0 0)) :=
    ⟨HPY.out.below hb3, HSY.out.below hb3, ⟨Sl.nil _ _ _, Unf.nil _ _ _⟩, ⟨Sl.nil _ _ _, Unf.nil _ _ _⟩, fresh_nil _ _ _, fresh_nil _ _ _, (HRW.out.ctx.keep HKY.out HRW.out.pq.lt).keep (Keep.of hb3) HPY.out.lt, Keep2.refl _ _ _, (HSY.out.below hb3).lt, HGQ.out, HII.out⟩
  have HK0 := Lib.hid (HKY.out.trans (Keep.of hb3))
  obtain ⟨R0, HR0⟩ : ∃ R0, Hid (runS l ⟨{ zeroS with kind := 1, pos := P }, i, 0, p⟩ (opsS 1) = R0) := ⟨_, rfl⟩
  clear pl0 p0 p1 p2 p3 p4 p5 pf sl s0 s1 s2 s3 s4 s5 s6 s7 s8 sfr HPY HSY HKY hb3 HHAS HTRIM
  go_loopw [68] (fun b wr => ∃ j : Nat, j ≤ S.size ∧ b = .int .i64 j ∧ ∃ σ ev fv, WX (n : Int) l g (.slice (some ⟨bt0, offt, none⟩) l.length c) (.slice Ao pl.length co) w3 q wr σ ev fv ∧ runS l σ (opsOf2 ((lettS 1).drop j) j) = R0) (fun b _ => S.size - (intOf b).toNat)
  case atStart => exact ⟨0, Nat.zero_le _, rfl, _, _, _, HWX.out, HR0.out⟩
  case round =>
    obtain ⟨j, hjs, rfl, σ, ev, fv, hwx, hrun⟩ := hrel
    have HWJ := Lib.hid hwx
    have HRJ := Lib.hid hrun
    clear hwx hrun
    by_cases hlt : j < S.size
    · obtain ⟨hj2, hgj⟩ := HGET.out j hlt
      have HGJ := Lib.hid hgj
      have HJ2 := Lib.hid hj2
      have HLJ : Hid (S[j] = 114 ∨ S[j] = 110 ∨ S[j] = 101 ∨ S[j] = 102 ∨ S[j] = 107) := by show _ ∨ _; rw [hgj]; exact (lett_in 1 (by decide) _ (List.getElem_mem hj2)).2
      clear hgj
      have hjb : (j : Int) ≤ 4 := by have := lett_len 1 (by decide); omega
      go_wp2_with (go_at_call 77; refine (part_c l hl htx g q _ _ w3 _ σ ev fv S[j] HLJ.out j HWJ.out).mono ?_; rintro r w5 ⟨rfl, ev', fv', hwx'⟩)
      go_roundw
      case rel => exact ⟨j + 1, by omega, by go_num, _, ev', fv', hwx', by rw [HGJ.out, run_letter l σ _ j HJ2.out]; exact HRJ.out⟩
      case measure => simp only [intOf]; omega
    · obtain rfl : j = S.size := by omega
      have hR : σ = R0 := by
        have := HRJ.out
        rw [HLEN.out, List.drop_length] at this
        exact this
      subst hR
      obtain ⟨x, j, e1, p1⟩ := σ
      have HRUN : Hid (runS l ⟨{ zeroS with kind := (1 : Nat), pos := P }, if (1 : Nat) = 1 then i else i + 1, 0, p⟩ (opsS 1) = ⟨x, j, e1, p1⟩) := by rw [if_pos rfl]; exact HR0.out
      have HOX := Lib.hid (oxp_new HRW.out HK0.out HWQ.out HWJ.out rfl (by
        have := run_mono l (opsS 1) ⟨{ zeroS with kind := 1, pos := P }, i, 0, p⟩
        rw [HR0.out] at this
        exact this) (fun he => part_lt HRUN.out he))
      obtain ⟨A1, c1, rfl, _⟩ := HWJ.out.ne.shape
      obtain ⟨A2, c2, rfl, _⟩ := HWJ.out.nf.shape
      clear hlt hjs HWX HRJ HWJ HR0 HGET HLEN HK0
      generalize wr = X at HOX ⊢
      obtain ⟨pl0, p0, p1', p2, p3, p4, p5, pf⟩ := HOX.out.pq
      obtain ⟨bl, b0, b1, b2, b3, b4, b5, b6, b7, b8, bfr⟩ := HOX.out.sb
      go_upto_region 14 with fail
      have HT2 : Hid (pl.length + 1 ≤ maxLen ∧ (pl.length + 1) * 120 ≤ 140737488355328) := by have := HRW.out.n1; have := HRW.out.im; show _ ∧ _; unfold maxLen; constructor <;> omega
      have HGS : Hid (g + 1 ≤ X.heap.size) := HOX.out.pq.lt
      have hca := ((al X (.cells #[.int .i64 x.kind, .string (str x.reg), .string (str x.name), .slice A1 x.e.length c1, .slice A2 x.f.length c2, .int .i64 x.n, .int .i64 x.body, .int .i64 x.els, .int .i64 x.pos] 31)).cell (p := ⟨g, 5, none⟩) HOX.out.pq.lt).trans p5
      go_region_law
        ((refine step_append_lies _ (by rfl) _ _ _ (by rfl) (g + 1) 31 i0 _ 9 120 Tryz.underlying24 hi0 hz0 hz1 hz2 rfl (by decide) (.slice Ao pl.length co) pl.length (pl.flatMap Sv.cells) (by rfl) (HOX.out.row.below (bt (al X _) (qdr (Below.refl _ _)))).own ⟨X.heap.size, 0, none⟩ 1 1 (Sv.cells ⟨x, .slice A1 x.e.length c1, .slice A2 x.f.length c2⟩) (by rfl) (by rfl) (World.news_of_block (cs := #[.int .i64 x.kind, .string (str x.reg), .string (str x.name), .slice A1 x.e.length c1, .slice A2 x.f.length c2, .int .i64 x.n, .int .i64 x.body, .int .i64 x.els, .int .i64 x.pos]) (t := 31) (fr := (0, 0)) (heap_alloc_new X _)) (by simp [Sv.cells, Value.oneCell']) (by decide) HT2.out.1 HT2.out.2 (Nat.le_trans HGS.out (al X _).size) (X.heap.size + 1) (by simp) ?_; intro gg cap wa hown hgrow hat hlt; have HPG := (HOX.out.pq.below (bt (al X _) (qdr (Below.refl _ _)))).grown hgrow (fun e => by have := (HOX.out.row.own.lt g e).1; omega); have a5 := HPG.c5; have af := HPG.fr 5))
      all_goals
        have HAP := Lib.hid (one_apP (x := ⟨x, .slice A1 x.e.length c1, .slice A2 x.f.length c2⟩) HOX.out.pq HOX.out.row HOX.out.ctx ⟨.inl HOX.out.tg, fun k hk => hk.elim (fun h => Nat.lt_of_lt_of_le (HOX.out.tl k h) HOX.out.kp.size) (fun h => by subst h; exact HOX.out.sb.lt)⟩ HOX.out.off (bt (al X _) (qdr (Below.refl _ _))) (by simpa using hown) hgrow (by
          rcases hat with e | e
          · exact .inl e.symm
          · refine .inr ?_
            show some gg = some _
            rw [e]; simp) HOX.out.n1 HOX.out.n0 HOX.out.im)
        have HRY := Lib.hid HAP.out.1
        have HKY := Lib.hid ((KR.of _ HOX.out.kp).trans HAP.out.2)
        have HSY := Lib.hid (HOX.out.sb.kr HAP.out.2 (fun e => by have := HOX.out.hq; have := HRW.out.pq.lt; omega) HOX.out.own)
        have HQN := Lib.hid (HAP.out.2.ne HOX.out.sb.lt HOX.out.own)
        clear HAP hown hgrow hat hlt HPG a5 af hca HOX HT2 HGS pl0 p0 p1' p2 p3 p4 p5 pf bl b0 b1 b2 b3 b4 b5 b6 b7 b8 bfr
        generalize World.setCell wa _ _ = Y at HRY HKY HSY ⊢
        obtain ⟨yl, y0, y1, y2, y3, y4, y5, yf⟩ := HRY.out.pq
        obtain ⟨sl, s0, s1, s2, s3, s4, s5, s6, s7, s8, sfr⟩ := HSY.out
        have HXK : Hid (x.kind = 1) := by
          have hc := run_kind HRUN.out
          exact hc
        rw [HXK.out] at s0
        go_wp2_with (go_at_call 52; refine (psign_c l hl [59] g _ _ j (Nat.le_trans HRY.out.im (by decide)) e1 p1 _ HRY.out.pq HRY.out.ctx).mono ?_; rintro r w2 ⟨rfl, hk2, hp2⟩)
        first | refine bodyPost_end (results_none rfl _ _ _) rfl ?_ | refine bodyPost_ret (results_none rfl _ _ _) rfl ?_
        exact ⟨_, _, _, _, [⟨x, .slice A1 x.e.length c1, .slice A2 x.f.length c2⟩], rfl, (HRY.out.keep hk2 hp2 (mI_le _ _ _ _) (mI_lt hl _ HRY.out.im _) mE_zero).mono (fun k hk => .inl hk) HRW.out.tg, HKY.out.trans (KR.of _ hk2), one_sign (fun h => absurd h.1 (by decide)) (by decide) (by decide) HRUN.out _ _⟩
theorem pone1o_c (l : List Tok) (hl : l.length ≤ 100000) (htx : ∀ t ∈ l, t.text.length ≤ 1000000) (d : Nat) (hd : d ≤ 12) (HB : BlkP l d) (g : Nat) (T : Nat → Prop) (v o : Value) (i : Nat) (p : Int) (pl : List Sv) (n : Nat) (w : World) (hn : n + 1 + d ≤ 100) (h : RX (n : Int) l g T v o w i 0 p pl) (hk : kindAt l i = 1) (hout : l.length ≤ i) :
    Calls Tryz.prog 53 #[.pointer (some ⟨g, 0, none⟩), .int .i64 (12 - (d : Int))] w (OnePoP (n : Int) l (oneR (blkR l d) (decide (0 < n)) l i) g T v o p pl w) := by
  obtain ⟨S1, HS1⟩ : ∃ S1, Hid (str (hasS 1) = S1) := ⟨_, rfl⟩
  obtain ⟨S, HSS⟩ : ∃ S, Hid (str (lettS 1) = S) := ⟨_, rfl⟩
  have HHAS : Hid (∀ u, Calls Tryz.prog 22 #[.int .i64 1] u fun e w' => e = .returned (.string S1) ∧ Below u.heap.size u w') := fun u => by rw [← HS1.out]; exact has_c 1 (by decide) u
  have HTRIM : Hid (∀ u, Calls Tryz.prog 76 #[.string S1, .string ⟨#[98]⟩] u fun e w' => e = .returned (.string S) ∧ u = w') := fun u => by rw [← HS1.out, ← HSS.out]; exact lett_c 1 (by decide) u
  have HLEN : Hid (S.size = (lettS 1).length) := by show _ = _; rw [← HSS.out]; exact (str_get _).1
  have HGET : Hid (∀ j (h : j < S.size), ∃ h2 : j < (lettS 1).length, S[j] = (lettS 1)[j]) := fun j h => by
    have hlen := HLEN.out
    have h2 : j < (lettS 1).length := by omega
    refine ⟨h2, ?_⟩
    have hs := HSS.out
    subst hs
    exact (str_get _).2 j h h2
  have HRW := Lib.hid h
  have HBB := Lib.hid HB
  clear HB
  obtain ⟨Ao, co, hoe⟩ := own_shape h.row.own
  subst hoe
  obtain ⟨i0, hi0, hz0, hz1, hz2⟩ := info_parts info_stmt
  have HOUT : Hid (l.length ≤ i) := hout
  obtain ⟨A, c, hve, hcc⟩ := (h.ctx.now h.pq.lt).shape
  subst hve
  have HPP : Hid (posAt l i = 0) := by show _ = _; unfold posAt; rw [if_neg (by have := HOUT.out; omega)]
  have hlt1 : decide ((i : Int) < (l.length : Int)) = false := by simp; omega
  have hlt2 : decide (i < l.length) = false := by simp; omega
  have HKD : Hid (∀ u, Below w.heap.size w u → Calls Tryz.prog 75 #[.pointer (some ⟨g, 0, none⟩)] u fun r w' => r = .returned (.int .i64 1) ∧ Below u.heap.size u w') := fun u hu => by
    have hh := pkind_c l hl g _ _ i 0 p u (HRW.out.below hu).pq (HRW.out.below hu).ctx
    rw [hk] at hh
    exact hh
  obtain ⟨pl0, p0, p1, p2, p3, p4, p5, pf⟩ := h.pq
  rw [oneR_kind hk]
  obtain ⟨P, HPA⟩ : ∃ P, Hid (posAt l i = P) := ⟨_, rfl⟩
  rw [HPA.out]
  have HKK := Lib.hid hk
  clear hk h
  go_enter Tryz.func53, Tryz.ntmps53
  go_upto_region 2 with (go_at_call 75; refine (HKD.out _ (Below.refl _ _)).mono ?_; rintro r w1 ⟨rfl, hb1⟩)
  have HSB : Hid (SB (w1.alloc (.cells #[.int .i64 1, .string ⟨#[]⟩, .string ⟨#[]⟩, .slice none 0 0, .slice none 0 0, .int .i64 0, .int .i64 0, .int .i64 0, .int .i64 0] 31)) w1.heap.size { zeroS with kind := 1 } (.slice none 0 0) (.slice none 0 0)) := sb_new w1 { zeroS with kind := 1 } (.slice none 0 0) (.slice none 0 0)
  have HBX : Hid (Below w.heap.size w (w1.alloc (.cells #[.int .i64 1, .string ⟨#[]⟩, .string ⟨#[]⟩, .slice none 0 0, .slice none 0 0, .int .i64 0, .int .i64 0, .int .i64 0, .int .i64 0] 31))) := bt hb1 (al _ _)
  have HWQ : Hid (w.heap.size ≤ w1.heap.size) := hb1.size
  clear hb1 pl0 p0 p1 p2 p3 p4 p5 pf
  generalize w1.heap.size = q at HSB HWQ ⊢
  generalize World.alloc w1 _ = X at HSB HBX ⊢
  have HGQ : Hid (g < q) := Nat.lt_of_lt_of_le HRW.out.pq.lt HWQ.out
  obtain ⟨pl0, p0, p1, p2, p3, p4, p5, pf⟩ := (HRW.out.below HBX.out).pq
  obtain ⟨sl, s0, s1, s2, s3, s4, s5, s6, s7, s8, sfr⟩ := HSB.out
  go_quiet (fail)
  replace HSB := Lib.hid (HSB.out.drewN nq)
  replace HBX := Lib.hid (qdrN HBX.out nq)
  clear pl0 p0 p1 p2 p3 p4 p5 pf sl s0 s1 s2 s3 s4 s5 s6 s7 s8 sfr
  generalize World.drewN _ _ = X at HSB HBX ⊢
  have HSX : Hid (SB X q { zeroS with kind := 1, pos := P } (.slice none 0 0) (.slice none 0 0)) := by
    rw [← HPA.out, HPP.out]; exact HSB.out
  have HKX := Lib.hid ((Keep.of (g := g) HBX.out))
  have HPX := Lib.hid ((HRW.out.below HBX.out).pq)
  clear HSB HBX
  obtain ⟨pl0, p0, p1, p2, p3, p4, p5, pf⟩ := HPX.out
  obtain ⟨sl, s0, s1, s2, s3, s4, s5, s6, s7, s8, sfr⟩ := HSX.out
  have HII : Hid (i ≤ 1000000) := HRW.out.im
  go_upto_region 8 with fail
  have HPY : Hid (PS (n : Int) X g _ ((i : Nat) : Int) 0 p _) := HPX.out
  have HSY := Lib.hid HSX.out
  have HKY := Lib.hid HKX.out
  clear pl0 p0 p1 p2 p3 p4 p5 pf sl s0 s1 s2 s3 s4 s5 s6 s7 s8 sfr HPX HSX HKX
  obtain ⟨Y, hXY⟩ : ∃ Y, X = Y := ⟨_, rfl⟩
  subst hXY
  obtain ⟨pl0, p0, p1, p2, p3, p4, p5, pf⟩ := HPY.out
  obtain ⟨sl, s0, s1, s2, s3, s4, s5, s6, s7, s8, sfr⟩ := HSY.out
  go_upto_region 10 with (first
    | (go_at_call 22; (with_reducible refine (HHAS.out _).mono ?_); rintro r w3 ⟨rfl, hb3⟩)
    | (go_at_call 76; (with_reducible refine (HTRIM.out _).mono ?_); rintro r w4 ⟨rfl, rfl⟩))
  have HWX : Hid (WX (n : Int) l g _ _ w3 q w3 ⟨{ zeroS with kind := 1, pos := P }, i, 0, p⟩ (.slice none 0 0) (.slice none 0 0)) :=
    ⟨HPY.out.below hb3, HSY.out.below hb3, ⟨Sl.nil _ _ _, Unf.nil _ _ _⟩, ⟨Sl.nil _ _ _, Unf.nil _ _ _⟩, fresh_nil _ _ _, fresh_nil _ _ _, (HRW.out.ctx.keep HKY.out HRW.out.pq.lt).keep (Keep.of hb3) HPY.out.lt, Keep2.refl _ _ _, (HSY.out.below hb3).lt, HGQ.out, HII.out⟩
  have HK0 := Lib.hid (HKY.out.trans (Keep.of hb3))
  obtain ⟨R0, HR0⟩ : ∃ R0, Hid (runS l ⟨{ zeroS with kind := 1, pos := P }, i, 0, p⟩ (opsS 1) = R0) := ⟨_, rfl⟩
  clear pl0 p0 p1 p2 p3 p4 p5 pf sl s0 s1 s2 s3 s4 s5 s6 s7 s8 sfr HPY HSY HKY hb3 HHAS HTRIM
  go_loopw [68] (fun b wr => ∃ j : Nat, j ≤ S.size ∧ b = .int .i64 j ∧ ∃ σ ev fv, WX (n : Int) l g (.slice A l.length c) (.slice Ao pl.length co) w3 q wr σ ev fv ∧ runS l σ (opsOf2 ((lettS 1).drop j) j) = R0) (fun b _ => S.size - (intOf b).toNat)
  case atStart => exact ⟨0, Nat.zero_le _, rfl, _, _, _, HWX.out, HR0.out⟩
  case round =>
    obtain ⟨j, hjs, rfl, σ, ev, fv, hwx, hrun⟩ := hrel
    have HWJ := Lib.hid hwx
    have HRJ := Lib.hid hrun
    clear hwx hrun
    by_cases hlt : j < S.size
    · obtain ⟨hj2, hgj⟩ := HGET.out j hlt
      have HGJ := Lib.hid hgj
      have HJ2 := Lib.hid hj2
      have HLJ : Hid (S[j] = 114 ∨ S[j] = 110 ∨ S[j] = 101 ∨ S[j] = 102 ∨ S[j] = 107) := by show _ ∨ _; rw [hgj]; exact (lett_in 1 (by decide) _ (List.getElem_mem hj2)).2
      clear hgj
      have hjb : (j : Int) ≤ 4 := by have := lett_len 1 (by decide); omega
      go_wp2_with (go_at_call 77; refine (part_c l hl htx g q _ _ w3 _ σ ev fv S[j] HLJ.out j HWJ.out).mono ?_; rintro r w5 ⟨rfl, ev', fv', hwx'⟩)
      go_roundw
      case rel => exact ⟨j + 1, by omega, by go_num, _, ev', fv', hwx', by rw [HGJ.out, run_letter l σ _ j HJ2.out]; exact HRJ.out⟩
      case measure => simp only [intOf]; omega
    · obtain rfl : j = S.size := by omega
      have hR : σ = R0 := by
        have := HRJ.out
        rw [HLEN.out, List.drop_length] at this
        exact this
      subst hR
      obtain ⟨x, j, e1, p1⟩ := σ
      have HRUN : Hid (runS l ⟨{ zeroS with kind := (1 : Nat), pos := P }, if (1 : Nat) = 1 then i else i + 1, 0, p⟩ (opsS 1) = ⟨x, j, e1, p1⟩) := by rw [if_pos rfl]; exact HR0.out
      have HOX := Lib.hid (oxp_new HRW.out HK0.out HWQ.out HWJ.out rfl (by
        have := run_mono l (opsS 1) ⟨{ zeroS with kind := 1, pos := P }, i, 0, p⟩
        rw [HR0.out] at this
        exact this) (fun he => part_lt HRUN.out he))
      obtain ⟨A1, c1, rfl, _⟩ := HWJ.out.ne.shape
      obtain ⟨A2, c2, rfl, _⟩ := HWJ.out.nf.shape
      clear hlt hjs HWX HRJ HWJ HR0 HGET HLEN HK0
      generalize wr = X at HOX ⊢
      obtain ⟨pl0, p0, p1', p2, p3, p4, p5, pf⟩ := HOX.out.pq
      obtain ⟨bl, b0, b1, b2, b3, b4, b5, b6, b7, b8, bfr⟩ := HOX.out.sb
      go_upto_region 14 with fail
      have HT2 : Hid (pl.length + 1 ≤ maxLen ∧ (pl.length + 1) * 120 ≤ 140737488355328) := by have := HRW.out.n1; have := HRW.out.im; show _ ∧ _; unfold maxLen; constructor <;> omega
      have HGS : Hid (g + 1 ≤ X.heap.size) := HOX.out.pq.lt
      have hca := ((al X (.cells #[.int .i64 x.kind, .string (str x.reg), .string (str x.name), .slice A1 x.e.length c1, .slice A2 x.f.length c2, .int .i64 x.n, .int .i64 x.body, .int .i64 x.els, .int .i64 x.pos] 31)).cell (p := ⟨g, 5, none⟩) HOX.out.pq.lt).trans p5
      go_region_law
        ((refine step_append_lies _ (by rfl) _ _ _ (by rfl) (g + 1) 31 i0 _ 9 120 Tryz.underlying24 hi0 hz0 hz1 hz2 rfl (by decide) (.slice Ao pl.length co) pl.length (pl.flatMap Sv.cells) (by rfl) (HOX.out.row.below (bt (al X _) (qdr (Below.refl _ _)))).own ⟨X.heap.size, 0, none⟩ 1 1 (Sv.cells ⟨x, .slice A1 x.e.length c1, .slice A2 x.f.length c2⟩) (by rfl) (by rfl) (World.news_of_block (cs := #[.int .i64 x.kind, .string (str x.reg), .string (str x.name), .slice A1 x.e.length c1, .slice A2 x.f.length c2, .int .i64 x.n, .int .i64 x.body, .int .i64 x.els, .int .i64 x.pos]) (t := 31) (fr := (0, 0)) (heap_alloc_new X _)) (by simp [Sv.cells, Value.oneCell']) (by decide) HT2.out.1 HT2.out.2 (Nat.le_trans HGS.out (al X _).size) (X.heap.size + 1) (by simp) ?_; intro gg cap wa hown hgrow hat hlt; have HPG := (HOX.out.pq.below (bt (al X _) (qdr (Below.refl _ _)))).grown hgrow (fun e => by have := (HOX.out.row.own.lt g e).1; omega); have a5 := HPG.c5; have af := HPG.fr 5))
      all_goals
        have HAP := Lib.hid (one_apP (x := ⟨x, .slice A1 x.e.length c1, .slice A2 x.f.length c2⟩) HOX.out.pq HOX.out.row HOX.out.ctx ⟨.inl HOX.out.tg, fun k hk => hk.elim (fun h => Nat.lt_of_lt_of_le (HOX.out.tl k h) HOX.out.kp.size) (fun h => by subst h; exact HOX.out.sb.lt)⟩ HOX.out.off (bt (al X _) (qdr (Below.refl _ _))) (by simpa using hown) hgrow (by
          rcases hat with e | e
          · exact .inl e.symm
          · refine .inr ?_
            show some gg = some _
            rw [e]; simp) HOX.out.n1 HOX.out.n0 HOX.out.im)
        have HRY := Lib.hid HAP.out.1
        have HKY := Lib.hid ((KR.of _ HOX.out.kp).trans HAP.out.2)
        have HSY := Lib.hid (HOX.out.sb.kr HAP.out.2 (fun e => by have := HOX.out.hq; have := HRW.out.pq.lt; omega) HOX.out.own)
        have HQN := Lib.hid (HAP.out.2.ne HOX.out.sb.lt HOX.out.own)
        clear HAP hown hgrow hat hlt HPG a5 af hca HOX HT2 HGS pl0 p0 p1' p2 p3 p4 p5 pf bl b0 b1 b2 b3 b4 b5 b6 b7 b8 bfr
        generalize World.setCell wa _ _ = Y at HRY HKY HSY ⊢
        obtain ⟨yl, y0, y1, y2, y3, y4, y5, yf⟩ := HRY.out.pq
        obtain ⟨sl, s0, s1, s2, s3, s4, s5, s6, s7, s8, sfr⟩ := HSY.out
        have HXK : Hid (x.kind = 1) := by
          have hc := run_kind HRUN.out
          exact hc
        rw [HXK.out] at s0
        go_wp2_with (go_at_call 52; refine (psign_c l hl [59] g _ _ j (Nat.le_trans HRY.out.im (by decide)) e1 p1 _ HRY.out.pq HRY.out.ctx).mono ?_; rintro r w2 ⟨rfl, hk2, hp2⟩)
        first | refine bodyPost_end (results_none rfl _ _ _) rfl ?_ | refine bodyPost_ret (results_none rfl _ _ _) rfl ?_
        exact ⟨_, _, _, _, [⟨x, .slice A1 x.e.length c1, .slice A2 x.f.length c2⟩], rfl, (HRY.out.keep hk2 hp2 (mI_le _ _ _ _) (mI_lt hl _ HRY.out.im _) mE_zero).mono (fun k hk => .inl hk) HRW.out.tg, HKY.out.trans (KR.of _ hk2), one_sign (fun h => absurd h.1 (by decide)) (by decide) (by decide) HRUN.out _ _⟩
theorem pone13_c (l : List Tok) (hl : l.length ≤ 100000) (htx : ∀ t ∈ l, t.text.length ≤ 1000000) (d : Nat) (hd : d ≤ 12) (HB : BlkP l d) (g : Nat) (T : Nat → Prop) (v o : Value) (i : Nat) (p : Int) (pl : List Sv) (n : Nat) (w : World) (hn : n + 1 + d ≤ 100) (h : RX (n : Int) l g T v o w i 0 p pl) (hk : kindAt l i = 13) (hin : i < l.length) (h0 : ((n : Int) == 0) = false) :
    Calls Tryz.prog 53 #[.pointer (some ⟨g, 0, none⟩), .int .i64 (12 - (d : Int))] w (OnePoP (n : Int) l (oneR (blkR l d) (decide (0 < n)) l i) g T v o p pl w) := by
  have HN0 : Hid (¬ decide (0 < n) = false) := fun h => by rw [beq_eq_false_iff_ne] at h0; rw [decide_eq_false_iff_not] at h; omega
  obtain ⟨S1, HS1⟩ : ∃ S1, Hid (str (hasS 13) = S1) := ⟨_, rfl⟩
  obtain ⟨S, HSS⟩ : ∃ S, Hid (str (lettS 13) = S) := ⟨_, rfl⟩
  have HHAS : Hid (∀ u, Calls Tryz.prog 22 #[.int .i64 13] u fun e w' => e = .returned (.string S1) ∧ Below u.heap.size u w') := fun u => by rw [← HS1.out]; exact has_c 13 (by decide) u
  have HTRIM : Hid (∀ u, Calls Tryz.prog 76 #[.string S1, .string ⟨#[98]⟩] u fun e w' => e = .returned (.string S) ∧ u = w') := fun u => by rw [← HS1.out, ← HSS.out]; exact lett_c 13 (by decide) u
  have HLEN : Hid (S.size = (lettS 13).length) := by show _ = _; rw [← HSS.out]; exact (str_get _).1
  have HGET : Hid (∀ j (h : j < S.size), ∃ h2 : j < (lettS 13).length, S[j] = (lettS 13)[j]) := fun j h => by
    have hlen := HLEN.out
    have h2 : j < (lettS 13).length := by omega
    refine ⟨h2, ?_⟩
    have hs := HSS.out
    subst hs
    exact (str_get _).2 j h h2
  have HRW := Lib.hid h
  have HBB := Lib.hid HB
  clear HB
  obtain ⟨Ao, co, hoe⟩ := own_shape h.row.own
  subst hoe
  obtain ⟨i0, hi0, hz0, hz1, hz2⟩ := info_parts info_stmt
  have HIN : Hid (i < l.length) := hin
  obtain ⟨bt0, offt, c, hE, hct, hbt, hatt⟩ := h.ctx.at_ (by omega)
  subst hE
  have HPP : Hid (posAt l i = (tk l i).pos) := by show _ = _; unfold posAt; rw [if_pos HIN.out]
  have HPOS : Hid (∀ u, Keep g w u → u.cell? ⟨bt0, offt + i * 4 + 3, none⟩ = some (.int .i64 (posAt l i))) := fun u hu => by
    have h := hatt u (hu.below (Nat.le_of_lt HRW.out.pq.lt)) i HIN.out
    rw [← tk_at HIN.out] at h
    rw [HPP.out]
    exact h.pos
  clear hatt hct
  have hlt1 : decide ((i : Int) < (l.length : Int)) = true := by simp; omega
  have hlt2 : decide (i < l.length) = true := by simp; omega
  have hin2 : (i : Int) < (l.length : Int) := by omega
  have hi0n : (0 : Int) ≤ (i : Int) := Int.natCast_nonneg _
  have HKD : Hid (∀ u, Below w.heap.size w u → Calls Tryz.prog 75 #[.pointer (some ⟨g, 0, none⟩)] u fun r w' => r = .returned (.int .i64 13) ∧ Below u.heap.size u w') := fun u hu => by
    have hh := pkind_c l hl g _ _ i 0 p u (HRW.out.below hu).pq (HRW.out.below hu).ctx
    rw [hk] at hh
    exact hh
  obtain ⟨pl0, p0, p1, p2, p3, p4, p5, pf⟩ := h.pq
  rw [oneR_kind hk]
  obtain ⟨P, HPA⟩ : ∃ P, Hid (posAt l i = P) := ⟨_, rfl⟩
  rw [HPA.out]
  have HKK := Lib.hid hk
  clear hk h
  go_enter Tryz.func53, Tryz.ntmps53
  go_upto_region 2 with (go_at_call 75; refine (HKD.out _ (Below.refl _ _)).mono ?_; rintro r w1 ⟨rfl, hb1⟩)
  have HSB : Hid (SB (w1.alloc (.cells #[.int .i64 13, .string ⟨#[]⟩, .string ⟨#[]⟩, .slice none 0 0, .slice none 0 0, .int .i64 0, .int .i64 0, .int .i64 0, .int .i64 0] 31)) w1.heap.size { zeroS with kind := 13 } (.slice none 0 0) (.slice none 0 0)) := sb_new w1 { zeroS with kind := 13 } (.slice none 0 0) (.slice none 0 0)
  have HBX : Hid (Below w.heap.size w (w1.alloc (.cells #[.int .i64 13, .string ⟨#[]⟩, .string ⟨#[]⟩, .slice none 0 0, .slice none 0 0, .int .i64 0, .int .i64 0, .int .i64 0, .int .i64 0] 31))) := bt hb1 (al _ _)
  have HWQ : Hid (w.heap.size ≤ w1.heap.size) := hb1.size
  clear hb1 pl0 p0 p1 p2 p3 p4 p5 pf
  generalize w1.heap.size = q at HSB HWQ ⊢
  generalize World.alloc w1 _ = X at HSB HBX ⊢
  have HGQ : Hid (g < q) := Nat.lt_of_lt_of_le HRW.out.pq.lt HWQ.out
  obtain ⟨pl0, p0, p1, p2, p3, p4, p5, pf⟩ := (HRW.out.below HBX.out).pq
  obtain ⟨sl, s0, s1, s2, s3, s4, s5, s6, s7, s8, sfr⟩ := HSB.out
  go_quiet (fail)
  replace HSB := Lib.hid (HSB.out.drewN nq)
  replace HBX := Lib.hid (qdrN HBX.out nq)
  clear pl0 p0 p1 p2 p3 p4 p5 pf sl s0 s1 s2 s3 s4 s5 s6 s7 s8 sfr
  generalize World.drewN _ _ = X at HSB HBX ⊢
  obtain ⟨pl0, p0, p1, p2, p3, p4, p5, pf⟩ := (HRW.out.below HBX.out).pq
  obtain ⟨sl, s0, s1, s2, s3, s4, s5, s6, s7, s8, sfr⟩ := HSB.out
  have sf8 := sfr 8
  have hpos := HPOS.out X (Keep.of HBX.out)
  rw [HPA.out] at hpos
  go_upto_region 3 with fail
  go_region
  have HSX := Lib.hid ((HSB.out.setPos P).keep (g := q + 1) (Keep.refl (q + 1) _).drew (Nat.ne_of_lt (Nat.lt_succ_self q)))
  have HKX := Lib.hid (((Keep.of (g := g) HBX.out).above HWQ.out 8 (.int .i64 P)).drew)
  have HPX := Lib.hid (((HRW.out.below HBX.out).pq.other (j := 8) (u := .int .i64 P) (Nat.ne_of_lt HGQ.out)).drew)
  clear pl0 p0 p1 p2 p3 p4 p5 pf sl s0 s1 s2 s3 s4 s5 s6 s7 s8 sfr sf8 hpos HSB HBX
  generalize World.drew _ = X at HSX HKX HPX ⊢
  obtain ⟨pl0, p0, p1, p2, p3, p4, p5, pf⟩ := HPX.out
  obtain ⟨sl, s0, s1, s2, s3, s4, s5, s6, s7, s8, sfr⟩ := HSX.out
  have HII : Hid (i + 1 ≤ 1000000) := by have := HIN.out; show _ ≤ _; omega
  have him : (i : Int) ≤ 1000000 := by have := HIN.out; omega
  have pf1 := pf 1
  go_upto_region 8 with fail
  rw [show (i : Int) + 1 = ((i + 1 : Nat) : Int) by omega]
  have HPY : Hid (PS (n : Int) (X.setCell ⟨g, 1, none⟩ (.int .i64 ((i + 1 : Nat) : Int))) g _ ((i + 1 : Nat) : Int) 0 p _) := HPX.out.set1 _
  have HSY := Lib.hid (HSX.out.keep ((Keep.refl g X).set 1 (.int .i64 ((i + 1 : Nat) : Int))) (Nat.ne_of_gt HGQ.out))
  have HKY := Lib.hid (HKX.out.trans ((Keep.refl g X).set 1 (.int .i64 ((i + 1 : Nat) : Int))))
  clear pl0 p0 p1 p2 p3 p4 p5 pf sl s0 s1 s2 s3 s4 s5 s6 s7 s8 sfr pf1 him HPX HSX HKX
  generalize World.setCell X _ _ = Y at HPY HSY HKY ⊢
  obtain ⟨pl0, p0, p1, p2, p3, p4, p5, pf⟩ := HPY.out
  obtain ⟨sl, s0, s1, s2, s3, s4, s5, s6, s7, s8, sfr⟩ := HSY.out
  go_upto_region 10 with (first
    | (go_at_call 22; (with_reducible refine (HHAS.out _).mono ?_); rintro r w3 ⟨rfl, hb3⟩)
    | (go_at_call 76; (with_reducible refine (HTRIM.out _).mono ?_); rintro r w4 ⟨rfl, rfl⟩))
  have HWX : Hid (WX (n : Int) l g _ _ w3 q w3 ⟨{ zeroS with kind := 13, pos := P }, (i + 1), 0, p⟩ (.slice none 0 0) (.slice none 0 0)) :=
    ⟨HPY.out.below hb3, HSY.out.below hb3, ⟨Sl.nil _ _ _, Unf.nil _ _ _⟩, ⟨Sl.nil _ _ _, Unf.nil _ _ _⟩, fresh_nil _ _ _, fresh_nil _ _ _, (HRW.out.ctx.keep HKY.out HRW.out.pq.lt).keep (Keep.of hb3) HPY.out.lt, Keep2.refl _ _ _, (HSY.out.below hb3).lt, HGQ.out, HII.out⟩
  have HK0 := Lib.hid (HKY.out.trans (Keep.of hb3))
  obtain ⟨R0, HR0⟩ : ∃ R0, Hid (runS l ⟨{ zeroS with kind := 13, pos := P }, (i + 1), 0, p⟩ (opsS 13) = R0) := ⟨_, rfl⟩
  clear pl0 p0 p1 p2 p3 p4 p5 pf sl s0 s1 s2 s3 s4 s5 s6 s7 s8 sfr HPY HSY HKY hb3 HHAS HTRIM
  go_loopw [68] (fun b wr => ∃ j : Nat, j ≤ S.size ∧ b = .int .i64 j ∧ ∃ σ ev fv, WX (n : Int) l g (.slice (some ⟨bt0, offt, none⟩) l.length c) (.slice Ao pl.length co) w3 q wr σ ev fv ∧ runS l σ (opsOf2 ((lettS 13).drop j) j) = R0) (fun b _ => S.size - (intOf b).toNat)
  case atStart => exact ⟨0, Nat.zero_le _, rfl, _, _, _, HWX.out, HR0.out⟩
  case round =>
    obtain ⟨j, hjs, rfl, σ, ev, fv, hwx, hrun⟩ := hrel
    have HWJ := Lib.hid hwx
    have HRJ := Lib.hid hrun
    clear hwx hrun
    by_cases hlt : j < S.size
    · obtain ⟨hj2, hgj⟩ := HGET.out j hlt
      have HGJ := Lib.hid hgj
      have HJ2 := Lib.hid hj2
      have HLJ : Hid (S[j] = 114 ∨ S[j] = 110 ∨ S[j] = 101 ∨ S[j] = 102 ∨ S[j] = 107) := by show _ ∨ _; rw [hgj]; exact (lett_in 13 (by decide) _ (List.getElem_mem hj2)).2
      clear hgj
      have hjb : (j : Int) ≤ 4 := by have := lett_len 13 (by decide); omega
      go_wp2_with (go_at_call 77; refine (part_c l hl htx g q _ _ w3 _ σ ev fv S[j] HLJ.out j HWJ.out).mono ?_; rintro r w5 ⟨rfl, ev', fv', hwx'⟩)
      go_roundw
      case rel => exact ⟨j + 1, by omega, by go_num, _, ev', fv', hwx', by rw [HGJ.out, run_letter l σ _ j HJ2.out]; exact HRJ.out⟩
      case measure => simp only [intOf]; omega
    · obtain rfl : j = S.size := by omega
      have hR : σ = R0 := by
        have := HRJ.out
        rw [HLEN.out, List.drop_length] at this
        exact this
      subst hR
      obtain ⟨x, j, e1, p1⟩ := σ
      have HRUN : Hid (runS l ⟨{ zeroS with kind := (13 : Nat), pos := P }, if (13 : Nat) = 1 then i else i + 1, 0, p⟩ (opsS 13) = ⟨x, j, e1, p1⟩) := by rw [if_neg (by decide)]; exact HR0.out
      have HOX := Lib.hid (oxp_new HRW.out HK0.out HWQ.out HWJ.out rfl (by
        have := run_mono l (opsS 13) ⟨{ zeroS with kind := 13, pos := P }, (i + 1), 0, p⟩
        rw [HR0.out] at this
        exact Nat.le_trans (Nat.le_succ i) this) (fun he => part_lt HRUN.out he))
      obtain ⟨A1, c1, rfl, _⟩ := HWJ.out.ne.shape
      obtain ⟨A2, c2, rfl, _⟩ := HWJ.out.nf.shape
      clear hlt hjs HWX HRJ HWJ HR0 HGET HLEN HK0
      generalize wr = X at HOX ⊢
      obtain ⟨pl0, p0, p1', p2, p3, p4, p5, pf⟩ := HOX.out.pq
      obtain ⟨bl, b0, b1, b2, b3, b4, b5, b6, b7, b8, bfr⟩ := HOX.out.sb
      go_upto_region 14 with fail
      have HT2 : Hid (pl.length + 1 ≤ maxLen ∧ (pl.length + 1) * 120 ≤ 140737488355328) := by have := HRW.out.n1; have := HRW.out.im; show _ ∧ _; unfold maxLen; constructor <;> omega
      have HGS : Hid (g + 1 ≤ X.heap.size) := HOX.out.pq.lt
      have hca := ((al X (.cells #[.int .i64 x.kind, .string (str x.reg), .string (str x.name), .slice A1 x.e.length c1, .slice A2 x.f.length c2, .int .i64 x.n, .int .i64 x.body, .int .i64 x.els, .int .i64 x.pos] 31)).cell (p := ⟨g, 5, none⟩) HOX.out.pq.lt).trans p5
      go_region_law
        ((refine step_append_lies _ (by rfl) _ _ _ (by rfl) (g + 1) 31 i0 _ 9 120 Tryz.underlying24 hi0 hz0 hz1 hz2 rfl (by decide) (.slice Ao pl.length co) pl.length (pl.flatMap Sv.cells) (by rfl) (HOX.out.row.below (bt (al X _) (qdr (Below.refl _ _)))).own ⟨X.heap.size, 0, none⟩ 1 1 (Sv.cells ⟨x, .slice A1 x.e.length c1, .slice A2 x.f.length c2⟩) (by rfl) (by rfl) (World.news_of_block (cs := #[.int .i64 x.kind, .string (str x.reg), .string (str x.name), .slice A1 x.e.length c1, .slice A2 x.f.length c2, .int .i64 x.n, .int .i64 x.body, .int .i64 x.els, .int .i64 x.pos]) (t := 31) (fr := (0, 0)) (heap_alloc_new X _)) (by simp [Sv.cells, Value.oneCell']) (by decide) HT2.out.1 HT2.out.2 (Nat.le_trans HGS.out (al X _).size) (X.heap.size + 1) (by simp) ?_; intro gg cap wa hown hgrow hat hlt; have HPG := (HOX.out.pq.below (bt (al X _) (qdr (Below.refl _ _)))).grown hgrow (fun e => by have := (HOX.out.row.own.lt g e).1; omega); have a5 := HPG.c5; have af := HPG.fr 5))
      all_goals
        have HAP := Lib.hid (one_apP (x := ⟨x, .slice A1 x.e.length c1, .slice A2 x.f.length c2⟩) HOX.out.pq HOX.out.row HOX.out.ctx ⟨.inl HOX.out.tg, fun k hk => hk.elim (fun h => Nat.lt_of_lt_of_le (HOX.out.tl k h) HOX.out.kp.size) (fun h => by subst h; exact HOX.out.sb.lt)⟩ HOX.out.off (bt (al X _) (qdr (Below.refl _ _))) (by simpa using hown) hgrow (by
          rcases hat with e | e
          · exact .inl e.symm
          · refine .inr ?_
            show some gg = some _
            rw [e]; simp) HOX.out.n1 HOX.out.n0 HOX.out.im)
        have HRY := Lib.hid HAP.out.1
        have HKY := Lib.hid ((KR.of _ HOX.out.kp).trans HAP.out.2)
        have HSY := Lib.hid (HOX.out.sb.kr HAP.out.2 (fun e => by have := HOX.out.hq; have := HRW.out.pq.lt; omega) HOX.out.own)
        have HQN := Lib.hid (HAP.out.2.ne HOX.out.sb.lt HOX.out.own)
        clear HAP hown hgrow hat hlt HPG a5 af hca HOX HT2 HGS pl0 p0 p1' p2 p3 p4 p5 pf bl b0 b1 b2 b3 b4 b5 b6 b7 b8 bfr
        generalize World.setCell wa _ _ = Y at HRY HKY HSY ⊢
        obtain ⟨yl, y0, y1, y2, y3, y4, y5, yf⟩ := HRY.out.pq
        obtain ⟨sl, s0, s1, s2, s3, s4, s5, s6, s7, s8, sfr⟩ := HSY.out
        have HXK : Hid (x.kind = 13) := by
          have hc := run_kind HRUN.out
          exact hc
        rw [HXK.out] at s0
        go_wp2_with (go_at_call 52; refine (psign_c l hl [59] g _ _ j (Nat.le_trans HRY.out.im (by decide)) e1 p1 _ HRY.out.pq HRY.out.ctx).mono ?_; rintro r w2 ⟨rfl, hk2, hp2⟩)
        first | refine bodyPost_end (results_none rfl _ _ _) rfl ?_ | refine bodyPost_ret (results_none rfl _ _ _) rfl ?_
        exact ⟨_, _, _, _, [⟨x, .slice A1 x.e.length c1, .slice A2 x.f.length c2⟩], rfl, (HRY.out.keep hk2 hp2 (mI_le _ _ _ _) (mI_lt hl _ HRY.out.im _) mE_zero).mono (fun k hk => .inl hk) HRW.out.tg, HKY.out.trans (KR.of _ hk2), one_sign (fun h => HN0.out h.2) (by decide) (by decide) HRUN.out _ _⟩
theorem poneS_c (l : List Tok) (hl : l.length ≤ 100000) (htx : ∀ t ∈ l, t.text.length ≤ 1000000) (d : Nat) (hd : d ≤ 12) (HB : BlkP l d) (g : Nat) (T : Nat → Prop) (v o : Value) (i : Nat) (p : Int) (pl : List Sv) (n : Nat) (w : World) (hn : n + 1 + d ≤ 100) (h : RX (n : Int) l g T v o w i 0 p pl) (k : Nat) (hk : kindAt l i = k) (hin : i < l.length) (h2 : 2 ≤ k) (h14 : k ≤ 14) (h1 : ((k : Int) == 1) = false) (h11 : ((k : Int) == 11) = false) (h12 : ((k : Int) == 12) = false) (h13 : ((k : Int) == 13) = false) :
    Calls Tryz.prog 53 #[.pointer (some ⟨g, 0, none⟩), .int .i64 (12 - (d : Int))] w (OnePoP (n : Int) l (oneR (blkR l d) (decide (0 < n)) l i) g T v o p pl w) := by
  have HK2 := Lib.hid h2
  have HK14 := Lib.hid h14
  have HK11 : Hid (k ≠ 11) := fun e => by subst e; exact absurd h11 (by decide)
  have HK12 : Hid (k ≠ 12) := fun e => by subst e; exact absurd h12 (by decide)
  have HK13 : Hid (k ≠ 13) := fun e => by subst e; exact absurd h13 (by decide)
  have b1 : ((k : Int) != 1) = true := by rw [bne, h1]; rfl
  have b11 : ((k : Int) != 11) = true := by rw [bne, h11]; rfl
  have b12 : ((k : Int) != 12) = true := by rw [bne, h12]; rfl
  obtain ⟨S1, HS1⟩ : ∃ S1, Hid (str (hasS k) = S1) := ⟨_, rfl⟩
  obtain ⟨S, HSS⟩ : ∃ S, Hid (str (lettS k) = S) := ⟨_, rfl⟩
  have HHAS : Hid (∀ u, Calls Tryz.prog 22 #[.int .i64 (k : Int)] u fun e w' => e = .returned (.string S1) ∧ Below u.heap.size u w') := fun u => by rw [← HS1.out]; exact has_c k (by have := HK14.out; omega) u
  have HTRIM : Hid (∀ u, Calls Tryz.prog 76 #[.string S1, .string ⟨#[98]⟩] u fun e w' => e = .returned (.string S) ∧ u = w') := fun u => by rw [← HS1.out, ← HSS.out]; exact lett_c k (by have := HK14.out; omega) u
  have HLEN : Hid (S.size = (lettS k).length) := by show _ = _; rw [← HSS.out]; exact (str_get _).1
  have HGET : Hid (∀ j (h : j < S.size), ∃ h2 : j < (lettS k).length, S[j] = (lettS k)[j]) := fun j h => by
    have hlen := HLEN.out
    have h2 : j < (lettS k).length := by omega
    refine ⟨h2, ?_⟩
    have hs := HSS.out
    subst hs
    exact (str_get _).2 j h h2
  have HRW := Lib.hid h
  have HBB := Lib.hid HB
  clear HB
  obtain ⟨Ao, co, hoe⟩ := own_shape h.row.own
  subst hoe
  obtain ⟨i0, hi0, hz0, hz1, hz2⟩ := info_parts info_stmt
  have HIN : Hid (i < l.length) := hin
  obtain ⟨bt0, offt, c, hE, hct, hbt, hatt⟩ := h.ctx.at_ (by omega)
  subst hE
  have HPP : Hid (posAt l i = (tk l i).pos) := by show _ = _; unfold posAt; rw [if_pos HIN.out]
  have HPOS : Hid (∀ u, Keep g w u → u.cell? ⟨bt0, offt + i * 4 + 3, none⟩ = some (.int .i64 (posAt l i))) := fun u hu => by
    have h := hatt u (hu.below (Nat.le_of_lt HRW.out.pq.lt)) i HIN.out
    rw [← tk_at HIN.out] at h
    rw [HPP.out]
    exact h.pos
  clear hatt hct
  have hlt1 : decide ((i : Int) < (l.length : Int)) = true := by simp; omega
  have hlt2 : decide (i < l.length) = true := by simp; omega
  have hin2 : (i : Int) < (l.length : Int) := by omega
  have hi0n : (0 : Int) ≤ (i : Int) := Int.natCast_nonneg _
  have HKD : Hid (∀ u, Below w.heap.size w u → Calls Tryz.prog 75 #[.pointer (some ⟨g, 0, none⟩)] u fun r w' => r = .returned (.int .i64 (k : Int)) ∧ Below u.heap.size u w') := fun u hu => by
    have hh := pkind_c l hl g _ _ i 0 p u (HRW.out.below hu).pq (HRW.out.below hu).ctx
    rw [hk] at hh
    exact hh
  obtain ⟨pl0, p0, p1, p2, p3, p4, p5, pf⟩ := h.pq
  rw [oneR_kind hk]
  obtain ⟨P, HPA⟩ : ∃ P, Hid (posAt l i = P) := ⟨_, rfl⟩
  rw [HPA.out]
  have HKK := Lib.hid hk
  clear hk h
  go_enter Tryz.func53, Tryz.ntmps53
  go_upto_region 2 with (go_at_call 75; refine (HKD.out _ (Below.refl _ _)).mono ?_; rintro r w1 ⟨rfl, hb1⟩)
  have HSB : Hid (SB (w1.alloc (.cells #[.int .i64 (k : Int), .string ⟨#[]⟩, .string ⟨#[]⟩, .slice none 0 0, .slice none 0 0, .int .i64 0, .int .i64 0, .int .i64 0, .int .i64 0] 31)) w1.heap.size { zeroS with kind := (k : Int) } (.slice none 0 0) (.slice none 0 0)) := sb_new w1 { zeroS with kind := (k : Int) } (.slice none 0 0) (.slice none 0 0)
  have HBX : Hid (Below w.heap.size w (w1.alloc (.cells #[.int .i64 (k : Int), .string ⟨#[]⟩, .string ⟨#[]⟩, .slice none 0 0, .slice none 0 0, .int .i64 0, .int .i64 0, .int .i64 0, .int .i64 0] 31))) := bt hb1 (al _ _)
  have HWQ : Hid (w.heap.size ≤ w1.heap.size) := hb1.size
  clear hb1 pl0 p0 p1 p2 p3 p4 p5 pf
  generalize w1.heap.size = q at HSB HWQ ⊢
  generalize World.alloc w1 _ = X at HSB HBX ⊢
  have HGQ : Hid (g < q) := Nat.lt_of_lt_of_le HRW.out.pq.lt HWQ.out
  obtain ⟨pl0, p0, p1, p2, p3, p4, p5, pf⟩ := (HRW.out.below HBX.out).pq
  obtain ⟨sl, s0, s1, s2, s3, s4, s5, s6, s7, s8, sfr⟩ := HSB.out
  go_quiet (fail)
  replace HSB := Lib.hid (HSB.out.drewN nq)
  replace HBX := Lib.hid (qdrN HBX.out nq)
  clear pl0 p0 p1 p2 p3 p4 p5 pf sl s0 s1 s2 s3 s4 s5 s6 s7 s8 sfr
  generalize World.drewN _ _ = X at HSB HBX ⊢
  obtain ⟨pl0, p0, p1, p2, p3, p4, p5, pf⟩ := (HRW.out.below HBX.out).pq
  obtain ⟨sl, s0, s1, s2, s3, s4, s5, s6, s7, s8, sfr⟩ := HSB.out
  have sf8 := sfr 8
  have hpos := HPOS.out X (Keep.of HBX.out)
  rw [HPA.out] at hpos
  go_upto_region 3 with fail
  go_region
  have HSX := Lib.hid ((HSB.out.setPos P).keep (g := q + 1) (Keep.refl (q + 1) _).drew (Nat.ne_of_lt (Nat.lt_succ_self q)))
  have HKX := Lib.hid (((Keep.of (g := g) HBX.out).above HWQ.out 8 (.int .i64 P)).drew)
  have HPX := Lib.hid (((HRW.out.below HBX.out).pq.other (j := 8) (u := .int .i64 P) (Nat.ne_of_lt HGQ.out)).drew)
  clear pl0 p0 p1 p2 p3 p4 p5 pf sl s0 s1 s2 s3 s4 s5 s6 s7 s8 sfr sf8 hpos HSB HBX
  generalize World.drew _ = X at HSX HKX HPX ⊢
  obtain ⟨pl0, p0, p1, p2, p3, p4, p5, pf⟩ := HPX.out
  obtain ⟨sl, s0, s1, s2, s3, s4, s5, s6, s7, s8, sfr⟩ := HSX.out
  have HII : Hid (i + 1 ≤ 1000000) := by have := HIN.out; show _ ≤ _; omega
  have him : (i : Int) ≤ 1000000 := by have := HIN.out; omega
  have pf1 := pf 1
  go_upto_region 8 with fail
  rw [show (i : Int) + 1 = ((i + 1 : Nat) : Int) by omega]
  have HPY : Hid (PS (n : Int) (X.setCell ⟨g, 1, none⟩ (.int .i64 ((i + 1 : Nat) : Int))) g _ ((i + 1 : Nat) : Int) 0 p _) := HPX.out.set1 _
  have HSY := Lib.hid (HSX.out.keep ((Keep.refl g X).set 1 (.int .i64 ((i + 1 : Nat) : Int))) (Nat.ne_of_gt HGQ.out))
  have HKY := Lib.hid (HKX.out.trans ((Keep.refl g X).set 1 (.int .i64 ((i + 1 : Nat) : Int))))
  clear pl0 p0 p1 p2 p3 p4 p5 pf sl s0 s1 s2 s3 s4 s5 s6 s7 s8 sfr pf1 him HPX HSX HKX
  generalize World.setCell X _ _ = Y at HPY HSY HKY ⊢
  obtain ⟨pl0, p0, p1, p2, p3, p4, p5, pf⟩ := HPY.out
  obtain ⟨sl, s0, s1, s2, s3, s4, s5, s6, s7, s8, sfr⟩ := HSY.out
  go_upto_region 10 with (first
    | (go_at_call 22; (with_reducible refine (HHAS.out _).mono ?_); rintro r w3 ⟨rfl, hb3⟩)
    | (go_at_call 76; (with_reducible refine (HTRIM.out _).mono ?_); rintro r w4 ⟨rfl, rfl⟩))
  have HWX : Hid (WX (n : Int) l g _ _ w3 q w3 ⟨{ zeroS with kind := (k : Int), pos := P }, (i + 1), 0, p⟩ (.slice none 0 0) (.slice none 0 0)) :=
    ⟨HPY.out.below hb3, HSY.out.below hb3, ⟨Sl.nil _ _ _, Unf.nil _ _ _⟩, ⟨Sl.nil _ _ _, Unf.nil _ _ _⟩, fresh_nil _ _ _, fresh_nil _ _ _, (HRW.out.ctx.keep HKY.out HRW.out.pq.lt).keep (Keep.of hb3) HPY.out.lt, Keep2.refl _ _ _, (HSY.out.below hb3).lt, HGQ.out, HII.out⟩
  have HK0 := Lib.hid (HKY.out.trans (Keep.of hb3))
  obtain ⟨R0, HR0⟩ : ∃ R0, Hid (runS l ⟨{ zeroS with kind := (k : Int), pos := P }, (i + 1), 0, p⟩ (opsS k) = R0) := ⟨_, rfl⟩
  clear pl0 p0 p1 p2 p3 p4 p5 pf sl s0 s1 s2 s3 s4 s5 s6 s7 s8 sfr HPY HSY HKY hb3 HHAS HTRIM
  go_loopw [68] (fun b wr => ∃ j : Nat, j ≤ S.size ∧ b = .int .i64 j ∧ ∃ σ ev fv, WX (n : Int) l g (.slice (some ⟨bt0, offt, none⟩) l.length c) (.slice Ao pl.length co) w3 q wr σ ev fv ∧ runS l σ (opsOf2 ((lettS k).drop j) j) = R0) (fun b _ => S.size - (intOf b).toNat)
  case atStart => exact ⟨0, Nat.zero_le _, rfl, _, _, _, HWX.out, HR0.out⟩
  case round =>
    obtain ⟨j, hjs, rfl, σ, ev, fv, hwx, hrun⟩ := hrel
    have HWJ := Lib.hid hwx
    have HRJ := Lib.hid hrun
    clear hwx hrun
    by_cases hlt : j < S.size
    · obtain ⟨hj2, hgj⟩ := HGET.out j hlt
      have HGJ := Lib.hid hgj
      have HJ2 := Lib.hid hj2
      have HLJ : Hid (S[j] = 114 ∨ S[j] = 110 ∨ S[j] = 101 ∨ S[j] = 102 ∨ S[j] = 107) := by show _ ∨ _; rw [hgj]; exact (lett_in k (by have := HK14.out; omega) _ (List.getElem_mem hj2)).2
      clear hgj
      have hjb : (j : Int) ≤ 4 := by have := lett_len k (by have := HK14.out; omega); omega
      go_wp2_with (go_at_call 77; refine (part_c l hl htx g q _ _ w3 _ σ ev fv S[j] HLJ.out j HWJ.out).mono ?_; rintro r w5 ⟨rfl, ev', fv', hwx'⟩)
      go_roundw
      case rel => exact ⟨j + 1, by omega, by go_num, _, ev', fv', hwx', by rw [HGJ.out, run_letter l σ _ j HJ2.out]; exact HRJ.out⟩
      case measure => simp only [intOf]; omega
    · obtain rfl : j = S.size := by omega
      have hR : σ = R0 := by
        have := HRJ.out
        rw [HLEN.out, List.drop_length] at this
        exact this
      subst hR
      obtain ⟨x, j, e1, p1⟩ := σ
      have HRUN : Hid (runS l ⟨{ zeroS with kind := (k : Nat), pos := P }, if (k : Nat) = 1 then i else i + 1, 0, p⟩ (opsS k) = ⟨x, j, e1, p1⟩) := by rw [if_neg (by have := HK2.out; omega)]; exact HR0.out
      have HOX := Lib.hid (oxp_new HRW.out HK0.out HWQ.out HWJ.out rfl (by
        have := run_mono l (opsS k) ⟨{ zeroS with kind := (k : Int), pos := P }, (i + 1), 0, p⟩
        rw [HR0.out] at this
        exact Nat.le_trans (Nat.le_succ i) this) (fun he => part_lt HRUN.out he))
      obtain ⟨A1, c1, rfl, _⟩ := HWJ.out.ne.shape
      obtain ⟨A2, c2, rfl, _⟩ := HWJ.out.nf.shape
      clear hlt hjs HWX HRJ HWJ HR0 HGET HLEN HK0
      generalize wr = X at HOX ⊢
      obtain ⟨pl0, p0, p1', p2, p3, p4, p5, pf⟩ := HOX.out.pq
      obtain ⟨bl, b0, b1, b2, b3, b4, b5, b6, b7, b8, bfr⟩ := HOX.out.sb
      go_upto_region 14 with fail
      have HT2 : Hid (pl.length + 1 ≤ maxLen ∧ (pl.length + 1) * 120 ≤ 140737488355328) := by have := HRW.out.n1; have := HRW.out.im; show _ ∧ _; unfold maxLen; constructor <;> omega
      have HGS : Hid (g + 1 ≤ X.heap.size) := HOX.out.pq.lt
      have hca := ((al X (.cells #[.int .i64 x.kind, .string (str x.reg), .string (str x.name), .slice A1 x.e.length c1, .slice A2 x.f.length c2, .int .i64 x.n, .int .i64 x.body, .int .i64 x.els, .int .i64 x.pos] 31)).cell (p := ⟨g, 5, none⟩) HOX.out.pq.lt).trans p5
      go_region_law
        ((refine step_append_lies _ (by rfl) _ _ _ (by rfl) (g + 1) 31 i0 _ 9 120 Tryz.underlying24 hi0 hz0 hz1 hz2 rfl (by decide) (.slice Ao pl.length co) pl.length (pl.flatMap Sv.cells) (by rfl) (HOX.out.row.below (bt (al X _) (qdr (Below.refl _ _)))).own ⟨X.heap.size, 0, none⟩ 1 1 (Sv.cells ⟨x, .slice A1 x.e.length c1, .slice A2 x.f.length c2⟩) (by rfl) (by rfl) (World.news_of_block (cs := #[.int .i64 x.kind, .string (str x.reg), .string (str x.name), .slice A1 x.e.length c1, .slice A2 x.f.length c2, .int .i64 x.n, .int .i64 x.body, .int .i64 x.els, .int .i64 x.pos]) (t := 31) (fr := (0, 0)) (heap_alloc_new X _)) (by simp [Sv.cells, Value.oneCell']) (by decide) HT2.out.1 HT2.out.2 (Nat.le_trans HGS.out (al X _).size) (X.heap.size + 1) (by simp) ?_; intro gg cap wa hown hgrow hat hlt; have HPG := (HOX.out.pq.below (bt (al X _) (qdr (Below.refl _ _)))).grown hgrow (fun e => by have := (HOX.out.row.own.lt g e).1; omega); have a5 := HPG.c5; have af := HPG.fr 5))
      all_goals
        have HAP := Lib.hid (one_apP (x := ⟨x, .slice A1 x.e.length c1, .slice A2 x.f.length c2⟩) HOX.out.pq HOX.out.row HOX.out.ctx ⟨.inl HOX.out.tg, fun k hk => hk.elim (fun h => Nat.lt_of_lt_of_le (HOX.out.tl k h) HOX.out.kp.size) (fun h => by subst h; exact HOX.out.sb.lt)⟩ HOX.out.off (bt (al X _) (qdr (Below.refl _ _))) (by simpa using hown) hgrow (by
          rcases hat with e | e
          · exact .inl e.symm
          · refine .inr ?_
            show some gg = some _
            rw [e]; simp) HOX.out.n1 HOX.out.n0 HOX.out.im)
        have HRY := Lib.hid HAP.out.1
        have HKY := Lib.hid ((KR.of _ HOX.out.kp).trans HAP.out.2)
        have HSY := Lib.hid (HOX.out.sb.kr HAP.out.2 (fun e => by have := HOX.out.hq; have := HRW.out.pq.lt; omega) HOX.out.own)
        have HQN := Lib.hid (HAP.out.2.ne HOX.out.sb.lt HOX.out.own)
        clear HAP hown hgrow hat hlt HPG a5 af hca HOX HT2 HGS pl0 p0 p1' p2 p3 p4 p5 pf bl b0 b1 b2 b3 b4 b5 b6 b7 b8 bfr
        generalize World.setCell wa _ _ = Y at HRY HKY HSY ⊢
        obtain ⟨yl, y0, y1, y2, y3, y4, y5, yf⟩ := HRY.out.pq
        obtain ⟨sl, s0, s1, s2, s3, s4, s5, s6, s7, s8, sfr⟩ := HSY.out
        have HXK : Hid (x.kind = (k : Int)) := by
          have hc := run_kind HRUN.out
          exact hc
        rw [HXK.out] at s0
        go_wp2_with (go_at_call 52; refine (psign_c l hl [59] g _ _ j (Nat.le_trans HRY.out.im (by decide)) e1 p1 _ HRY.out.pq HRY.out.ctx).mono ?_; rintro r w2 ⟨rfl, hk2, hp2⟩)
        first | refine bodyPost_end (results_none rfl _ _ _) rfl ?_ | refine bodyPost_ret (results_none rfl _ _ _) rfl ?_
        exact ⟨_, _, _, _, [⟨x, .slice A1 x.e.length c1, .slice A2 x.f.length c2⟩], rfl, (HRY.out.keep hk2 hp2 (mI_le _ _ _ _) (mI_lt hl _ HRY.out.im _) mE_zero).mono (fun k hk => .inl hk) HRW.out.tg, HKY.out.trans (KR.of _ hk2), one_sign (fun h => HK13.out h.1) HK11.out HK12.out HRUN.out _ _⟩
end Go.Proofs.YtaoeaaebafcegaaGreatDoor

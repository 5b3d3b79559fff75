/- The pick that a line may be: the program's walk. -/
import Derived.Test.YtcgcndmlgfnjbaaGreatDoorSchI
import Derived.Test.YtcgcndmlgfnjbaaGreatDoorSchOff
import Derived.Test.YtcgcndmlgfnjbaaGreatDoorWParse
namespace Go.Proofs.YtcgcndmlgfnjbaaGreatDoor
open Go Go.RowKit Go.Maps
set_option linter.unusedVariables false
/-- words' texts are no longer than the line -/
theorem split_le : ∀ (s : List UInt8), (∀ x ∈ splitK s, x.length ≤ s.length) ∧ (splitK s).length ≤ s.length + 1
  | [] => by simp [splitK]
  | c :: r => by
    obtain ⟨h1, h2⟩ := split_le r
    unfold splitK
    split
    · refine ⟨fun x hx => ?_, by simp only [List.length_cons]; omega⟩
      rcases List.mem_cons.1 hx with rfl | hx
      · simp
      · have := h1 x hx; simp only [List.length_cons]; omega
    · cases hs : splitK r with
      | nil => exact absurd hs (splitK_ne r)
      | cons y ys =>
        rw [hs] at h1 h2
        refine ⟨fun x hx => ?_, by simp only [List.length_cons] at h2 ⊢; omega⟩
        rcases List.mem_cons.1 hx with rfl | hx
        · have := h1 y (by simp); simp only [List.length_cons]; omega
        · have := h1 x (by simp [hx]); simp only [List.length_cons]; omega
theorem nums_snoc (l : List (List UInt8)) (x : List UInt8) : numsK (l ++ [x]) = match numsK l with
    | none => none
    | some ns => if (numE x).2 = 0 then some (ns ++ [(numE x).1]) else none := by
  induction l with
  | nil => rw [List.nil_append]; unfold numsK; simp only [numsK]; split <;> rfl
  | cons a l ih =>
    rw [List.cons_append, numsK, ih]
    rw [numsK]
    by_cases h : (numE a).2 = 0
    · rw [if_pos h, if_pos h]
      cases numsK l with
      | none => rfl
      | some ns =>
        simp only [Option.map_some]
        split <;> rfl
    · rw [if_neg h, if_neg h]
theorem nums_none (l : List (List UInt8)) (r : List (List UInt8)) (h : numsK l = none) : numsK (l ++ r) = none := by
  induction l with
  | nil => cases h
  | cons a l ih =>
    rw [List.cons_append, numsK]
    rw [numsK] at h
    by_cases h0 : (numE a).2 = 0
    · rw [if_pos h0] at h ⊢
      cases hl : numsK l with
      | none => rw [ih hl]; rfl
      | some ns => rw [hl] at h; cases h
    · rw [if_neg h0]
theorem info_int : (Tryz.prog.info? 3).map (fun i => (i.zero, i.size, i.bytes)) = some (some (.int .i64 0), 1, 8) := by kernel_rfl
theorem Strs.shape {w : World} {v : Value} {l : List (List UInt8)} (h : Strs w v l) : ∃ A c, v = .slice A l.length c ∧ l.length ≤ c := by
  obtain ⟨_, A, c, hv, hc, _⟩ := h; exact ⟨A, c, hv, hc⟩
theorem Strs.at_ {w : World} {v : Value} {l : List (List UInt8)} (h : Strs w v l) (h0 : 0 < l.length) :
    ∃ b off c, v = .slice (some ⟨b, off, none⟩) l.length c ∧ l.length ≤ c ∧ b < w.heap.size ∧ ∀ i (hi : i < l.length), w.cell? ⟨b, off + i, none⟩ = some (.string (str l[i])) := by
  obtain ⟨_, A, c, hv, hc, hf⟩ := h
  obtain ⟨b, off, hA, hlt, hcell⟩ := hf h0
  subst hA
  refine ⟨b, off, c, hv, hc, hlt, fun i hi => ?_⟩
  have hg := flat_getElem strCell 1 (fun _ => rfl) l i 0 hi (by omega)
  have := hcell (i * 1 + 0) _ hg
  rw [show off + (i * 1 + 0) = off + i by omega] at this
  exact this
/-- a pick that is told, in memory of the call's own -/
def PickPost (p : Pk) (w : World) (e : Ending) (w' : World) : Prop := ∃ A c, e = .returned (pkV p (.slice A p.cut.length c)) ∧ Off (Old w.heap.size) w' (fun u => Zs u (.slice A p.cut.length c) p.cut) ∧ Below w.heap.size w w'
set_option maxRecDepth 100000 in
set_option maxHeartbeats 8000000 in
theorem ppick_c (s : List UInt8) (hs : s.length ≤ 1000000) (w : World) (hE : Env w) :
    Calls Tryz.prog 80 #[.string (str s)] w (PickPost (pickP (splitK s)) w) := by
  obtain ⟨i0, hi0, hz0, hz1, hz2⟩ := info_parts info_int
  obtain ⟨hle, hln⟩ := split_le s
  have hne := splitK_ne s
  have hSP := fun (u : World) (hu : Env u) => psplit_c s hs u hu
  generalize splitK s = ws at hSP hle hln hne ⊢
  obtain ⟨x, r, rfl⟩ : ∃ x r, ws = x :: r := by
    cases ws with
    | nil => exact absurd rfl hne
    | cons x r => exact ⟨x, r, rfl⟩
  have HSP : Hid (∀ u, Env u → Calls Tryz.prog 61 #[.string (str s), .string ⟨#[32]⟩] u fun e w' => e = .returned (.slice (some ⟨u.heap.size, 0, none⟩) (r.length + 1) (r.length + 1)) ∧ Strs w' (.slice (some ⟨u.heap.size, 0, none⟩) (r.length + 1) (r.length + 1)) (x :: r) ∧ Below u.heap.size u w') := fun u hu => hSP u hu
  clear hSP
  have HE := Lib.hid hE
  clear hE
  go_enter Tryz.func80, Tryz.ntmps80
  go_upto_region 2 with (go_at_call 61; refine (HSP.out _ (HE.out.below (al _ _))).mono ?_; rintro e w1 ⟨rfl, hv1, hb1⟩)
  generalize hW : World.alloc w _ = wd at hv1 hb1
  have hwd : Below w.heap.size w wd := by subst hW; exact al _ _
  have hsz : wd.heap.size = w.heap.size + 1 := by subst hW; exact World.size_alloc _ _
  have hPR : PkB wd w.heap.size zeroK (.slice none 0 0) := by subst hW; exact pkB_new w zeroK _
  have hb1w := bt hwd hb1
  rw [hsz] at hv1
  have hR : w.heap.size < wd.heap.size := by omega
  have hg := hPR.below hb1 hR
  have hlt1 : w.heap.size < w1.heap.size := Nat.lt_of_lt_of_le hR hb1.size
  obtain ⟨b0, o0, k0, hE0, _, hbt0, hat0⟩ := Strs.at_ (l := x :: r) hv1 (by simp)
  cases hE0
  have hx0 := hat0 0 (by simp)
  rw [Nat.zero_add] at hx0
  have hx0 : w1.cell? ⟨w.heap.size + 1, 0, none⟩ = some (.string (str x)) := hx0
  have HAT := Lib.hid hat0
  have HB1 := Lib.hid hb1w
  have HXL : Hid (x.length ≤ 1000000) := by have := hle x (by simp); show _ ≤ _; omega
  have HLE : Hid (∀ y ∈ r, y.length ≤ 1000000) := fun y hy => by have := hle y (by simp [hy]); omega
  have HRL : Hid (r.length ≤ 1000000) := by show _ ≤ _; simp only [List.length_cons] at hln; omega
  have HGG := Lib.hid hg
  clear hW hwd hsz hb1 hb1w hPR hg hR hat0 hv1 HSP hle hln hne hs
  have hn1 : ¬ (w.heap.size + 1 = w1.heap.size) := by omega
  have hn2 : ¬ (w1.heap.size = w.heap.size + 1) := by omega
  have hlen0 : (0 : Int) < (r.length : Int) + 1 := by omega
  go_cut [4] from 12 to 17 (fun v wx => ∃ pb, v = .pointer (some ⟨pb, 0, none⟩) ∧ Below w1.heap.size w1 wx ∧ w1.heap.size ≤ pb ∧ pb < wx.heap.size ∧ PkB wx pb ⟨kindK x, 0, 0, []⟩ (.slice none 0 0))
  case first =>
    go_region_held3 (fun w' => w'.cell? ⟨w.heap.size + 1, 0, none⟩ = some (.string (str x))) (first | assumption | go_keep | exact keep4 hn1 (by assumption))
      (first | (go_at_call 96; refine (kinds_c _).mono ?_; rintro e w2 ⟨g, rfl, hk⟩; have hlk0 : (Instr.lookup 114 (.map (some g)) (.string (str x)) false).run Tryz.prog w2 = .ok (.int .i64 (kindK x)) w2 := kind_look hk x HXL.out 0; have hlk1 : (Instr.lookup 114 (.map (some g)) (.string (str x)) false).run Tryz.prog w2.drew = .ok (.int .i64 (kindK x)) w2.drew := kind_look hk x HXL.out 1; (try have hlk2 : (Instr.lookup 114 (.map (some g)) (.string (str x)) false).run Tryz.prog (w2.alloc (.cells #[.int .i64 0, .int .i64 0, .int .i64 0, .slice none 0 0] 48)) = .ok (.int .i64 (kindK x)) (w2.alloc (.cells #[.int .i64 0, .int .i64 0, .int .i64 0, .slice none 0 0] 48)) := kind_lookA hk x HXL.out 0 _); have hcx := (hk.below.cell (p := ⟨w.heap.size + 1, 0, none⟩) (by first | exact hbt0 | exact Nat.lt_of_lt_of_le hbt0 (al w1 _).size)).trans (by first | exact hx0 | exact ((al w1 _).cell (p := ⟨_, 0, none⟩) hbt0).trans hx0); (first | (have pk := kind_kept (below_undrew hk.below) w1.heap.size rfl; obtain ⟨p0, p1, p2, p3, p4, p5, p6, p7, p8⟩ := pk) | skip)))
    all_goals
      go_wp2_with fail
      go_meet
      first
        | exact ⟨_, rfl, (below_undrew hk.below).alloc (below_undrew hk.below).size _, hk.below.size, by rw [World.size_alloc]; omega, pkB_new w2 ⟨kindK x, 0, 0, []⟩ _⟩
        | (obtain ⟨q0, q1, q2, q3⟩ := set4_kept (a := .int .i64 (kindK x)) (b := .int .i64 0) (c := .int .i64 0) (d := .slice none 0 0) p0 p1 p2 p3
           exact ⟨w1.heap.size, rfl, below_set (below_set (below_set (below_set ((al w1 _).trans ((below_undrew hk.below).mono (al w1 _).size)) (Nat.le_refl _) _) (Nat.le_refl _) _) (Nat.le_refl _) _) (Nat.le_refl _) _, Nat.le_refl _, by simpa using p8, ⟨⟨q0, q1, q2, q3⟩, by simpa using p4, by simpa using p5, by simpa using p6, by simpa using p7⟩⟩)
  case rest =>
    obtain ⟨pb, rfl, hbw, hpb1, hpb2, hP⟩ := hcut
    have HBW := Lib.hid hbw
    have HP := Lib.hid hP
    have hrl := HRL.out
    have HATC : Hid (∀ u, Below wc.heap.size wc u → ∀ j (h : j < r.length), u.cell? ⟨w.heap.size + 1, 1 + j, none⟩ = some (.string (str r[j]))) := fun u hu j h => by
      have h1 := HAT.out (j + 1) (by simp; omega)
      rw [show 0 + (j + 1) = 1 + j by omega] at h1
      exact (hu.cell (p := ⟨w.heap.size + 1, 1 + j, none⟩) (Nat.lt_of_lt_of_le hbt0 hbw.size)).trans ((hbw.cell (p := ⟨w.heap.size + 1, 1 + j, none⟩) hbt0).trans h1)
    have HR0 : Hid (w.heap.size < w1.heap.size) := hlt1
    have HG : Hid (∀ u, Below w1.heap.size w1 u → PkB u w.heap.size zeroK (.slice none 0 0)) := fun u hu => HGG.out.below hu hlt1
    have HEW : Hid (Env wc) := HE.out.below (bt HB1.out hbw)
    have HPB : Hid (w1.heap.size ≤ pb ∧ pb < wc.heap.size) := ⟨hpb1, hpb2⟩
    clear HGG hbt0 hx0 hbw hP hpb1 hpb2 hn1 hn2 hlt1 HAT HE
    have hlen2 : (1 : Int) ≤ (r.length : Int) + 1 := by omega
    go_upto_region 4 with fail
    go_cut [19, 20, 21] from 18 to 21 (fun v n k wx => wx = wc ∧ (∃ A c, v = .slice A r.length c ∧ (0 < r.length → A = some ⟨w.heap.size + 1, 1, none⟩)) ∧ n = .int .i64 r.length ∧ k = .int .i64 0)
    case first =>
      by_cases hr : r = []
      · go_wp2_with fail
        go_meet
        subst hr
        exact ⟨by trivial, ⟨_, _, rfl, fun h => absurd h (by simp)⟩, rfl, rfl⟩
      · go_wp2_with fail
        go_meet
        exact ⟨by trivial, ⟨_, _, rfl, fun _ => rfl⟩, rfl, rfl⟩
    case rest =>
    obtain ⟨rfl, ⟨AP, cP, rfl, hAP⟩, rfl, rfl⟩ := hcut
    have HAP := Lib.hid hAP
    clear hAP hlen2 hlen0
    go_wp2_with fail
    go_loopw [5, 21] (fun nums k wr => Below wc.heap.size wc wr ∧ ∃ (j : Nat) (ns : List Int), j ≤ r.length ∧ k = .int .i64 j ∧ (∃ A c, nums = .slice A j c) ∧ wr.ownsRow wc.heap.size 3 1 nums j (ns.flatMap zCell) ∧ ns.length = j ∧ numsK (r.take j) = some ns) (fun _ k _ => r.length - (intOf k).toNat)
    case atStart => exact ⟨Below.refl _ _, 0, [], Nat.zero_le _, rfl, ⟨none, 0, rfl⟩, World.ownsRow_nil _ _ _ _, rfl, rfl⟩
    case round =>
      obtain ⟨hb, j, ns, hj, rfl, ⟨A, cc, rfl⟩, hown, hnl, hns⟩ := hrel
      have HB := Lib.hid hb
      have HOWN := Lib.hid hown
      have HNS := Lib.hid hns
      have HNL := Lib.hid hnl
      have HSZ : Hid (wc.heap.size ≤ wr.heap.size) := hb.size
      have hj0 : (0 : Int) ≤ (j : Int) := Int.natCast_nonneg _
      by_cases hjl : j < r.length
      · have hjl2 : (j : Int) < (r.length : Int) := by omega
        have hx0 := HATC.out wr hb j hjl
        obtain rfl := HAP.out (by omega)
        have HX : Hid (numsK (r.take (j + 1)) = if (numE r[j]).2 = 0 then some (ns ++ [(numE r[j]).1]) else none) := by
          show _ = _
          rw [List.take_succ_eq_append_getElem hjl, nums_snoc, hns]
        have HPZ : Hid (∀ u : World, Env u → Calls Tryz.prog 78 #[.string (str r[j])] u fun e w' => e = .returned (.tuple #[.int .i64 (numE r[j]).1, .int .i64 (numE r[j]).2]) ∧ Below u.heap.size u w') := fun u hu => by
          have := parse_c (str r[j]) u (by rw [str_size]; have := HLE.out _ (List.getElem_mem hjl); omega) hu
          unfold NumBPost at this
          rw [str_data] at this
          exact this
        have hDR : r = r.take (j + 1) ++ r.drop (j + 1) := (List.take_append_drop _ _).symm
        generalize r[j] = y at hx0 HX HPZ
        generalize numE y = z at HX HPZ
        obtain ⟨z1, z2⟩ := z
        simp only at HX HPZ
        clear hown hns hnl hb
        have HEU := Lib.hid (HEW.out.below HB.out)
        by_cases hz : z2 = 0
        · subst hz
          have HX2 : Hid (numsK (r.take (j + 1)) = some (ns ++ [z1])) := by show _ = _; rw [HX.out]; rfl
          have HT4 : Hid (j + 1 ≤ maxLen ∧ (j + 1) * 8 ≤ 140737488355328) := by show _ ∧ _; unfold maxLen; constructor <;> omega
          clear HX hDR
          go_wp2_with (first
            | (go_at_call 78; refine (HPZ.out _ HEU.out).mono ?_; rintro e w2 ⟨rfl, hb2⟩; have HB2 := Lib.hid hb2; clear hb2)
            | (at_builtin; refine wpl_app rfl _ _ 23 rfl wc.heap.size 3 i0 _ 1 8 Tryz.underlying23 hi0 hz0 hz1 hz2 rfl (by decide) (.slice A j cc) j (ns.flatMap zCell) rfl (own_below HOWN.out (balloc HB2.out _)) (.slice (some ⟨w2.heap.size, 0, none⟩) 1 1) 1 ([z1].flatMap zCell) rfl (sl_lit w2 [.int .i64 z1] 3 1 1 1 rfl (Nat.le_refl _)) (z_one _) HT4.out.1 HT4.out.2 (Nat.le_trans HSZ.out (Nat.le_trans HB2.out.size (al w2 _).size)) ?_; intro v6 w6 hown6 hb6; obtain ⟨A6, c6, rfl⟩ := own_shape hown6; have hB6 := btB (btB HB.out (balloc HB2.out _) HSZ.out) hb6 (Nat.le_refl _)))
          go_roundw
          case rel =>
            refine ⟨hB6, j + 1, ns ++ [z1], by omega, by go_num, ⟨A6, c6, rfl⟩, ?_, by simp [HNL.out], HX2.out⟩
            rw [List.flatMap_append]
            exact hown6
          case measure => simp [intOf]; omega
        · have hz3 : (z2 != 0) = true := by rw [bne_iff_ne]; exact hz
          have HN : Hid (pickP (x :: r) = zeroK) := by
            show _ = _
            have h2 := HX.out
            rw [if_neg hz] at h2
            rw [pickP_cons, hDR, nums_none _ _ h2]
          clear HX hDR
          go_wp2_with (first
            | (go_at_call 78; refine (HPZ.out _ HEU.out).mono ?_; rintro e w2 ⟨rfl, hb2⟩; have HB2 := Lib.hid (bt (bt HBW.out HB.out) hb2); have hPz := HG.out _ HB2.out; have q0 := hPz.at_.kind; have q1 := hPz.at_.t; have q2 := hPz.at_.i; have q3 := hPz.at_.cut; have q4 := hPz.f0; have q5 := hPz.f1; have q6 := hPz.f2; have q7 := hPz.f3; clear hb2 hPz))
          obtain ⟨t0, t1, t2, t3⟩ := set4_kept (a := .int .i64 0) (b := .int .i64 0) (c := .int .i64 0) (d := .slice none 0 0) q0 q1 q2 q3
          refine bodyPost_ret (v := pkV zeroK (.slice none 0 0)) (by simp [results, Tryz.results80, go_sem, pkV, zeroK, t0, t1, t2, t3]; try rfl) rfl ?_
          rw [HN.out]
          exact ⟨none, 0, rfl, off_nil _ _ 1 0, below_set (below_set (below_set (below_set (bt HB1.out HB2.out) (Nat.le_refl _) _) (Nat.le_refl _) _) (Nat.le_refl _) _) (Nat.le_refl _) _⟩
      · obtain rfl : j = r.length := by omega
        have hpk : pickP (x :: r) = progK (kindK x) ns := by
          rw [List.take_length] at hns
          rw [pickP_cons, hns]
        have HPK := Lib.hid hpk
        have hPw := HP.out.below hb HPB.out.2
        have hRw := HG.out wr (bt HBW.out hb)
        have hVw := sl_of_own hown
        have HBT := Lib.hid (bt (bt HB1.out HBW.out) hb)
        have HRL2 : Hid (w.heap.size < wc.heap.size) := Nat.lt_of_lt_of_le HR0.out HBW.out.size
        have HPL : Hid (w.heap.size ≤ pb) := Nat.le_trans (Nat.le_of_lt HR0.out) HPB.out.1
        have hne1 : ¬ (pb = w.heap.size) := by have := HR0.out; have := HPB.out.1; omega
        have hne2 : ¬ (w.heap.size = pb) := fun e => hne1 e.symm
        have q0 := hRw.at_.kind; have q1 := hRw.at_.t; have q2 := hRw.at_.i; have q3 := hRw.at_.cut; have q4 := hRw.f0; have q5 := hRw.f1; have q6 := hRw.f2; have q7 := hRw.f3
        have p0 := hPw.at_.kind; have p1 := hPw.at_.t; have p2 := hPw.at_.i; have p3 := hPw.at_.cut; have p4 := hPw.f0; have p5 := hPw.f1; have p6 := hPw.f2; have p7 := hPw.f3
        simp only [Nat.zero_add] at q1 q2 q3 p1 p2 p3
        have HV : Hid (Zs wr (.slice A r.length cc) ns) := by
          show SlN _ _ 1 ns.length _
          rw [hnl]; exact hVw
        have HPW := Lib.hid hPw
        have HRW := Lib.hid hRw
        clear hpk hPw hRw hVw hb hown hns HNS HATC HG HP hj hjl HLE
        rcases kind_some x with hk | hk | hk | hk
        · have HR : Hid (pickP (x :: r) = ⟨0, 0, 0, []⟩) := by show _ = _; rw [HPK.out, hk]; unfold progK; simp
          rw [hk] at p0
          clear hk HPK HV
          go_wp2_with fail
          refine bodyPost_ret (v := pkV ⟨0, 0, 0, []⟩ (.slice none 0 0)) (by simp [results, Tryz.results80, go_sem, pkV, World.cell?_setCell_other, World.cell?_setCell_same', q0, q1, q2, q3]; try rfl) rfl ?_
          rw [HR.out]
          exact ⟨none, 0, rfl, off_nil _ _ 1 0, below_set (below_set (below_set (below_set HBT.out (Nat.le_refl _) _) (Nat.le_refl _) _) (Nat.le_refl _) _) (Nat.le_refl _) _⟩
        · rw [hk] at p0
          by_cases h1 : ns.length = 1
          · obtain ⟨n0, rfl⟩ : ∃ n0, ns = [n0] := List.length_eq_one_iff.1 h1
            have hl1 : r.length = 1 := by rw [← hnl]; rfl
            have hl2 : ((r.length : Int) == 1) = true := by rw [hl1]; rfl
            have hl3 : (0 : Int) < (r.length : Int) := by omega
            have HR : Hid (pickP (x :: r) = ⟨1, n0, 0, []⟩) := by show _ = _; rw [HPK.out, hk]; unfold progK; simp
            obtain ⟨bz, oz, cz, hEz, _, _, hatz⟩ := Zs.at_ (l := [n0]) HV.out (by simp)
            rw [← hnl] at hEz
            cases hEz
            have hz := hatz 0 (by simp)
            rw [Nat.add_zero] at hz
            have hz : wr.cell? ⟨bz, oz, none⟩ = some (.int .i64 n0) := hz
            clear hk HPK HV hl1 hnl hatz h1
            go_wp2_with fail
            refine bodyPost_ret (v := pkV ⟨1, n0, 0, []⟩ (.slice none 0 0)) (by simp [results, Tryz.results80, go_sem, pkV, World.cell?_setCell_other, World.cell?_setCell_same', q0, q1, q2, q3]; try rfl) rfl ?_
            rw [HR.out]
            exact ⟨none, 0, rfl, off_nil _ _ 1 0, below_set (below_set (below_set (below_set (below_set HBT.out HPL.out _) (Nat.le_refl _) _) (Nat.le_refl _) _) (Nat.le_refl _) _) (Nat.le_refl _) _⟩
          · have hl2 : ((r.length : Int) == 1) = false := by rw [beq_eq_false_iff_ne]; omega
            have HR : Hid (pickP (x :: r) = ⟨1, 0, 0, []⟩) := by show _ = _; rw [HPK.out, hk]; unfold progK; simp [h1]
            clear hk HPK HV hnl h1
            go_wp2_with fail
            refine bodyPost_ret (v := pkV ⟨1, 0, 0, []⟩ (.slice none 0 0)) (by simp [results, Tryz.results80, go_sem, pkV, World.cell?_setCell_other, World.cell?_setCell_same', q0, q1, q2, q3]; try rfl) rfl ?_
            rw [HR.out]
            exact ⟨none, 0, rfl, off_nil _ _ 1 0, below_set (below_set (below_set (below_set HBT.out (Nat.le_refl _) _) (Nat.le_refl _) _) (Nat.le_refl _) _) (Nat.le_refl _) _⟩
        · rw [hk] at p0
          by_cases h1 : ns.length = 2
          · obtain ⟨n0, n1, rfl⟩ : ∃ n0 n1, ns = [n0, n1] := by
              match ns, h1 with
              | [a, b], _ => exact ⟨a, b, rfl⟩
            have hl1 : r.length = 2 := by rw [← hnl]; rfl
            have hl2 : ((r.length : Int) == 2) = true := by rw [hl1]; rfl
            have hl3 : (0 : Int) < (r.length : Int) := by omega
            have hl4 : (1 : Int) < (r.length : Int) := by omega
            have HR : Hid (pickP (x :: r) = ⟨2, n0, n1, []⟩) := by show _ = _; rw [HPK.out, hk]; unfold progK; simp
            obtain ⟨bz, oz, cz, hEz, _, hlz, hatz⟩ := Zs.at_ (l := [n0, n1]) HV.out (by simp)
            rw [← hnl] at hEz
            cases hEz
            have hz := hatz 0 (by simp)
            rw [Nat.add_zero] at hz
            have hz : wr.cell? ⟨bz, oz, none⟩ = some (.int .i64 n0) := hz
            have hy : wr.cell? ⟨bz, oz + 1, none⟩ = some (.int .i64 n1) := hatz 1 (by simp)
            clear HPK HV hl1 hnl hatz h1
            have hbz : wc.heap.size ≤ bz := (HOWN.out.lt bz (by simp [Value.ownBlock])).1
            have hnb1 : ¬ (bz = pb) := by have := HPB.out.2; omega
            have hnb2 : ¬ (pb = bz) := fun e => hnb1 e.symm
            go_upto_region 15 with fail
            have HRW2 := Lib.hid (pkB_far (o := 2) (u := .int .i64 n1) (pkB_far (o := 1) (u := .int .i64 n0) HRW.out hne2) hne2)
            have HPW2 : Hid (PkB wr pb ⟨2, 0, 0, []⟩ (.slice none 0 0)) := by show PkB _ _ _ _; rw [← hk]; exact HPW.out
            have HRD2 := Lib.hid HRW2.out.drew
            have HPD2 := Lib.hid (pkB_set2 HPW2.out n0 n1).drew
            have HBU : Hid (Below w.heap.size w (World.drew ((wr.setCell ⟨pb, 1, none⟩ (.int .i64 n0)).setCell ⟨pb, 2, none⟩ (.int .i64 n1)))) := bdr (below_set (below_set HBT.out HPL.out _) HPL.out _)
            clear HNL HOWN HB HEW HPB HBW HAP HXL HRL hk
            go_region
            clear HRW2 HPW HPW2 HRW hlz hz hy hbz hnb1 hnb2 p0 p1 p2 p3 p4 p5 p6 p7 q0 q1 q2 q3 q4 q5 q6 q7 hx0 hl2 hl3 hl4
            generalize World.drew _ = U at HRD2 HPD2 HBU ⊢
            have q0 := HRD2.out.at_.kind; have q1 := HRD2.out.at_.t; have q2 := HRD2.out.at_.i; have q3 := HRD2.out.at_.cut; have q4 := HRD2.out.f0; have q5 := HRD2.out.f1; have q6 := HRD2.out.f2; have q7 := HRD2.out.f3
            have p0 := HPD2.out.at_.kind; have p1 := HPD2.out.at_.t; have p2 := HPD2.out.at_.i; have p3 := HPD2.out.at_.cut; have p4 := HPD2.out.f0; have p5 := HPD2.out.f1; have p6 := HPD2.out.f2; have p7 := HPD2.out.f3
            simp only [Nat.zero_add] at q1 q2 q3 p1 p2 p3
            go_wp2_with fail
            refine bodyPost_ret (v := pkV ⟨2, n0, n1, []⟩ (.slice none 0 0)) (by simp [results, Tryz.results80, go_sem, pkV, World.cell?_setCell_other, World.cell?_setCell_same', q0, q1, q2, q3]; try rfl) rfl ?_
            rw [HR.out]
            exact ⟨none, 0, rfl, off_nil _ _ 1 0, below_set (below_set (below_set (below_set HBU.out (Nat.le_refl _) _) (Nat.le_refl _) _) (Nat.le_refl _) _) (Nat.le_refl _) _⟩
          · have hl2 : ((r.length : Int) == 2) = false := by rw [beq_eq_false_iff_ne]; omega
            have HR : Hid (pickP (x :: r) = ⟨2, 0, 0, []⟩) := by show _ = _; rw [HPK.out, hk]; unfold progK; simp [h1]
            clear hk HPK HV hnl h1
            go_wp2_with fail
            refine bodyPost_ret (v := pkV ⟨2, 0, 0, []⟩ (.slice none 0 0)) (by simp [results, Tryz.results80, go_sem, pkV, World.cell?_setCell_other, World.cell?_setCell_same', q0, q1, q2, q3]; try rfl) rfl ?_
            rw [HR.out]
            exact ⟨none, 0, rfl, off_nil _ _ 1 0, below_set (below_set (below_set (below_set HBT.out (Nat.le_refl _) _) (Nat.le_refl _) _) (Nat.le_refl _) _) (Nat.le_refl _) _⟩
        · rw [hk] at p0
          have HR : Hid (pickP (x :: r) = ⟨3, 0, 0, ns⟩) := by show _ = _; rw [HPK.out, hk]; unfold progK; simp
          clear hk HPK HV
          go_wp2_with fail
          refine bodyPost_ret (v := pkV ⟨3, 0, 0, ns⟩ (.slice A r.length cc)) (by simp [results, Tryz.results80, go_sem, pkV, World.cell?_setCell_other, World.cell?_setCell_same', q0, q1, q2, q3]; try rfl) rfl ?_
          rw [HR.out]
          refine ⟨A, cc, by rw [HNL.out], ?_, below_set (below_set (below_set (below_set (below_set HBT.out HPL.out _) (Nat.le_refl _) _) (Nat.le_refl _) _) (Nat.le_refl _) _) (Nat.le_refl _) _⟩
          show Off _ _ (fun u => SlN u (.slice A ns.length cc) 1 ns.length _)
          rw [HNL.out]
          refine off_own (base := wc.heap.size) (e := 3) ?_ (fun k hk (ho : k < w.heap.size) => by have := (HOWN.out.lt k hk).1; have := HRL2.out; omega)
          exact (own_set (own_set (own_set (own_set (own_set HOWN.out HPB.out.2 _) HRL2.out _) HRL2.out _) HRL2.out _) HRL2.out _)
end Go.Proofs.YtcgcndmlgfnjbaaGreatDoor

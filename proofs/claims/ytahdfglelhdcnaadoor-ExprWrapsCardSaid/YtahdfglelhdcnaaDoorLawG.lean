/- A right expression behind a sign of one, or with another one behind a sign of two: the walk. -/
import Derived.Test.YtahdfglelhdcnaaDoorLawE
namespace Go.Proofs.YtahdfglelhdcnaaDoor
open Go Go.RowKit
set_option linter.unusedVariables false
theorem own_shapeN {w : World} {base : Nat} {e : TypeId} {size : Nat} {v : Value} {n n2 : Nat} {xs : List Value} (hn : Hid (n2 = n)) (h : w.ownsRow base e size v n xs) : ∃ A c, v = .slice A n2 c := by
  rcases h.2 with ⟨rfl, h0⟩ | ⟨g, cap, cur, rfl, _⟩
  · exact ⟨_, _, by rw [hn.out, h0]⟩
  · exact ⟨_, _, by rw [hn.out]⟩
theorem wno_c (l m : List Nod) (hl : l.length ≤ 9223372036854775807) (hln : ∀ x ∈ l, x.name.length ≤ 9223372036854775807) (hm : m.length ≤ 9223372036854775807) (hmn : ∀ x ∈ m, x.name.length ≤ 9223372036854775807)
    (v u : Value) (w : World) (hv : Nods w v l) (hu : Nods w u m) :
    Hid (Calls Tryd.prog 16 #[v] w fun e w' => ∃ V, e = .returned V ∧ Nods w' V (cutL l) ∧ Below w.heap.size w w') ∧
    Hid (∀ x, Below w.heap.size w x → Calls Tryd.prog 16 #[u] x fun e w' => ∃ V, e = .returned V ∧ Nods w' V (cutL m) ∧ Below x.heap.size x w') :=
  ⟨Cut_c l hl hln v w hv, fun x hx => Cut_c m hm hmn u x (SlN.below hu hx)⟩
set_option maxRecDepth 100000 in
set_option maxHeartbeats 8000000 in
theorem wraps_c (l m : List Nod) (hl : l.length ≤ 9223372036854775807) (hln : ∀ x ∈ l, x.name.length ≤ 9223372036854775807) (hm : m.length ≤ 9223372036854775807) (hmn : ∀ x ∈ m, x.name.length ≤ 9223372036854775807)
    (v u : Value) (i : Int) (w : World) (hv : Nods w v l) (hu : Nods w u m) (hE : Env w) :
    Calls Tryd.prog 10 #[v, u, .int .i64 i] w (Yes w) := by
  obtain ⟨i0, hi0, hz0, hz1, hz2⟩ := info_parts info_nod
  have HE := Lib.hid hE
  obtain ⟨HC1, HC2⟩ := wno_c l m hl hln hm hmn v u w hv hu
  obtain ⟨A0, c0, rfl, hc0⟩ := hv.shape
  obtain ⟨B0, d0, rfl, hd0⟩ := hu.shape
  have ha := cutL_len l
  have hb := cutL_len m
  have han := cutL_names l
  have hbn := cutL_names m
  clear hv hu hE hl hln hm hmn hc0 hd0
  generalize cutL l = a at HC1 ha han
  generalize cutL m = b at HC2 hb hbn
  have K1 : Hid (∀ x V, Nods x V a → Env x → Calls Tryd.prog 17 #[V] x fun e w' => e = .returned (.bool (rightE a)) ∧ Below x.heap.size x w') := fun x V h1 h2 => Right_c a (by omega) han V x h1 h2
  have K2 : Hid (∀ x V, Nods x V b → Env x → Calls Tryd.prog 17 #[V] x fun e w' => e = .returned (.bool (rightE b)) ∧ Below x.heap.size x w') := fun x V h1 h2 => Right_c b (by omega) hbn V x h1 h2
  cases hra : rightE a
  · rw [hra] at K1
    clear hra K2 ha hb han hbn
    go_enter Tryd.func10, Tryd.ntmps10
    go_upto_region 2 with (go_at_call 16; refine (HC1.out).mono ?_; rintro e w1 ⟨V1, rfl, hv1, hb1⟩)
    obtain ⟨A1, c1, rfl, _⟩ := Nods.shape hv1
    have HB1 := Lib.hid hb1
    have HN1 := Lib.hid hv1
    clear hv1 hb1
    go_upto_region 3 with (go_at_call 16; refine (HC2.out _ HB1.out).mono ?_; rintro e w2 ⟨V2, rfl, hv2, hb2⟩)
    obtain ⟨A2, c2, rfl, _⟩ := Nods.shape hv2
    have HM2 := Lib.hid (SlN.below HN1.out hb2)
    have HB2 := Lib.hid (bt HB1.out hb2)
    clear hv2 hb2 HN1 HC1 HC2
    go_wp2_with (first
      | (go_at_call 17; refine (K1.out _ _ HM2.out (HE.out.below HB2.out)).mono ?_; rintro e w3 ⟨rfl, p3⟩; have HB3 := Lib.hid (bt HB2.out p3); clear p3)
      | (go_at_call 15; refine (fixed_c _ (HE.out.below HB3.out)).mono ?_; rintro e w4 ⟨rfl, p4⟩))
    go_ret
    exact ⟨rfl, bt HB3.out p4⟩
  · cases hrb : rightE b
    · rw [hra] at K1
      rw [hrb] at K2
      clear hra hrb ha hb han hbn
      go_enter Tryd.func10, Tryd.ntmps10
      go_upto_region 2 with (go_at_call 16; refine (HC1.out).mono ?_; rintro e w1 ⟨V1, rfl, hv1, hb1⟩)
      obtain ⟨A1, c1, rfl, _⟩ := Nods.shape hv1
      have HB1 := Lib.hid hb1
      have HN1 := Lib.hid hv1
      clear hv1 hb1
      go_upto_region 3 with (go_at_call 16; refine (HC2.out _ HB1.out).mono ?_; rintro e w2 ⟨V2, rfl, hv2, hb2⟩)
      obtain ⟨A2, c2, rfl, _⟩ := Nods.shape hv2
      have HM2 := Lib.hid (SlN.below HN1.out hb2)
      have HN2 := Lib.hid hv2
      have HB2 := Lib.hid (bt HB1.out hb2)
      clear hv2 hb2 HN1 HC1 HC2
      go_wp2_with (first
        | (go_at_call_of 17 (Value.slice A1 a.length c1); refine (K1.out _ _ HM2.out (HE.out.below HB2.out)).mono ?_; rintro e w3 ⟨rfl, p3⟩; have HN3 := Lib.hid (SlN.below HN2.out p3); have HB3 := Lib.hid (bt HB2.out p3); clear p3)
        | (go_at_call_of 17 (Value.slice A2 b.length c2); refine (K2.out _ _ HN3.out (HE.out.below HB3.out)).mono ?_; rintro e w4 ⟨rfl, p4⟩; have HB4 := Lib.hid (bt HB3.out p4); clear p4)
        | (go_at_call 15; refine (fixed_c _ (HE.out.below HB4.out)).mono ?_; rintro e w5 ⟨rfl, p5⟩))
      go_ret
      exact ⟨rfl, bt HB4.out p5⟩
    · rw [hra] at K1
      rw [hrb] at K2
      obtain ⟨e0, ho, hm, hF, h40, hd, _⟩ := showE_tree hra
      obtain ⟨f0, ho2, hm2, hG, h402, hd2, _⟩ := showE_tree hrb
      subst hF hG
      obtain ⟨_, _, hdp⟩ := right_of ho hm hd h40
      obtain ⟨_, _, hdp2⟩ := right_of ho2 hm2 hd2 h402
      obtain ⟨q1, hq1, hq12⟩ := and_mask i 1 (by decide)
      obtain ⟨q7, hq7, hq72⟩ := and_mask i 7 (by decide)
      have hq1' : bits .and .i64 i 1 = (q1 : Int) := hq1
      have hq7' : bits .and .i64 i 7 = (q7 : Int) := hq7
      have hw1 : IntKind.i64.wrap (3 + (q1 : Int)) = 3 + (q1 : Int) := by have := wrap_nat (3 + q1) (by omega); simpa using this
      have hw7 : IntKind.i64.wrap (5 + (q7 : Int)) = 5 + (q7 : Int) := by have := wrap_nat (5 + q7) (by omega); simpa using this
      obtain ⟨r1, r2⟩ := wrap_one_right (op := 3 + (q1 : Int)) ho hm (by omega)
      obtain ⟨s1, s2, s3⟩ := wrap_two_right (op := 5 + (q7 : Int)) ho hm ho2 hm2 (by omega)
      have HX : ∃ X : Bool, X = (decide (e0.deep < 12) && decide (e0.flat.length < 40)) := ⟨_, rfl⟩
      have HY : ∃ Y : Bool, Y = (decide (max e0.deep f0.deep < 12) && decide (e0.flat.length + f0.flat.length < 40)) := ⟨_, rfl⟩
      obtain ⟨X, HX⟩ := HX
      obtain ⟨Y, HY⟩ := HY
      rw [← HX] at r1
      rw [← HY] at s1
      have n1 : ∀ x ∈ ((⟨3 + (q1 : Int), 0, [], 0⟩ : Nod) :: e0.flat), x.name.length ≤ 1000000 := fun x hx => by
        rcases List.mem_cons.1 hx with rfl | hx
        · simp
        · exact han x hx
      have n2 : ∀ x ∈ ((⟨5 + (q7 : Int), 0, [], 0⟩ : Nod) :: e0.flat) ++ f0.flat, x.name.length ≤ 1000000 := fun x hx => by
        rcases List.mem_append.1 hx with hx | hx
        · rcases List.mem_cons.1 hx with rfl | hx
          · simp
          · exact han x hx
        · exact hbn x hx
      have K3 : Hid (∀ x V, Nods x V e0.flat → Env x → Calls Tryd.prog 21 #[V] x fun e w' => e = .returned (.int .i64 e0.deep) ∧ Below x.heap.size x w') := fun x V h1 h2 => by
        have := Depth_c e0.flat (by omega) han V x h1 h2
        rw [hdp] at this; exact this
      have K4 : Hid (∀ x V, Nods x V f0.flat → Env x → Calls Tryd.prog 21 #[V] x fun e w' => e = .returned (.int .i64 f0.deep) ∧ Below x.heap.size x w') := fun x V h1 h2 => by
        have := Depth_c f0.flat (by omega) hbn V x h1 h2
        rw [hdp2] at this; exact this
      have K5 : Hid (∀ x V, Nods x V ((⟨3 + (q1 : Int), 0, [], 0⟩ : Nod) :: e0.flat) → Env x → Calls Tryd.prog 17 #[V] x fun e w' => e = .returned (.bool X) ∧ Below x.heap.size x w') := fun x V h1 h2 => by
        have := Right_c _ (by simp; omega) n1 V x h1 h2
        rw [r1] at this; exact this
      have K6 : Hid (∀ x V, Nods x V (((⟨5 + (q7 : Int), 0, [], 0⟩ : Nod) :: e0.flat) ++ f0.flat) → Env x → Calls Tryd.prog 17 #[V] x fun e w' => e = .returned (.bool Y) ∧ Below x.heap.size x w') := fun x V h1 h2 => by
        have := Right_c _ (by simp; omega) n2 V x h1 h2
        rw [s1] at this; exact this
      have K7 : Hid (X = true → ∀ x V, Nods x V ((⟨3 + (q1 : Int), 0, [], 0⟩ : Nod) :: e0.flat) → Env x → Calls Tryd.prog 21 #[V] x fun e w' => e = .returned (.int .i64 ((e0.deep : Int) + 1)) ∧ Below x.heap.size x w') := fun hX x V h1 h2 => by
        have := Depth_c _ (by simp; omega) n1 V x h1 h2
        rw [HX] at hX
        simp only [Bool.and_eq_true, decide_eq_true_eq] at hX
        rw [r2 hX.1 hX.2] at this; exact this
      have K8 : Hid (Y = true → ∀ x V, Nods x V (((⟨5 + (q7 : Int), 0, [], 0⟩ : Nod) :: e0.flat) ++ f0.flat) → Env x → Calls Tryd.prog 21 #[V] x fun e w' => e = .returned (.int .i64 (max (e0.deep : Int) (f0.deep : Int) + 1)) ∧ Below x.heap.size x w') := fun hY x V h1 h2 => by
        have := Depth_c _ (by simp; omega) n2 V x h1 h2
        rw [HY] at hY
        simp only [Bool.and_eq_true, decide_eq_true_eq] at hY
        rw [s2 hY.1 hY.2] at this
        have em : (((max e0.deep f0.deep + 1 : Nat)) : Int) = max (e0.deep : Int) (f0.deep : Int) + 1 := by omega
        rw [em] at this
        exact this
      have K9 : Hid (∀ x V, Nods x V (((⟨5 + (q7 : Int), 0, [], 0⟩ : Nod) :: e0.flat) ++ f0.flat) → Calls Tryd.prog 26 #[V, .int .i64 1] x fun e w' => e = .returned (.int .i64 (1 + (e0.flat.length : Int))) ∧ x = w') := fun x V h1 => by
        have := end_c _ V x h1 (by simp; omega) 1
        rw [s3] at this
        have em : ((1 + e0.flat.length : Nat) : Int) = 1 + (e0.flat.length : Int) := by omega
        rw [em] at this
        exact this
      have HXI : Hid (X = (decide ((e0.deep : Int) < 12) && decide ((e0.flat.length : Int) < 40))) := by
        show _ = _
        rw [HX]; congr 1 <;> rw [decide_eq_decide] <;> omega
      have HYI : Hid (Y = (decide (max (e0.deep : Int) (f0.deep : Int) < 12) && decide ((e0.flat.length : Int) + (f0.flat.length : Int) < 40))) := by
        show _ = _
        rw [HY]; congr 1 <;> rw [decide_eq_decide] <;> omega
      have g1 : (e0.deep : Int) ≤ 12 := by omega
      have g2 : (f0.deep : Int) ≤ 12 := by omega
      have g3 : (0 : Int) ≤ (e0.deep : Int) := by omega
      have g4 : (0 : Int) ≤ (f0.deep : Int) := by omega
      have g5 : e0.flat.length ≤ 40 := h40
      have g6 : f0.flat.length ≤ 40 := h402
      clear hra hrb hdp hdp2 hq1 hq7 r1 r2 s1 s2 s3 HX HY n1 n2 ho hm hd ho2 hm2 hd2 h40 h402 ha hb han hbn
      generalize (e0.deep : Int) = dp at K3 K7 K8 HXI HYI g1 g3
      generalize (f0.deep : Int) = dq at K4 K8 HYI g2 g4
      generalize e0.flat = F at HC1 K1 K3 K5 K6 K7 K8 K9 HXI HYI g5
      generalize f0.flat = G at HC2 K2 K4 K6 K8 K9 HYI g6
      have HL1 : Hid (1 + F.length ≤ maxLen ∧ (1 + F.length) * 40 ≤ 140737488355328) := by show _ ∧ _; unfold maxLen; constructor <;> omega
      have HL2 : Hid (1 + F.length + G.length ≤ maxLen ∧ (1 + F.length + G.length) * 40 ≤ 140737488355328) := by show _ ∧ _; unfold maxLen; constructor <;> omega
      obtain ⟨n7, hn7⟩ : ∃ n7 : Nat, Hid (n7 = 1 + F.length) := ⟨_, rfl⟩
      obtain ⟨n8, hn8⟩ : ∃ n8 : Nat, Hid (n8 = 1 + F.length) := ⟨_, rfl⟩
      obtain ⟨n9, hn9⟩ : ∃ n9 : Nat, Hid (n9 = 1 + F.length + G.length) := ⟨_, rfl⟩
      go_enter Tryd.func10, Tryd.ntmps10
      go_upto_region 2 with (go_at_call 16; refine (HC1.out).mono ?_; rintro e w1 ⟨V1, rfl, hv1, hb1⟩)
      obtain ⟨A1, c1, rfl, _⟩ := Nods.shape hv1
      have HB1 := Lib.hid hb1
      have HN1 := Lib.hid hv1
      clear hv1 hb1
      go_upto_region 3 with (go_at_call 16; refine (HC2.out _ HB1.out).mono ?_; rintro e w2 ⟨V2, rfl, hv2, hb2⟩)
      obtain ⟨A2, c2, rfl, _⟩ := Nods.shape hv2
      have HM2 := Lib.hid (SlN.below HN1.out hb2)
      have HN2 := Lib.hid hv2
      have HB2 := Lib.hid (bt HB1.out hb2)
      clear hv2 hb2 HN1 HC1 HC2 HB1
      go_upto_region 6 with (first
        | (go_at_call_of 17 (Value.slice A1 F.length c1); refine (K1.out _ _ HM2.out (HE.out.below HB2.out)).mono ?_; rintro e w3 ⟨rfl, p3⟩; have HN3 := Lib.hid (SlN.below HN2.out p3); have HM3 := Lib.hid (SlN.below HM2.out p3); have HB3 := Lib.hid (bt HB2.out p3); clear p3)
        | (go_at_call_of 17 (Value.slice A2 G.length c2); refine (K2.out _ _ HN3.out (HE.out.below HB3.out)).mono ?_; rintro e w4 ⟨rfl, p4⟩; have HN4 := Lib.hid (SlN.below HN3.out p4); have HM4 := Lib.hid (SlN.below HM3.out p4); have HB4 := Lib.hid (bt HB3.out p4); clear p4)
        | (go_at_call_of 21 (Value.slice A1 F.length c1); refine (K3.out _ _ HM4.out (HE.out.below HB4.out)).mono ?_; rintro e w5 ⟨rfl, p5⟩; have HN5 := Lib.hid (SlN.below HN4.out p5); have HM5 := Lib.hid (SlN.below HM4.out p5); have HB5 := Lib.hid (bt HB4.out p5); clear p5)
        | (go_at_call_of 21 (Value.slice A2 G.length c2); refine (K4.out _ _ HN5.out (HE.out.below HB5.out)).mono ?_; rintro e w6 ⟨rfl, p6⟩; have HN6 := Lib.hid (SlN.below HN5.out p6); have HM6 := Lib.hid (SlN.below HM5.out p6); have HB6 := Lib.hid (bt HB5.out p6); clear p6))
      go_upto_region 7 with (first
        | (at_builtin; refine wpl_app rfl _ _ 24 rfl w6.heap.size 30 i0 _ 4 40 Tryd.underlying24 hi0 hz0 hz1 hz2 rfl (by decide) (.slice (some ⟨w6.heap.size, 0, none⟩) 1 1) 1 (Nod.cells ⟨3 + (q1 : Int), 0, [], 0⟩) rfl (own_at w6 ⟨3 + (q1 : Int), 0, [], 0⟩ _ _ rfl (Nat.le_refl _)) (.slice A1 F.length c1) F.length (F.flatMap Nod.cells) rfl (SlN.below HM6.out (al w6 _)) (nod_one F) HL1.out.1 HL1.out.2 (al w6 _).size ?_; intro v7 w7 hown7 hb7; obtain ⟨A7, c7, rfl⟩ := own_shapeN hn7 hown7; have p7 : Below w6.heap.size w6 w7 := btB (al w6 _) hb7 (Nat.le_refl _)))
      have HO7 := Lib.hid (own_cons hown7).1.nods
      have HN7 := Lib.hid (SlN.below HN6.out p7)
      have HM7 := Lib.hid (SlN.below HM6.out p7)
      have HB7 := Lib.hid (bt HB6.out p7)
      clear hown7 hb7 p7
      go_upto_region 8 with (first
        | (at_builtin; refine wpl_app rfl _ _ 24 rfl w7.heap.size 30 i0 _ 4 40 Tryd.underlying24 hi0 hz0 hz1 hz2 rfl (by decide) (.slice (some ⟨w7.heap.size, 0, none⟩) 1 1) 1 (Nod.cells ⟨5 + (q7 : Int), 0, [], 0⟩) rfl (own_at w7 ⟨5 + (q7 : Int), 0, [], 0⟩ _ _ rfl (Nat.le_refl _)) (.slice A1 F.length c1) F.length (F.flatMap Nod.cells) rfl (SlN.below HM7.out (al w7 _)) (nod_one F) HL1.out.1 HL1.out.2 (al w7 _).size ?_; intro v8 w8 hown8 hb8; obtain ⟨A8, c8, rfl⟩ := own_shapeN hn8 hown8; have p8 : Below w7.heap.size w7 w8 := btB (al w7 _) hb8 (Nat.le_refl _)))
      have HO8 := Lib.hid hown8
      have HR8 := Lib.hid (SlN.below HO7.out p8)
      have HN8 := Lib.hid (SlN.below HN7.out p8)
      have HSZ := Lib.hid p8.size
      have HB8 := Lib.hid (bt HB7.out p8)
      have HP8 := Lib.hid p8
      clear hown8 hb8 p8
      go_upto_region 9 with (first
        | (at_builtin; refine wpl_app rfl _ _ 24 rfl w7.heap.size 30 i0 _ 4 40 Tryd.underlying24 hi0 hz0 hz1 hz2 rfl (by decide) (.slice A8 n8 c8) (1 + F.length) (Nod.cells ⟨5 + (q7 : Int), 0, [], 0⟩ ++ F.flatMap Nod.cells) rfl HO8.out (.slice A2 G.length c2) G.length (G.flatMap Nod.cells) rfl HN8.out (nod_one G) HL2.out.1 HL2.out.2 HSZ.out ?_; intro v9 w9 hown9 hb9; obtain ⟨A9, c9, rfl⟩ := own_shapeN hn9 hown9; have p9 : Below w7.heap.size w7 w9 := btB HP8.out hb9 (Nat.le_refl _)))
      have HO9 := Lib.hid (own_cons2 hown9).1.nods
      have HR9 := Lib.hid (SlN.below HO7.out p9)
      have HB9 := Lib.hid (bt HB7.out p9)
      clear hown9 hb9 p9
      have g7 : IntKind.i64.wrap ((F.length : Int) + (G.length : Int)) = (F.length : Int) + (G.length : Int) := by have := wrap_nat (F.length + G.length) (by omega); simpa using this
      have g8 : IntKind.i64.wrap (1 + (F.length : Int)) = 1 + (F.length : Int) := by have := wrap_nat (1 + F.length) (by omega); simpa using this
      have g9 : IntKind.i64.wrap (dp + 1) = dp + 1 := by
        obtain ⟨z, hz⟩ := Int.eq_ofNat_of_zero_le g3
        subst hz
        have := wrap_nat (z + 1) (by omega)
        simpa using this
      have g10 : IntKind.i64.wrap (max dp dq + 1) = max dp dq + 1 := by
        obtain ⟨z, hz⟩ := Int.eq_ofNat_of_zero_le (show 0 ≤ max dp dq by omega)
        rw [hz]
        have := wrap_nat (z + 1) (by omega)
        simpa using this
      go_cut [11] (fun s wx => s = .bool X ∧ w9 = wx)
      case first =>
        cases h1 : decide (dp < 12)
        · go_wp2_with fail
          go_meet
          exact ⟨by rw [HXI.out, h1]; rfl, rfl⟩
        · cases h2 : decide ((F.length : Int) < 40)
          · go_wp2_with fail
            go_meet
            exact ⟨by rw [HXI.out, h1, h2]; rfl, rfl⟩
          · go_wp2_with fail
            go_meet
            exact ⟨by rw [HXI.out, h1, h2]; rfl, rfl⟩
      case rest =>
        obtain ⟨rfl, rfl⟩ := hcut
        go_upto_region 10 with fail
        go_cut [12] (fun s wx => s = .bool Y ∧ w9 = wx)
        case first =>
          cases h1 : decide (max dp dq < 12)
          · go_wp2_with fail
            go_meet
            exact ⟨by rw [HYI.out, h1]; rfl, rfl⟩
          · cases h2 : decide ((F.length : Int) + (G.length : Int) < 40)
            · go_wp2_with fail
              go_meet
              exact ⟨by rw [HYI.out, h1, h2]; rfl, rfl⟩
            · go_wp2_with fail
              go_meet
              exact ⟨by rw [HYI.out, h1, h2]; rfl, rfl⟩
        case rest =>
          obtain ⟨rfl, rfl⟩ := hcut
          clear HXI HYI
          cases X
          · cases Y
            · skip
              go_wp2_with (first
                | (go_at_call_of 17 (Value.slice A7 n7 c7); refine (K5.out _ _ HR9.out (HE.out.below HB9.out)).mono ?_; rintro e w10 ⟨rfl, p10⟩; have HO10 := Lib.hid (SlN.below HO9.out p10); have HR10 := Lib.hid (SlN.below HR9.out p10); have HB10 := Lib.hid (bt HB9.out p10); clear p10)
                | (go_at_call_of 17 (Value.slice A9 n9 c9); refine (K6.out _ _ HO10.out (HE.out.below HB10.out)).mono ?_; rintro e w11 ⟨rfl, p11⟩; have HO11 := Lib.hid (SlN.below HO10.out p11); have HR11 := Lib.hid (SlN.below HR10.out p11); have HB11 := Lib.hid (bt HB10.out p11); clear p11)
                | (go_at_call 26; refine (K9.out _ _ HO11.out).mono ?_; rintro e w14 ⟨rfl, rfl⟩)
                | (go_at_call 15; refine (fixed_c _ (HE.out.below HB11.out)).mono ?_; rintro e w15 ⟨rfl, p15⟩))
              go_ret
              exact ⟨rfl, bt HB11.out p15⟩
            · skip
              go_wp2_with (first
                | (go_at_call_of 17 (Value.slice A7 n7 c7); refine (K5.out _ _ HR9.out (HE.out.below HB9.out)).mono ?_; rintro e w10 ⟨rfl, p10⟩; have HO10 := Lib.hid (SlN.below HO9.out p10); have HR10 := Lib.hid (SlN.below HR9.out p10); have HB10 := Lib.hid (bt HB9.out p10); clear p10)
                | (go_at_call_of 17 (Value.slice A9 n9 c9); refine (K6.out _ _ HO10.out (HE.out.below HB10.out)).mono ?_; rintro e w11 ⟨rfl, p11⟩; have HO11 := Lib.hid (SlN.below HO10.out p11); have HR11 := Lib.hid (SlN.below HR10.out p11); have HB11 := Lib.hid (bt HB10.out p11); clear p11)
                | (go_at_call_of 21 (Value.slice A9 n9 c9); refine (K8.out (by trivial) _ _ HO11.out (HE.out.below HB11.out)).mono ?_; rintro e w13 ⟨rfl, p13⟩; have HO13 := Lib.hid (SlN.below HO11.out p13); have HB13 := Lib.hid (bt HB11.out p13); clear p13)
                | (go_at_call 26; refine (K9.out _ _ HO13.out).mono ?_; rintro e w14 ⟨rfl, rfl⟩)
                | (go_at_call 15; refine (fixed_c _ (HE.out.below HB13.out)).mono ?_; rintro e w15 ⟨rfl, p15⟩))
              go_ret
              exact ⟨rfl, bt HB13.out p15⟩
          · cases Y
            · skip
              go_wp2_with (first
                | (go_at_call_of 17 (Value.slice A7 n7 c7); refine (K5.out _ _ HR9.out (HE.out.below HB9.out)).mono ?_; rintro e w10 ⟨rfl, p10⟩; have HO10 := Lib.hid (SlN.below HO9.out p10); have HR10 := Lib.hid (SlN.below HR9.out p10); have HB10 := Lib.hid (bt HB9.out p10); clear p10)
                | (go_at_call_of 17 (Value.slice A9 n9 c9); refine (K6.out _ _ HO10.out (HE.out.below HB10.out)).mono ?_; rintro e w11 ⟨rfl, p11⟩; have HO11 := Lib.hid (SlN.below HO10.out p11); have HR11 := Lib.hid (SlN.below HR10.out p11); have HB11 := Lib.hid (bt HB10.out p11); clear p11)
                | (go_at_call_of 21 (Value.slice A7 n7 c7); refine (K7.out (by trivial) _ _ HR11.out (HE.out.below HB11.out)).mono ?_; rintro e w12 ⟨rfl, p12⟩; have HO12 := Lib.hid (SlN.below HO11.out p12); have HB12 := Lib.hid (bt HB11.out p12); clear p12)
                | (go_at_call 26; refine (K9.out _ _ HO12.out).mono ?_; rintro e w14 ⟨rfl, rfl⟩)
                | (go_at_call 15; refine (fixed_c _ (HE.out.below HB12.out)).mono ?_; rintro e w15 ⟨rfl, p15⟩))
              go_ret
              exact ⟨rfl, bt HB12.out p15⟩
            · skip
              go_wp2_with (first
                | (go_at_call_of 17 (Value.slice A7 n7 c7); refine (K5.out _ _ HR9.out (HE.out.below HB9.out)).mono ?_; rintro e w10 ⟨rfl, p10⟩; have HO10 := Lib.hid (SlN.below HO9.out p10); have HR10 := Lib.hid (SlN.below HR9.out p10); have HB10 := Lib.hid (bt HB9.out p10); clear p10)
                | (go_at_call_of 17 (Value.slice A9 n9 c9); refine (K6.out _ _ HO10.out (HE.out.below HB10.out)).mono ?_; rintro e w11 ⟨rfl, p11⟩; have HO11 := Lib.hid (SlN.below HO10.out p11); have HR11 := Lib.hid (SlN.below HR10.out p11); have HB11 := Lib.hid (bt HB10.out p11); clear p11)
                | (go_at_call_of 21 (Value.slice A7 n7 c7); refine (K7.out (by trivial) _ _ HR11.out (HE.out.below HB11.out)).mono ?_; rintro e w12 ⟨rfl, p12⟩; have HO12 := Lib.hid (SlN.below HO11.out p12); have HB12 := Lib.hid (bt HB11.out p12); clear p12)
                | (go_at_call_of 21 (Value.slice A9 n9 c9); refine (K8.out (by trivial) _ _ HO12.out (HE.out.below HB12.out)).mono ?_; rintro e w13 ⟨rfl, p13⟩; have HO13 := Lib.hid (SlN.below HO12.out p13); have HB13 := Lib.hid (bt HB12.out p13); clear p13)
                | (go_at_call 26; refine (K9.out _ _ HO13.out).mono ?_; rintro e w14 ⟨rfl, rfl⟩)
                | (go_at_call 15; refine (fixed_c _ (HE.out.below HB13.out)).mono ?_; rintro e w15 ⟨rfl, p15⟩))
              go_ret
              exact ⟨rfl, bt HB13.out p15⟩
end Go.Proofs.YtahdfglelhdcnaaDoor

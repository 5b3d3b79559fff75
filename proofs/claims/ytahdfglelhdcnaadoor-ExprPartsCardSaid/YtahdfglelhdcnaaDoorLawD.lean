/- Whether nodes are an expression, its text, its depth, its names, its parts' ends; what is shown is one whole expression: the walks. -/
import Derived.Test.YtahdfglelhdcnaaDoorLawB
import Derived.Test.YtahdfglelhdcnaaDoorCutA
namespace Go.Proofs.YtahdfglelhdcnaaDoor
open Go Go.RowKit
set_option linter.unusedVariables false
theorem eqE_refl : ∀ l : List (List UInt8), eqE l l = true
  | [] => rfl
  | x :: l => by unfold eqE; rw [eqE_refl l]; simp
theorem namesE_le (l : List Nod) : (namesE l).length ≤ l.length := by
  unfold namesE
  split
  · have := namsE_len l []
    simpa [namsE] using this
  · simp
set_option maxRecDepth 100000 in
set_option maxHeartbeats 8000000 in
theorem tells_c (l m : List Nod) (hl : l.length ≤ 9223372036854775807) (hln : ∀ x ∈ l, x.name.length ≤ 9223372036854775807) (hm : m.length ≤ 9223372036854775807) (hmn : ∀ x ∈ m, x.name.length ≤ 9223372036854775807)
    (v u : Value) (i : Int) (w : World) (hv : Nods w v l) (hu : Nods w u m) (hE : Env w) :
    Calls Tryd.prog 5 #[v, u, .int .i64 i] w (Yes w) := by
  have HE := Lib.hid hE
  have HC1 := Lib.hid (Cut_c l hl hln v w hv)
  have HC2 : Hid (∀ x, Below w.heap.size w x → Calls Tryd.prog 16 #[u] x fun e w' => ∃ V, e = .returned V ∧ Nods w' V (cutL m) ∧ Below x.heap.size x w') := fun x hx => Cut_c m hm hmn u x (SlN.below hu hx)
  obtain ⟨A0, c0, rfl, hc0⟩ := hv.shape
  obtain ⟨B0, d0, rfl, hd0⟩ := hu.shape
  have ha := cutL_len l
  have hb := cutL_len m
  have han := cutL_names l
  clear hv hu hE hl hln hm hmn hc0 hd0
  generalize cutL l = a at HC1 ha han
  generalize cutL m = b at HC2 hb
  go_enter Tryd.func5, Tryd.ntmps5
  go_upto_region 2 with (go_at_call 16; refine (HC1.out).mono ?_; rintro e w1 ⟨V1, rfl, hv1, hb1⟩)
  obtain ⟨A1, c1, rfl, _⟩ := Nods.shape hv1
  have HB1 := Lib.hid hb1
  have HN1 := Lib.hid hv1
  clear hv1 hb1
  go_upto_region 3 with (go_at_call 16; refine (HC2.out _ HB1.out).mono ?_; rintro e w2 ⟨V2, rfl, hv2, hb2⟩)
  obtain ⟨A2, c2, rfl, _⟩ := Nods.shape hv2
  have HN2 := Lib.hid hv2
  have HM2 := Lib.hid (SlN.below HN1.out hb2)
  have HB2 := Lib.hid (bt HB1.out hb2)
  clear hv2 hb2 HN1 HC1 HC2
  have HEN : Hid (∀ x, Below w2.heap.size w2 x → Env x) := fun x hx => HE.out.below (bt HB2.out hx)
  have HA : Hid (∀ x, Below w2.heap.size w2 x → Nods x (.slice A1 a.length c1) a) := fun x hx => SlN.below HM2.out hx
  have HBN : Hid (∀ x, Below w2.heap.size w2 x → Nods x (.slice A2 b.length c2) b) := fun x hx => SlN.below HN2.out hx
  have hnl := namesE_le a
  have K1 : Hid (∀ x, Below w2.heap.size w2 x → Calls Tryd.prog 17 #[.slice A1 a.length c1] x fun e w' => e = .returned (.bool (rightE a)) ∧ Below x.heap.size x w') := fun x hx => Right_c a (by omega) han _ x (HA.out x hx) (HEN.out x hx)
  have K2 : Hid (∀ x, Below w2.heap.size w2 x → Calls Tryd.prog 18 #[.slice A1 a.length c1] x fun e w' => e = .returned (.bool (rightE a)) ∧ Below x.heap.size x w') := fun x hx => rRight_c a (by omega) han _ x (HA.out x hx)
  have K3 : Hid (∀ x, Below w2.heap.size w2 x → Calls Tryd.prog 19 #[.slice A1 a.length c1] x fun e w' => e = .returned (.string (str (showE a))) ∧ Below x.heap.size x w') := fun x hx => Show_c a (by omega) han _ x (HA.out x hx) (HEN.out x hx)
  have K4 : Hid (∀ x, Below w2.heap.size w2 x → Calls Tryd.prog 20 #[.slice A1 a.length c1] x fun e w' => e = .returned (.string (str (showE a))) ∧ Below x.heap.size x w') := fun x hx => rShow_c a (by omega) han _ x (HA.out x hx)
  have K5 : Hid (∀ x, Below w2.heap.size w2 x → Calls Tryd.prog 21 #[.slice A1 a.length c1] x fun e w' => e = .returned (.int .i64 (depthE a)) ∧ Below x.heap.size x w') := fun x hx => Depth_c a (by omega) han _ x (HA.out x hx) (HEN.out x hx)
  have K6 : Hid (∀ x, Below w2.heap.size w2 x → Calls Tryd.prog 22 #[.slice A1 a.length c1] x fun e w' => e = .returned (.int .i64 (depthE a)) ∧ Below x.heap.size x w') := fun x hx => rDepth_c a (by omega) han _ x (HA.out x hx)
  have K7 : Hid (∀ x, Below w2.heap.size w2 x → Calls Tryd.prog 24 #[.slice A1 a.length c1] x fun e w' => ∃ A c, e = .returned (.slice A (namesE a).length c) ∧ Strs w' (.slice A (namesE a).length c) (namesE a) ∧ Below x.heap.size x w') := fun x hx => (Names_c a (by omega) han _ x (HA.out x hx) (HEN.out x hx)).mono fun e w' ⟨V, h1, h2, h3⟩ => by
    obtain ⟨A, c, rfl, _⟩ := Strs.shape h2
    exact ⟨A, c, h1, h2, h3⟩
  have K8 : Hid (∀ x, Below w2.heap.size w2 x → Calls Tryd.prog 25 #[.slice A1 a.length c1] x fun e w' => ∃ A c, e = .returned (.slice A (namesE a).length c) ∧ Strs w' (.slice A (namesE a).length c) (namesE a) ∧ Below x.heap.size x w') := fun x hx => (rNames_c a (by omega) han _ x (HA.out x hx)).mono fun e w' ⟨V, h1, h2, h3⟩ => by
    obtain ⟨A, c, rfl, _⟩ := Strs.shape h2
    exact ⟨A, c, h1, h2, h3⟩
  have K9 : Hid (∀ x V V2, Strs x V (namesE a) → Strs x V2 (namesE a) → Calls Tryd.prog 23 #[V, V2] x fun e w' => e = .returned (.bool true) ∧ Below x.heap.size x w') := fun x V V2 h1 h2 => by
    have := texts_c (namesE a) (namesE a) (by omega) (by omega) V V2 x h1 h2
    rw [eqE_refl] at this; exact this
  have KA : Hid (∀ x, Below w2.heap.size w2 x → Calls Tryd.prog 26 #[.slice A1 a.length c1, .int .i64 i] x fun e w' => e = .returned (.int .i64 (endE a i)) ∧ x = w') := fun x hx => end_c a _ x (HA.out x hx) (by omega) i
  have KB : Hid (∀ x, Below w2.heap.size w2 x → Calls Tryd.prog 27 #[.slice A1 a.length c1, .int .i64 i] x fun e w' => e = .returned (.int .i64 (endE a i)) ∧ x = w') := fun x hx => rend_c a _ x (HA.out x hx) (by omega) i
  have KC : Hid (∀ x, Below w2.heap.size w2 x → Calls Tryd.prog 28 #[.slice A1 a.length c1, .slice A2 b.length c2] x fun e w' => e = .returned (.bool (sameE false a b)) ∧ Below x.heap.size x w') := fun x hx => Same_c a b (by omega) (by omega) _ _ x (HA.out x hx) (HBN.out x hx)
  have KD : Hid (∀ x, Below w2.heap.size w2 x → Calls Tryd.prog 14 #[.slice A1 a.length c1, .slice A2 b.length c2, .bool false] x fun e w' => e = .returned (.bool (sameE false a b)) ∧ Below x.heap.size x w') := fun x hx => rsame_c a b (by omega) (by omega) _ _ false x (HA.out x hx) (HBN.out x hx)
  clear ha hb han hnl HA HBN
  generalize rightE a = r at K1 K2
  generalize str (showE a) = s at K3 K4
  generalize (depthE a : Int) = d at K5 K6
  generalize namesE a = ns at K7 K8 K9
  generalize endE a i = ed at KA KB
  generalize sameE false a b = sm at KC KD
  go_wp2_with (first
    | (go_at_call 17; refine (K1.out _ (Below.refl _ _)).mono ?_; rintro e w3 ⟨rfl, q3⟩)
    | (go_at_call 18; refine (K2.out _ q3).mono ?_; rintro e w4 ⟨rfl, p4⟩; have q4 := bt q3 p4; clear p4 q3)
    | (go_at_call 19; refine (K3.out _ q4).mono ?_; rintro e w5 ⟨rfl, p5⟩; have q5 := bt q4 p5; clear p5 q4)
    | (go_at_call 20; refine (K4.out _ q5).mono ?_; rintro e w6 ⟨rfl, p6⟩; have q6 := bt q5 p6; clear p6 q5)
    | (go_at_call 21; refine (K5.out _ q6).mono ?_; rintro e w7 ⟨rfl, p7⟩; have q7 := bt q6 p7; clear p7 q6)
    | (go_at_call 22; refine (K6.out _ q7).mono ?_; rintro e w8 ⟨rfl, p8⟩; have q8 := bt q7 p8; clear p8 q7)
    | (go_at_call 24; refine (K7.out _ q8).mono ?_; rintro e w9 ⟨A9, c9, rfl, hs9, p9⟩; have HS9 := Lib.hid hs9; have q9 := bt q8 p9; clear p9 q8 hs9)
    | (go_at_call 25; refine (K8.out _ q9).mono ?_; rintro e w10 ⟨A10, c10, rfl, hs10, p10⟩; have HS10 := Lib.hid hs10; have HT9 := Lib.hid (SlN.below HS9.out p10); have q10 := bt q9 p10; clear p10 q9 hs10)
    | (go_at_call 23; refine (K9.out _ _ _ HT9.out HS10.out).mono ?_; rintro e w11 ⟨rfl, p11⟩; have q11 := bt q10 p11; clear p11 q10)
    | (go_at_call 26; refine (KA.out _ q11).mono ?_; rintro e w12 ⟨rfl, rfl⟩)
    | (go_at_call 27; refine (KB.out _ q11).mono ?_; rintro e w13 ⟨rfl, rfl⟩)
    | (go_at_call 28; refine (KC.out _ q11).mono ?_; rintro e w14 ⟨rfl, p14⟩; have q14 := bt q11 p14; clear p14 q11)
    | (go_at_call 14; refine (KD.out _ q14).mono ?_; rintro e w15 ⟨rfl, p15⟩; have q15 := bt q14 p15; clear p15 q14)
    | (go_at_call 15; refine (fixed_c _ (HEN.out _ q15)).mono ?_; rintro e w16 ⟨rfl, p16⟩))
  go_ret
  exact ⟨rfl, bt (bt HB2.out q15) p16⟩
set_option maxRecDepth 100000 in
set_option maxHeartbeats 8000000 in
theorem shown_c (l : List Nod) (hl : l.length ≤ 9223372036854775807) (hln : ∀ x ∈ l, x.name.length ≤ 9223372036854775807) (v : Value) (w : World) (hv : Nods w v l) (hE : Env w) :
    Calls Tryd.prog 7 #[v] w (Yes w) := by
  have HE := Lib.hid hE
  have HC1 := Lib.hid (Cut_c l hl hln v w hv)
  obtain ⟨A0, c0, rfl, hc0⟩ := hv.shape
  have ha := cutL_len l
  have han := cutL_names l
  clear hv hE hl hln hc0
  generalize cutL l = a at HC1 ha han
  cases hr : rightE a
  · obtain ⟨s1, s2, s3⟩ := showE_not hr
    have K1 : Hid (∀ x V, Nods x V a → Env x → Calls Tryd.prog 17 #[V] x fun e w' => e = .returned (.bool false) ∧ Below x.heap.size x w') := fun x V h1 h2 => by
      have := Right_c a (by omega) han V x h1 h2
      rw [hr] at this; exact this
    have K3 : Hid (∀ x V, Nods x V a → Env x → Calls Tryd.prog 19 #[V] x fun e w' => e = .returned (.string ⟨#[]⟩) ∧ Below x.heap.size x w') := fun x V h1 h2 => by
      have := Show_c a (by omega) han V x h1 h2
      rw [s1] at this; exact this
    have K5 : Hid (∀ x V, Nods x V a → Env x → Calls Tryd.prog 21 #[V] x fun e w' => e = .returned (.int .i64 0) ∧ Below x.heap.size x w') := fun x V h1 h2 => by
      have := Depth_c a (by omega) han V x h1 h2
      rw [s2] at this; exact this
    have K7 : Hid (∀ x V, Nods x V a → Env x → Calls Tryd.prog 24 #[V] x fun e w' => ∃ A c, e = .returned (.slice A 0 c) ∧ Below x.heap.size x w') := fun x V h1 h2 => (Names_c a (by omega) han V x h1 h2).mono fun e w' ⟨V, h1, h2, h3⟩ => by
      rw [s3] at h2
      obtain ⟨A, c, rfl, _⟩ := Strs.shape h2
      exact ⟨A, c, h1, h3⟩
    clear hr s1 s2 s3 ha han
    go_enter Tryd.func7, Tryd.ntmps7
    go_upto_region 2 with (go_at_call 16; refine (HC1.out).mono ?_; rintro e w1 ⟨V1, rfl, hv1, hb1⟩)
    obtain ⟨A1, c1, rfl, _⟩ := Nods.shape hv1
    have HB1 := Lib.hid hb1
    have HN1 := Lib.hid hv1
    clear hv1 hb1 HC1
    go_wp2_with (first
      | (go_at_call 17; refine (K1.out _ _ HN1.out (HE.out.below HB1.out)).mono ?_; rintro e w3 ⟨rfl, p3⟩; have HN3 := Lib.hid (SlN.below HN1.out p3); have HB3 := Lib.hid (bt HB1.out p3); clear p3)
      | (go_at_call 19; refine (K3.out _ _ HN3.out (HE.out.below HB3.out)).mono ?_; rintro e w4 ⟨rfl, p4⟩; have HN4 := Lib.hid (SlN.below HN3.out p4); have HB4 := Lib.hid (bt HB3.out p4); clear p4)
      | (go_at_call 21; refine (K5.out _ _ HN4.out (HE.out.below HB4.out)).mono ?_; rintro e w5 ⟨rfl, p5⟩; have HN5 := Lib.hid (SlN.below HN4.out p5); have HB5 := Lib.hid (bt HB4.out p5); clear p5)
      | (go_at_call 24; refine (K7.out _ _ HN5.out (HE.out.below HB5.out)).mono ?_; rintro e w6 ⟨A6, c6, rfl, p6⟩; have HB6 := Lib.hid (bt HB5.out p6); clear p6)
      | (go_at_call 15; refine (fixed_c _ (HE.out.below HB6.out)).mono ?_; rintro e w7 ⟨rfl, p7⟩))
    go_ret
    exact ⟨rfl, bt HB6.out p7⟩
  · obtain ⟨e0, ho, hm, hF, h40, hd, _⟩ := showE_tree hr
    rw [hF] at h40
    obtain ⟨hr', hs, hdp⟩ := right_of ho hm hd h40
    subst hF
    have hsl := show_len e0 ho hm
    obtain ⟨_, e1, hR2, hbare, ho1⟩ := round_trip e0 ho hm hd h40
    obtain ⟨hl2, htx2⟩ := scan_use e0.show (by omega)
    have hle : e1.flat.length = e0.flat.length := by rw [← e1.bare_len, hbare, e0.bare_len]
    have hm1 : e1.may := by
      rcases parE_fine (l := (scanE e0.show).1) (n := e0.show.length) (scanE_facts e0.show).2 (by omega) with ⟨e2, t2, hR3, ho2, hm2, _⟩ | ⟨er, p, hR3, her, _⟩
      · rw [hR2] at hR3
        have : e1.flat = e2.flat := congrArg Prod.fst hR3
        intro x hx
        rw [this] at hx
        exact hm2 x hx
      · rw [hR2] at hR3
        have : (0 : Int) = er := congrArg (fun z => z.2.2.1) hR3
        exact absurd this.symm her
    have hd1 : e1.deep = e0.deep := by rw [← e1.bare_deep, hbare, e0.bare_deep]
    have hdp1 := (right_of ho1 hm1 (by omega) (by omega)).2.2
    have K1 : Hid (∀ x V, Nods x V e0.flat → Env x → Calls Tryd.prog 17 #[V] x fun e w' => e = .returned (.bool true) ∧ Below x.heap.size x w') := fun x V h1 h2 => by
      have := Right_c e0.flat (by omega) han V x h1 h2
      rw [hr] at this; exact this
    have K3 : Hid (∀ x V, Nods x V e0.flat → Env x → Calls Tryd.prog 19 #[V] x fun e w' => e = .returned (.string (str e0.show)) ∧ Below x.heap.size x w') := fun x V h1 h2 => by
      have := Show_c e0.flat (by omega) han V x h1 h2
      rw [hs] at this; exact this
    have K5 : Hid (∀ x V, Nods x V e0.flat → Env x → Calls Tryd.prog 21 #[V] x fun e w' => e = .returned (.int .i64 e0.deep) ∧ Below x.heap.size x w') := fun x V h1 h2 => by
      have := Depth_c e0.flat (by omega) han V x h1 h2
      rw [hdp] at this; exact this
    have K6 : Hid (∀ x V, Nods x V e1.flat → Env x → Calls Tryd.prog 21 #[V] x fun e w' => e = .returned (.int .i64 e0.deep) ∧ Below x.heap.size x w') := fun x V h1 h2 => by
      have := Depth_c e1.flat (by omega) (flat_names hm1) V x h1 h2
      rw [hdp1, hd1] at this; exact this
    have KT : Hid (∀ u, Calls Tryd.prog 11 #[.string (str e0.show)] u fun e w' => ∃ A c, e = .returned (.slice A (scanE e0.show).1.length c) ∧ Toks w' (.slice A (scanE e0.show).1.length c) (scanE e0.show).1 ∧ Below u.heap.size u w') := fun u => by
      refine (tokens_c (str e0.show) (by rw [str_size]; omega) u).mono ?_
      rintro e w' ⟨v2, rfl, hv2, hb2⟩
      rw [str_data] at hv2
      obtain ⟨A, c, rfl, _⟩ := Toks.shape hv2
      exact ⟨A, c, rfl, hv2, hb2⟩
    have KP : Hid (∀ u V, Toks u V (scanE e0.show).1 → Env u → Calls Tryd.prog 13 #[V, .int .i64 0] u fun e w' => ∃ A c, e = .returned (.tuple #[.slice A e1.flat.length c, .int .i64 ((scanE e0.show).1.length : Int), .int .i64 0, .int .i64 0]) ∧ Nods w' (.slice A e1.flat.length c) e1.flat ∧ Below u.heap.size u w') := fun u V hV hE => by
      refine (Parse_c _ hl2 htx2 V 0 u hV hE).mono ?_
      rintro e w' ⟨V2, rfl, hn, hb⟩
      rw [hR2] at hn ⊢
      obtain ⟨A, c, rfl, _⟩ := Nods.shape hn
      exact ⟨A, c, rfl, hn, hb⟩
    have KS : Hid (∀ u V V2, Nods u V e1.flat → Nods u V2 e0.flat → Calls Tryd.prog 28 #[V, V2] u fun e w' => e = .returned (.bool true) ∧ Below u.heap.size u w') := fun u V V2 h1 h2 => by
      have := Same_c e1.flat e0.flat (by omega) (by omega) V V2 u h1 h2
      rw [same_bare hbare] at this; exact this
    clear hr hr' hs hdp hdp1 hR2 hbare ho1 hm1 hd1 hle hl2 htx2 hsl ho hm hd h40 ha han
    generalize (scanE e0.show).1 = l2 at KT KP
    generalize e0.show = sh at K3 KT
    generalize (e0.deep : Int) = dp at K5 K6
    generalize e0.flat = F at HC1 K1 K3 K5 KS
    generalize e1.flat = F1 at KP K6 KS
    go_enter Tryd.func7, Tryd.ntmps7
    go_upto_region 2 with (go_at_call 16; refine (HC1.out).mono ?_; rintro e w1 ⟨V1, rfl, hv1, hb1⟩)
    obtain ⟨A1, c1, rfl, _⟩ := Nods.shape hv1
    have HB1 := Lib.hid hb1
    have HN1 := Lib.hid hv1
    clear hv1 hb1 HC1
    go_upto_region 6 with (first
      | (go_at_call 17; refine (K1.out _ _ HN1.out (HE.out.below HB1.out)).mono ?_; rintro e w3 ⟨rfl, p3⟩; have HN3 := Lib.hid (SlN.below HN1.out p3); have HB3 := Lib.hid (bt HB1.out p3); clear p3)
      | (go_at_call 19; refine (K3.out _ _ HN3.out (HE.out.below HB3.out)).mono ?_; rintro e w4 ⟨rfl, p4⟩; have HN4 := Lib.hid (SlN.below HN3.out p4); have HB4 := Lib.hid (bt HB3.out p4); clear p4)
      | (go_at_call 11; refine (KT.out _).mono ?_; rintro e w5 ⟨A5, c5, rfl, hv5, p5⟩; have HT5 := Lib.hid hv5; have HN5 := Lib.hid (SlN.below HN4.out p5); have HB5 := Lib.hid (bt HB4.out p5); clear p5 hv5)
      | (go_at_call 13; refine (KP.out _ _ HT5.out (HE.out.below HB5.out)).mono ?_; rintro e w6 ⟨A6, c6, rfl, hv6, p6⟩; have HM6 := Lib.hid hv6; have HN6 := Lib.hid (SlN.below HN5.out p6); have HB6 := Lib.hid (bt HB5.out p6); clear p6 hv6))
    go_wp2_with (first
      | (go_at_call 28; refine (KS.out _ _ _ HM6.out HN6.out).mono ?_; rintro e w7 ⟨rfl, p7⟩; have HM7 := Lib.hid (SlN.below HM6.out p7); have HN7 := Lib.hid (SlN.below HN6.out p7); have HB7 := Lib.hid (bt HB6.out p7); clear p7)
      | (go_at_call_of 21 (Value.slice A6 F1.length c6); refine (K6.out _ _ HM7.out (HE.out.below HB7.out)).mono ?_; rintro e w8 ⟨rfl, p8⟩; have HN8 := Lib.hid (SlN.below HN7.out p8); have HB8 := Lib.hid (bt HB7.out p8); clear p8)
      | (go_at_call_of 21 (Value.slice A1 F.length c1); refine (K5.out _ _ HN8.out (HE.out.below HB8.out)).mono ?_; rintro e w9 ⟨rfl, p9⟩; have HB9 := Lib.hid (bt HB8.out p9); clear p9)
      | (go_at_call 15; refine (fixed_c _ (HE.out.below HB9.out)).mono ?_; rintro e w10 ⟨rfl, p10⟩))
    go_ret
    exact ⟨rfl, bt HB9.out p10⟩
end Go.Proofs.YtahdfglelhdcnaaDoor

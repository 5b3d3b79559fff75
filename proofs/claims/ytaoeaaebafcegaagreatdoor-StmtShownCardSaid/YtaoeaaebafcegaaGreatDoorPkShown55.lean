/- Chapter 04 (statements), joined: StmPlG, StLwB. -/
import Derived.Test.YtaoeaaebafcegaaGreatDoorPkC49
import Derived.Test.YtaoeaaebafcegaaGreatDoorPkB50
set_option maxRecDepth 100000
set_option maxHeartbeats 8000000
namespace Go.Proofs.YtaoeaaebafcegaaGreatDoor
open Go Go.RowKit
set_option linter.unusedVariables false
theorem shown_long {l:List St} (hs:3998 < (showS l).length):(scanE (123 :: (showS l++[125]))).2.1=2:=by
 unfold scanE
 rw [if_neg (by simp only [List.length_cons,List.length_append,List.length_nil];omega)]
theorem bare_kbe {x y:St} (h:bareS x=bareS y):x.kind=y.kind∧x.body=y.body∧x.els=y.els:=by
 unfold bareS at h
 injection h with h1 h2 h3 h4 h5 h6 h7 h8 h9
 exact ⟨h1,h7,h8⟩
theorem deepF_bare : ∀ (f : Nat) (b : Bool) (l m : List St), l.map bareS = m.map bareS → deepF f b l = deepF f b m
  | f, b, [], [], _ => rfl
  | f, b, x :: r, [], h => by cases h
  | f, b, [], y :: s, h => by cases h
  | 0, b, x :: r, y :: s, h => by unfold deepF; rfl
  | f + 1, b, x :: r, y :: s, h => by
    rw [List.map_cons, List.map_cons] at h
    injection h with h1 h2
    obtain ⟨e1, e2, e3⟩ := bare_kbe h1
    have hl : r.length = s.length := len_bare h2
    have i1 : ∀ b n, deepF f b (r.take n) = deepF f b (s.take n) := fun b n => deepF_bare f b _ _ (by rw [List.map_take, List.map_take, h2])
    have i2 : ∀ b n k, deepF f b ((r.drop n).take k) = deepF f b ((s.drop n).take k) := fun b n k => deepF_bare f b _ _ (by rw [List.map_take, List.map_take, List.map_drop, List.map_drop, h2])
    have i3 : ∀ b n, deepF f b (r.drop n) = deepF f b (s.drop n) := fun b n => deepF_bare f b _ _ (by rw [List.map_drop, List.map_drop, h2])
    have i4 : ∀ b, deepF f b r = deepF f b s := fun b => deepF_bare f b r s h2
    unfold deepF
    rw [e1, e2, e3, hl, i1, i2, i3, i4]
theorem depthS_bare {l m:List St} (h:l.map bareS=m.map bareS) (hl:rightS l=true) (hm:rightS m=true):depthS l=depthS m:=by
 unfold depthS
 rw [if_pos hl,if_pos hm,len_bare h]
 exact deepF_bare _ _ _ _ h
theorem shown_c (l : List Sv) (hl : l.length ≤ 9223372036854775807) (hln : ∀ x ∈ l, SvA x.s) (v : Value) (w : World) (hv : Svs w v l) (hE : Env w) :
    Calls Tryz.prog 6 #[v] w (Yes w) := by
  have HE := Lib.hid hE
  have HC1 := Lib.hid (CutS_c l hl hln v w hv)
  obtain ⟨A0, c0, rfl, hc0⟩ := hv.shape
  clear hv hE hl hln hc0
  go_enter Tryz.func6, Tryz.ntmps6
  go_upto_region 2 with (go_at_call 15; refine (HC1.out).mono ?_; rintro e w1 ⟨a, A1, c1, rfl, hm1, hv1, hb1⟩)
  have HB1 := Lib.hid hb1
  have HN1 := Lib.hid hv1
  obtain ⟨ha, han⟩ := cut_B hm1
  clear hv1 hb1 hm1 HC1
  have HEN : Hid (∀ x, Below w1.heap.size w1 x → Env x) := fun x hx => HE.out.below (bt HB1.out hx)
  have HA : Hid (∀ x, Below w1.heap.size w1 x → Svs x (.slice A1 a.length c1) a) := fun x hx => HN1.out.below hx
  have K1 : Hid (∀ x, Below w1.heap.size w1 x → Calls Tryz.prog 16 #[.slice A1 a.length c1] x fun e w' => e = .returned (.bool (rightS (a.map (·.s)))) ∧ Below x.heap.size x w') := fun x hx => RightS_c a (by omega) han _ x (HA.out x hx) (HEN.out x hx)
  have K3 : Hid (∀ x, Below w1.heap.size w1 x → Calls Tryz.prog 18 #[.slice A1 a.length c1] x fun e w' => e = .returned (.string (str (showS (a.map (·.s))))) ∧ Below x.heap.size x w') := fun x hx => ShowS_c a (by omega) han _ x (HA.out x hx) (HEN.out x hx)
  have K5 : Hid (∀ x, Below w1.heap.size w1 x → Calls Tryz.prog 20 #[.slice A1 a.length c1] x fun e w' => e = .returned (.int .i64 (depthS (a.map (·.s)))) ∧ Below x.heap.size x w') := fun x hx => DepthS_c a (by omega) han _ x (HA.out x hx) (HEN.out x hx)
  cases hr : rightS (a.map (·.s))
  · rw [hr] at K1
    rw [showS_no hr, show str [] = (⟨#[]⟩ : ByteArray) from rfl] at K3
    rw [show depthS (a.map (·.s)) = -1 by unfold depthS; rw [hr]; rfl] at K5
    clear hr ha han HA
    go_wp2_with (first
      | (go_at_call 18; refine (K3.out _ (Below.refl _ _)).mono ?_; rintro e w3 ⟨rfl, q3⟩)
      | (go_at_call 16; refine (K1.out _ q3).mono ?_; rintro e w4 ⟨rfl, p4⟩; have q4 := bt q3 p4; clear p4 q3)
      | (go_at_call 20; refine (K5.out _ q4).mono ?_; rintro e w5 ⟨rfl, p5⟩; have q5 := bt q4 p5; clear p5 q4)
      | (go_at_call 14; refine (fixed_c _ (HEN.out _ q5)).mono ?_; rintro e w16 ⟨rfl, p16⟩))
    go_ret
    exact ⟨rfl, bt (bt HB1.out q5) p16⟩
  · rw [hr] at K1
    obtain ⟨h40, hfit, d, hrd⟩ := right_parts hr
    have hlen : (showS (a.map (·.s))).length ≤ 200000 := by
      rw [showS_yes hr]
      have := lnS_len hrd (mem_fits hfit (fun x h => h)) [] (by rw [List.length_map]; simp only [List.length_nil]; omega)
      rw [List.length_map] at this
      omega
    by_cases hs : (showS (a.map (·.s))).length ≤ 3998
    · obtain ⟨tks, m, h1, h2, h3⟩ := shown_back hr hs
      have hTs := str_app [123] (showS (a.map (·.s)) ++ [125])
      have hm : rightS m = true := parS_right (s := 123 :: (showS (a.map (·.s)) ++ [125])) (by simp only [List.length_cons, List.length_append, List.length_nil]; omega) (by rw [h1]; exact h2)
      have hd := depthS_bare h3 hm hr
      obtain ⟨hm40, hmB⟩ := right_B hm
      obtain ⟨ht1, ht2⟩ := scan_use (123 :: (showS (a.map (·.s)) ++ [125])) (by simp only [List.length_cons, List.length_append, List.length_nil]; omega)
      rw [h1] at ht1 ht2
      dsimp only at ht1 ht2
      have KT : Hid (∀ u, Calls Tryz.prog 25 #[.string (⟨#[123]⟩ ++ str (showS (a.map (·.s))) ++ ⟨#[125]⟩)] u fun e w' => ∃ A c, e = .returned (.tuple #[.slice A tks.length c, .int .i64 0, .int .i64 0]) ∧ Toks w' (.slice A tks.length c) tks ∧ Below u.heap.size u w') := fun u => by
        have e1 : (⟨#[123]⟩ ++ str (showS (a.map (·.s))) ++ ⟨#[125]⟩ : ByteArray) = str (123 :: (showS (a.map (·.s)) ++ [125])) := by
          rw [show (123 :: (showS (a.map (·.s)) ++ [125])) = [123] ++ showS (a.map (·.s)) ++ [125] by simp, str_app, str_app]
          rfl
        rw [e1]
        refine (scan_c _ (by rw [str_size]; simp only [List.length_cons, List.length_append, List.length_nil]; omega) u).mono ?_
        rintro e w' ⟨v2, rfl, hv2, hb2⟩
        rw [str_data, h1] at hv2 ⊢
        dsimp only at hv2 ⊢
        obtain ⟨A, c, rfl, _⟩ := Toks.shape hv2
        exact ⟨A, c, rfl, hv2, hb2⟩
      have KP : Hid (∀ u V, Toks u V tks → Env u → Calls Tryz.prog 12 #[V, .int .i64 0] u fun e w' => ∃ (q : List Sv) (A : Option Addr) (c : Nat), e = .returned (.tuple #[.slice A q.length c, .int .i64 (tks.length : Int), .int .i64 0, .int .i64 0]) ∧ q.map (·.s) = m ∧ Svs w' (.slice A q.length c) q ∧ Below u.heap.size u w') := fun u V hV hE => by
        refine (SParse_c tks ht1 ht2 V 0 u hV hE).mono ?_
        rintro e w' ⟨V2, rfl, ⟨q, hq, ho⟩, hb⟩
        rw [h2] at hq ⊢
        dsimp only at hq ⊢
        have hs := ho.svs
        obtain ⟨A, c, rfl, _⟩ := hs.shape
        exact ⟨q, A, c, rfl, hq, hs, hb⟩
      have KS : Hid (∀ u V V2 (q : List Sv), q.map (·.s) = m → Svs u V q → Svs u V2 a → Calls Tryz.prog 24 #[V, V2] u fun e w' => e = .returned (.bool true) ∧ Below u.heap.size u w') := fun u V V2 q hq h4 h5 => by
        have hql : q.length ≤ 100000 := by have := congrArg List.length hq; rw [List.length_map] at this; omega
        have := SameS_c q a hql (by omega) (B_len (B_of hq hmB)) (B_len han) V V2 u h4 h5
        rw [hq, sameS_bare h3] at this; exact this
      have K6 : Hid (∀ u V (q : List Sv), q.map (·.s) = m → Svs u V q → Env u → Calls Tryz.prog 20 #[V] u fun e w' => e = .returned (.int .i64 (depthS (a.map (·.s)))) ∧ Below u.heap.size u w') := fun u V q hq h4 h5 => by
        have hql : q.length ≤ 100000 := by have := congrArg List.length hq; rw [List.length_map] at this; omega
        have := DepthS_c q hql (B_of hq hmB) V u h4 h5
        rw [hq, hd] at this; exact this
      have hz : (str (showS (a.map (·.s)))).size ≤ 3998 := by rw [str_size]; exact hs
      have hz2 : ((str (showS (a.map (·.s)))).size : Int) ≤ 3998 := by omega
      clear hr hs hlen hrd hfit h40 h1 h2 h3 hTs hm hd hm40 hmB ht1 ht2 ha han
      generalize str (showS (a.map (·.s))) = sh at K3 KT hz hz2
      generalize depthS (a.map (·.s)) = dp at K5 K6
      have f1 : ¬ (9223372036854775807 < 1 + sh.size) := by omega
      have f2 : ¬ (9223372036854775807 < 1 + sh.size + 1) := by omega
      have f3 : ¬ (9223372036854775806 < 1 + sh.size) := by omega
      go_wp2_with (first
        | (go_at_call 18; refine (K3.out _ (Below.refl _ _)).mono ?_; rintro e w3 ⟨rfl, q3⟩)
        | (go_at_call 16; refine (K1.out _ q3).mono ?_; rintro e w4 ⟨rfl, p4⟩; have q4 := bt q3 p4; clear p4 q3)
        | (go_at_call 25; refine (KT.out _).mono ?_; rintro e w5 ⟨A5, c5, rfl, hv5, p5⟩; have HT5 := Lib.hid hv5; have q5 := bt q4 p5; clear p5 q4 hv5)
        | (go_at_call 12; refine (KP.out _ _ HT5.out (HEN.out _ q5)).mono ?_; rintro e w6 ⟨q, A6, c6, rfl, hq6, hv6, p6⟩; have HQ := Lib.hid hq6; have HM6 := Lib.hid hv6; have q6 := bt q5 p6; clear p6 q5 hq6 hv6)
        | (go_at_call 24; refine (KS.out _ _ _ q HQ.out HM6.out (HA.out _ q6)).mono ?_; rintro e w7 ⟨rfl, p7⟩; have HM7 := Lib.hid (HM6.out.below p7); have q7 := bt q6 p7; clear p7 q6)
        | (go_at_call_of 20 (Value.slice A6 q.length c6); refine (K6.out _ _ q HQ.out HM7.out (HEN.out _ q7)).mono ?_; rintro e w8 ⟨rfl, p8⟩; have q8 := bt q7 p8; clear p8 q7)
        | (go_at_call 20; refine (K5.out _ q8).mono ?_; rintro e w9 ⟨rfl, p9⟩; have q9 := bt q8 p9; clear p9 q8)
        | (go_at_call 14; refine (fixed_c _ (HEN.out _ q9)).mono ?_; rintro e w16 ⟨rfl, p16⟩))
      go_ret
      exact ⟨rfl, bt (bt HB1.out q9) p16⟩
    · have h2 := shown_long (l := a.map (·.s)) (by omega)
      have KT : Hid (∀ u, Calls Tryz.prog 25 #[.string (⟨#[123]⟩ ++ str (showS (a.map (·.s))) ++ ⟨#[125]⟩)] u fun e w' => ∃ V p, e = .returned (.tuple #[V, .int .i64 2, .int .i64 p]) ∧ Below u.heap.size u w') := fun u => by
        have e1 : (⟨#[123]⟩ ++ str (showS (a.map (·.s))) ++ ⟨#[125]⟩ : ByteArray) = str (123 :: (showS (a.map (·.s)) ++ [125])) := by
          rw [show (123 :: (showS (a.map (·.s)) ++ [125])) = [123] ++ showS (a.map (·.s)) ++ [125] by simp, str_app, str_app]
          rfl
        rw [e1]
        by_cases hbig : (showS (a.map (·.s))).length ≤ 900000
        · refine (scan_c _ (by rw [str_size]; simp only [List.length_cons, List.length_append, List.length_nil]; omega) u).mono ?_
          rintro e w' ⟨v2, rfl, hv2, hb2⟩
          rw [str_data] at *
          exact ⟨v2, _, by rw [h2], hb2⟩
        · omega
      have hz : (str (showS (a.map (·.s)))).size ≤ 900000 := by rw [str_size]; omega
      have hz2 : (3998 : Int) < ((str (showS (a.map (·.s)))).size : Int) := by rw [str_size]; omega
      clear hr hs hlen hrd hfit h40 h2 ha han
      generalize str (showS (a.map (·.s))) = sh at K3 KT hz hz2
      have f1 : ¬ (9223372036854775807 < 1 + sh.size) := by omega
      have f2 : ¬ (9223372036854775807 < 1 + sh.size + 1) := by omega
      have f3 : ¬ (9223372036854775806 < 1 + sh.size) := by omega
      go_wp2_with (first
        | (go_at_call 18; refine (K3.out _ (Below.refl _ _)).mono ?_; rintro e w3 ⟨rfl, q3⟩)
        | (go_at_call 16; refine (K1.out _ q3).mono ?_; rintro e w4 ⟨rfl, p4⟩; have q4 := bt q3 p4; clear p4 q3)
        | (go_at_call 25; refine (KT.out _).mono ?_; rintro e w5 ⟨V5, n5, rfl, p5⟩; have q5 := bt q4 p5; clear p5 q4)
        | (go_at_call 14; refine (fixed_c _ (HEN.out _ q5)).mono ?_; rintro e w16 ⟨rfl, p16⟩))
      go_ret
      exact ⟨rfl, bt (bt HB1.out q5) p16⟩
end Go.Proofs.YtaoeaaebafcegaaGreatDoor

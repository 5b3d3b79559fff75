/- Chapter 04 (statements), joined: StmPlC, StmPlG, StLwD. -/
import Derived.Test.YtaoeaaebafcegaaGreatDoorPkC248
import Derived.Test.YtaoeaaebafcegaaGreatDoorPkC49
set_option maxRecDepth 100000
set_option maxHeartbeats 8000000
namespace Go.Proofs.YtaoeaaebafcegaaGreatDoor
open Go Go.RowKit
set_option linter.unusedVariables false
theorem Ln.app {l:List St} {rt t:List UInt8} (h:Ln l rt t):∀ {m:List St} {u:List UInt8},Ln m rt u→Ln (l++m) rt (t++u):=by
 induction h with
 | nil=>intro m u hm;exact hm
 | leaf h11 h12 hr ih =>
   intro m u hm
   have:=Ln.leaf h11 h12 (ih hm)
   simpa [List.append_assoc] using this
 | one hk hb he hy hr _ ih =>
   intro m u hm
   have:=Ln.one hk hb he hy (ih hm)
   simpa [List.append_assoc] using this
 | two hk hb he hz0 hy hz hr _ _ ih =>
   intro m u hm
   have:=Ln.two hk hb he hz0 hy hz (ih hm)
   simpa [List.append_assoc] using this
theorem right_big {l:List St} (h:40 < l.length):rightS l=false:=by
 unfold rightS
 rw [decide_eq_false (by omega)];simp
theorem joins_right {l m:List St} (hl:rightS l=true) (hm:rightS m=true) (h:(l++m).length≤40):rightS (l++m)=true∧showS (l++m)=showS l++showS m∧depthS (l++m)=max (depthS l) (depthS m):=by
 obtain ⟨h1,h2,d,h3,h4⟩:=(rightS_iff l).1 hl
 obtain ⟨g1,g2,e,g3,g4⟩:=(rightS_iff m).1 hm
 have hr:=h4.app g4
 have hR:rightS (l++m)=true:=(rightS_iff _).2 ⟨h,fun x hx=>(List.mem_append.1 hx).elim (h2 x) (g2 x),_,by omega,hr⟩
 refine ⟨hR,?_,?_⟩
 ·have a:=rd_ln h4 [] l.length (Nat.le_refl _)
  have b:=rd_ln g4 [] m.length (Nat.le_refl _)
  rw [showS_ln hR (a.app b),showS_ln hl a,showS_ln hm b]
 ·rw [depthS_of hR hr,depthS_of hl h4,depthS_of hm g4]
  omega
theorem joins_c (l m : List Sv) (hl : l.length ≤ 9223372036854775807) (hln : ∀ x ∈ l, SvA x.s) (hm : m.length ≤ 9223372036854775807) (hmn : ∀ x ∈ m, SvA x.s)
    (v u : Value) (w : World) (hv : Svs w v l) (hu : Svs w u m) (hE : Env w) :
    Calls Tryz.prog 8 #[v, u] w (Yes w) := by
  obtain ⟨i0, hi0, hz0, hz1, hz2⟩ := info_parts info_stmt
  have HE := Lib.hid hE
  have HC1 := Lib.hid (CutS_c l hl hln v w hv)
  have HC2 : Hid (∀ x, Below w.heap.size w x → Calls Tryz.prog 15 #[u] x (CutP m x)) := fun x hx => CutS_c m hm hmn u x (hu.below hx)
  obtain ⟨A0, c0, rfl, hc0⟩ := hv.shape
  obtain ⟨B0, d0, rfl, hd0⟩ := hu.shape
  clear hv hu hE hl hln hm hmn hc0 hd0
  go_enter Tryz.func8, Tryz.ntmps8
  go_upto_region 2 with (go_at_call 15; refine (HC1.out).mono ?_; rintro e w1 ⟨a, A1, c1, rfl, hm1, hv1, hb1⟩)
  have HB1 := Lib.hid hb1
  have HN1 := Lib.hid hv1
  obtain ⟨ha, han⟩ := cut_B hm1
  clear hv1 hb1 hm1
  go_upto_region 3 with (go_at_call 15; refine (HC2.out _ HB1.out).mono ?_; rintro e w2 ⟨b, A2, c2, rfl, hm2, hv2, hb2⟩)
  have HN2 := Lib.hid hv2
  have HM2 := Lib.hid (HN1.out.below hb2)
  have HB2 := Lib.hid (bt HB1.out hb2)
  obtain ⟨hb, hbn⟩ := cut_B hm2
  clear hv2 hb2 hm2 HN1 HC1 HC2
  have HEN : Hid (∀ x, Below w2.heap.size w2 x → Env x) := fun x hx => HE.out.below (bt HB2.out hx)
  have HA : Hid (∀ x, Below w2.heap.size w2 x → Svs x (.slice A1 a.length c1) a) := fun x hx => HM2.out.below hx
  have HBN : Hid (∀ x, Below w2.heap.size w2 x → Svs x (.slice A2 b.length c2) b) := fun x hx => HN2.out.below hx
  have K1 : Hid (∀ x, Below w2.heap.size w2 x → Calls Tryz.prog 16 #[.slice A1 a.length c1] x fun e w' => e = .returned (.bool (rightS (a.map (·.s)))) ∧ Below x.heap.size x w') := fun x hx => RightS_c a (by omega) han _ x (HA.out x hx) (HEN.out x hx)
  have K2 : Hid (∀ x, Below w2.heap.size w2 x → Calls Tryz.prog 16 #[.slice A2 b.length c2] x fun e w' => e = .returned (.bool (rightS (b.map (·.s)))) ∧ Below x.heap.size x w') := fun x hx => RightS_c b (by omega) hbn _ x (HBN.out x hx) (HEN.out x hx)
  cases hra : rightS (a.map (·.s))
  · rw [hra] at K1
    clear hra ha han hb hbn HA HBN
    go_wp2_with (first
      | (go_at_call_of 16 (Value.slice A1 a.length c1); refine (K1.out _ (Below.refl _ _)).mono ?_; rintro e w3 ⟨rfl, q3⟩)
      | (go_at_call 14; refine (fixed_c _ (HEN.out _ q3)).mono ?_; rintro e w16 ⟨rfl, p16⟩))
    go_ret
    exact ⟨rfl, bt (bt HB2.out q3) p16⟩
  · cases hrb : rightS (b.map (·.s))
    · rw [hra] at K1
      rw [hrb] at K2
      clear hra hrb ha han hb hbn HA HBN
      go_wp2_with (first
        | (go_at_call_of 16 (Value.slice A1 a.length c1); refine (K1.out _ (Below.refl _ _)).mono ?_; rintro e w3 ⟨rfl, q3⟩)
        | (go_at_call_of 16 (Value.slice A2 b.length c2); refine (K2.out _ q3).mono ?_; rintro e w4 ⟨rfl, p4⟩; have q4 := bt q3 p4; clear p4 q3)
        | (go_at_call 14; refine (fixed_c _ (HEN.out _ q4)).mono ?_; rintro e w16 ⟨rfl, p16⟩))
      go_ret
      exact ⟨rfl, bt (bt HB2.out q4) p16⟩
    · rw [hra] at K1
      rw [hrb] at K2
      have HRA := Lib.hid hra
      have HRB := Lib.hid hrb
      have HAB : Hid (a.length ≤ 50 ∧ b.length ≤ 50) := ⟨ha, hb⟩
      have HBB : Hid (∀ x ∈ a ++ b, SvB x.s) := fun x hx => (List.mem_append.1 hx).elim (han x) (hbn x)
      have K3 : Hid (∀ x, Below w2.heap.size w2 x → Calls Tryz.prog 18 #[.slice A1 a.length c1] x fun e w' => e = .returned (.string (str (showS (a.map (·.s))))) ∧ Below x.heap.size x w') := fun x hx => ShowS_c a (by omega) han _ x (HA.out x hx) (HEN.out x hx)
      have K4 : Hid (∀ x, Below w2.heap.size w2 x → Calls Tryz.prog 18 #[.slice A2 b.length c2] x fun e w' => e = .returned (.string (str (showS (b.map (·.s))))) ∧ Below x.heap.size x w') := fun x hx => ShowS_c b (by omega) hbn _ x (HBN.out x hx) (HEN.out x hx)
      have K5 : Hid (∀ x, Below w2.heap.size w2 x → Calls Tryz.prog 20 #[.slice A1 a.length c1] x fun e w' => e = .returned (.int .i64 (depthS (a.map (·.s)))) ∧ Below x.heap.size x w') := fun x hx => DepthS_c a (by omega) han _ x (HA.out x hx) (HEN.out x hx)
      have K6 : Hid (∀ x, Below w2.heap.size w2 x → Calls Tryz.prog 20 #[.slice A2 b.length c2] x fun e w' => e = .returned (.int .i64 (depthS (b.map (·.s)))) ∧ Below x.heap.size x w') := fun x hx => DepthS_c b (by omega) hbn _ x (HBN.out x hx) (HEN.out x hx)
      clear hra hrb han hbn
      go_upto_region 5 with (first
        | (go_at_call_of 16 (Value.slice A1 a.length c1); refine (K1.out _ (Below.refl _ _)).mono ?_; rintro e w3 ⟨rfl, q3⟩)
        | (go_at_call_of 16 (Value.slice A2 b.length c2); refine (K2.out _ q3).mono ?_; rintro e w4 ⟨rfl, p4⟩; have q4 := bt q3 p4; clear p4 q3))
      have HO4 := Lib.hid (own_emptyC w4 31 9 (by decide))
      have HA4 : Hid (Svs (w4.alloc (.cells #[] 31)) (.slice A1 a.length c1) a) := HA.out _ (balloc q4 _)
      have HS4 : Hid (w4.heap.size ≤ (w4.alloc (.cells #[] 31)).heap.size) := (al w4 _).size
      have HT4 : Hid (0 + a.length ≤ maxLen ∧ (0 + a.length) * 120 ≤ 140737488355328) := by show _ ∧ _; unfold maxLen; constructor <;> omega
      have HT5 : Hid (a.length + b.length ≤ maxLen ∧ (a.length + b.length) * 120 ≤ 140737488355328) := by show _ ∧ _; unfold maxLen; constructor <;> omega
      go_upto_region 6 with (at_builtin; refine wpl_app rfl _ _ 24 rfl w4.heap.size 31 i0 _ 9 120 Tryz.underlying24 hi0 hz0 hz1 hz2 rfl (by decide) (.slice (some ⟨w4.heap.size, 0, none⟩) 0 0) 0 [] rfl HO4.out (.slice A1 a.length c1) a.length (a.flatMap Sv.cells) rfl HA4.out.1 HA4.out.ones HT4.out.1 HT4.out.2 HS4.out ?_; intro v6 w6 hown6 hb6; obtain ⟨A6, c6, rfl⟩ := own_shape hown6)
      have HB6 : Hid (Below w4.heap.size w4 w6) := (al w4 _).trans hb6
      have HQ6 : Hid (Below w2.heap.size w2 w6) := bt q4 HB6.out
      have HB6' : Hid (Svs w6 (.slice A2 b.length c2) b) := HBN.out _ HQ6.out
      simp only [Nat.zero_add, List.nil_append] at hown6 ⊢
      have HO6 := Lib.hid hown6
      have HSZ6 : Hid (w4.heap.size ≤ w6.heap.size) := HB6.out.size
      clear hown6 hb6 HA4 HO4 HS4 HT4
      go_upto_region 7 with (at_builtin; refine wpl_app rfl _ _ 24 rfl w4.heap.size 31 i0 _ 9 120 Tryz.underlying24 hi0 hz0 hz1 hz2 rfl (by decide) (.slice A6 a.length c6) a.length (a.flatMap Sv.cells) rfl HO6.out (.slice A2 b.length c2) b.length (b.flatMap Sv.cells) rfl HB6'.out.1 HB6'.out.ones HT5.out.1 HT5.out.2 HSZ6.out ?_; intro v7 w7 hown7 hb7; obtain ⟨A7, c7, rfl⟩ := own_shape hown7)
      have HB7 : Hid (Below w4.heap.size w4 w7) := HB6.out.trans hb7
      have HQ7 : Hid (Below w2.heap.size w2 w7) := bt q4 HB7.out
      rw [← List.flatMap_append] at hown7
      have HSV : Hid (Svs w7 (.slice A7 (a ++ b).length c7) (a ++ b)) := by
        rw [List.length_append]
        refine ⟨by have := sl_of_own hown7; rw [← List.length_append] at this ⊢; exact this, fun x hx => ?_⟩
        rcases List.mem_append.1 hx with h | h
        · exact (HA.out _ HQ7.out).2 x h
        · exact (HBN.out _ HQ7.out).2 x h
      have HLAB : Hid ((a ++ b).length = a.length + b.length) := List.length_append
      clear hown7 hb7 HO6 HT5 HB6' HQ6 HB6 HSZ6 q4
      rw [HLAB.out] at HSV
      have HX : Hid (∀ x, Below w7.heap.size w7 x → Svs x (.slice A7 (a.length + b.length) c7) (a ++ b)) := fun x hx => HSV.out.below hx
      have HEX : Hid (∀ x, Below w7.heap.size w7 x → Env x) := fun x hx => HEN.out _ (bt HQ7.out hx)
      by_cases hab : a.length + b.length ≤ 40
      · have hj := joins_right HRA.out HRB.out (by rw [← List.map_append, List.length_map, List.length_append]; exact hab)
        rw [← List.map_append] at hj
        obtain ⟨j1, j2, j3⟩ := hj
        have hz1 := show_le HRA.out
        have hz2 := show_le HRB.out
        have K7 : Hid (∀ x, Below w7.heap.size w7 x → Calls Tryz.prog 16 #[.slice A7 (a.length + b.length) c7] x fun e w' => e = .returned (.bool true) ∧ Below x.heap.size x w') := fun x hx => by
          have := RightS_c (a ++ b) (by rw [HLAB.out]; omega) HBB.out _ x (HX.out x hx) (HEX.out x hx)
          rw [j1] at this; exact this
        have K8 : Hid (∀ x, Below w7.heap.size w7 x → Calls Tryz.prog 18 #[.slice A7 (a.length + b.length) c7] x fun e w' => e = .returned (.string (str (showS (a.map (·.s))) ++ str (showS (b.map (·.s))))) ∧ Below x.heap.size x w') := fun x hx => by
          have := ShowS_c (a ++ b) (by rw [HLAB.out]; omega) HBB.out _ x (HX.out x hx) (HEX.out x hx)
          rw [j2, str_app] at this; exact this
        have K9 : Hid (∀ x, Below w7.heap.size w7 x → Calls Tryz.prog 20 #[.slice A7 (a.length + b.length) c7] x fun e w' => e = .returned (.int .i64 (max (depthS (a.map (·.s))) (depthS (b.map (·.s))))) ∧ Below x.heap.size x w') := fun x hx => by
          have := DepthS_c (a ++ b) (by rw [HLAB.out]; omega) HBB.out _ x (HX.out x hx) (HEX.out x hx)
          rw [j3] at this; exact this
        have g40 : ((a.length : Int) + (b.length : Int)) ≤ 40 := by omega
        have y1 : (str (showS (a.map (·.s)))).size ≤ 200000 := by rw [str_size]; exact hz1
        have y2 : (str (showS (b.map (·.s)))).size ≤ 200000 := by rw [str_size]; exact hz2
        clear hz1 hz2 j1 j2 j3 hab ha hb
        generalize str (showS (a.map (·.s))) = sa at K3 K8 y1
        generalize str (showS (b.map (·.s))) = sb at K4 K8 y2
        generalize depthS (a.map (·.s)) = da at K5 K9
        generalize depthS (b.map (·.s)) = db at K6 K9
        have f1 : ¬ (9223372036854775807 < sa.size + sb.size) := by omega
        have hmx : ∀ ts t (u : World), (Builtin.max_ ts t #[.int .i64 da, .int .i64 db]).run Tryz.prog u = .ok (.int .i64 (max da db)) u := fun ts t u => by
          rw [run_max_int2]
          congr 2
          split <;> omega
        generalize max da db = D at K9 hmx
        go_wp2_with (first
            | (go_at_call 16; refine (K7.out _ (Below.refl _ _)).mono ?_; rintro e x1 ⟨rfl, r1⟩)
            | (go_at_call_of 18 (Value.slice A7 (a.length + b.length) c7); refine (K8.out _ r1).mono ?_; rintro e x2 ⟨rfl, p2⟩; have r2 := bt r1 p2; clear p2 r1)
            | (go_at_call_of 18 (Value.slice A1 a.length c1); refine (K3.out _ (bt HQ7.out r2)).mono ?_; rintro e x3 ⟨rfl, p3⟩; have r3 := bt r2 p3; clear p3 r2)
            | (go_at_call_of 18 (Value.slice A2 b.length c2); refine (K4.out _ (bt HQ7.out r3)).mono ?_; rintro e x4 ⟨rfl, p4⟩; have r4 := bt r3 p4; clear p4 r3)
            | (go_at_call_of 20 (Value.slice A7 (a.length + b.length) c7); refine (K9.out _ r4).mono ?_; rintro e x5 ⟨rfl, p5⟩; have r5 := bt r4 p5; clear p5 r4)
            | (go_at_call_of 20 (Value.slice A1 a.length c1); refine (K5.out _ (bt HQ7.out r5)).mono ?_; rintro e x6 ⟨rfl, p6⟩; have r6 := bt r5 p6; clear p6 r5)
            | (go_at_call_of 20 (Value.slice A2 b.length c2); refine (K6.out _ (bt HQ7.out r6)).mono ?_; rintro e x7 ⟨rfl, p7⟩; have r7 := bt r6 p7; clear p7 r6)
            | (go_at_call 14; refine (fixed_c _ (HEX.out _ r7)).mono ?_; rintro e w16 ⟨rfl, p16⟩))
        go_ret
        exact ⟨rfl, bt HB2.out (bt HQ7.out (bt r7 p16))⟩
      · have hbig : rightS ((a ++ b).map (·.s)) = false := right_big (by rw [List.length_map, List.length_append]; omega)
        have K7 : Hid (∀ x, Below w7.heap.size w7 x → Calls Tryz.prog 16 #[.slice A7 (a.length + b.length) c7] x fun e w' => e = .returned (.bool false) ∧ Below x.heap.size x w') := fun x hx => by
          have := RightS_c (a ++ b) (by rw [HLAB.out]; have := HAB.out; omega) HBB.out _ x (HX.out x hx) (HEX.out x hx)
          rw [hbig] at this; exact this
        have g40 : 40 < ((a.length : Int) + (b.length : Int)) := by omega
        clear hbig hab ha hb
        go_wp2_with (first
          | (go_at_call 16; refine (K7.out _ (Below.refl _ _)).mono ?_; rintro e x1 ⟨rfl, r1⟩)
          | (go_at_call 14; refine (fixed_c _ (HEX.out _ r1)).mono ?_; rintro e w16 ⟨rfl, p16⟩))
        go_ret
        exact ⟨rfl, bt HB2.out (bt HQ7.out (bt r1 p16))⟩
end Go.Proofs.YtaoeaaebafcegaaGreatDoor

/- Chapter 04 (statements), joined: StrD, StrM, StLwA. -/
import Derived.Test.YtaoeaaebafcegaaGreatDoorPkD47
import Derived.Test.YtaoeaaebafcegaaGreatDoorPkC49
set_option maxRecDepth 100000
set_option maxHeartbeats 8000000
namespace Go.Proofs.YtaoeaaebafcegaaGreatDoor
open Go Go.RowKit
set_option linter.unusedVariables false
theorem rhas_out (k:Int) (hk:k < 1∨14 < k) (w:World):Calls Tryz.prog 23 #[.int .i64 k] w fun e w'=>e = .returned (.string ⟨#[]⟩)∧Below w.heap.size w w':=by
 rcases hk with hk | hk
 ·have h0:decide (k < 1)=true:=by simp;omega
  go_enter Tryz.func23,Tryz.ntmps23
  go_wp2_with fail
  go_ret
  exact ⟨rfl,Below.refl _ _⟩
 ·have h0:decide (k < 1)=false:=by simp;omega
  have h15:decide ((14:Int) < k)=true:=by simp;omega
  go_enter Tryz.func23,Tryz.ntmps23
  go_wp2_with fail
  go_ret
  exact ⟨rfl,Below.refl _ _⟩
theorem rDepthS_c (pl:List Sv) (hl:pl.length≤100000) (hB:∀ x∈pl,SvB x.s) (v:Value) (w:World) (hv:Svs w v pl) :
 Calls Tryz.prog 21 #[v] w fun e w'=>e = .returned (.int .i64 (depthS (pl.map (·.s))))∧Below w.heap.size w w':=by
 have HC:=Lib.hid (rRightS_c pl hl hB v w hv)
 have hdp:=depthS_dp (pl.map (·.s))
 obtain ⟨A0,c0,rfl,hc0⟩:=hv.shape
 cases hr:rightS (pl.map (·.s))
 ·rw [hr] at HC
  rw [hr,if_neg (by decide)] at hdp
  have HR:=Lib.hid hdp
  clear hv hB hdp hr
  go_enter Tryz.func21,Tryz.ntmps21
  go_wp2_with (go_at_call 17;(with_reducible refine (HC.out).mono ?_);rintro e w1 ⟨rfl,hb1⟩)
  go_ret
  exact ⟨ret_int HR.out.symm,hb1⟩
 ·have h40:pl.length≤40:=by have:=((rightS_iff _).1 hr).1;simpa using this
  have hd:=rdeepS_c pl h40 (.slice A0 pl.length c0)
  have HD:Hid (∀ u,Below w.heap.size w u→Calls Tryz.prog 34 #[.slice A0 pl.length c0,.int .i64 0] u fun e w'=>e = .returned (.int .i64 (dpS false (pl.map (·.s))))∧Below u.heap.size u w'):=fun u hu=>hd u (hv.below hu)
  rw [hr] at HC
  rw [hr,if_pos rfl] at hdp
  have HR:=Lib.hid hdp
  clear hv hB hdp hr hd
  go_enter Tryz.func21,Tryz.ntmps21
  go_wp2_with (first | (go_at_call 17;(with_reducible refine (HC.out).mono ?_);rintro e w1 ⟨rfl,hb1⟩) | (go_at_call 34;(with_reducible refine (HD.out _ hb1).mono ?_);rintro e w2 ⟨rfl,hb2⟩))
  go_ret
  exact ⟨ret_int HR.out.symm,bt hb1 hb2⟩
theorem rhas_any (k:Int) (w:World):Calls Tryz.prog 23 #[.int .i64 k] w fun e w'=>e = .returned (.string (str (hasS k.toNat)))∧Below w.heap.size w w':=by
 by_cases h:1≤k∧k≤14
 ·have:=rhas_in k.toNat (by omega) (by omega) w
  rw [show ((k.toNat:Nat):Int)=k by omega] at this
  exact this
 ·have hs:str (hasS k.toNat)=⟨#[]⟩:=by
   by_cases h0:k < 1
   ·rw [show k.toNat=0 by omega];rfl
   ·have:hasS k.toNat = []:=by
     unfold hasS
     rw [List.getD_eq_getElem?_getD,List.getElem?_eq_none (by show 15≤_;omega)]
     rfl
    rw [this];rfl
  rw [hs]
  exact rhas_out k (by omega) w
theorem tells_c (l m : List Sv) (hl : l.length ≤ 9223372036854775807) (hln : ∀ x ∈ l, SvA x.s) (hm : m.length ≤ 9223372036854775807) (hmn : ∀ x ∈ m, SvA x.s)
    (v u : Value) (k : Int) (w : World) (hv : Svs w v l) (hu : Svs w u m) (hE : Env w) :
    Calls Tryz.prog 4 #[v, u, .int .i64 k] w (Yes w) := by
  have HE := Lib.hid hE
  have HC1 := Lib.hid (CutS_c l hl hln v w hv)
  have HC2 : Hid (∀ x, Below w.heap.size w x → Calls Tryz.prog 15 #[u] x (CutP m x)) := fun x hx => CutS_c m hm hmn u x (hu.below hx)
  obtain ⟨A0, c0, rfl, hc0⟩ := hv.shape
  obtain ⟨B0, d0, rfl, hd0⟩ := hu.shape
  clear hv hu hE hl hln hm hmn hc0 hd0
  go_enter Tryz.func4, Tryz.ntmps4
  go_upto_region 2 with (go_at_call 15; refine (HC1.out).mono ?_; rintro e w1 ⟨a, A1, c1, rfl, hm1, hv1, hb1⟩)
  have HB1 := Lib.hid hb1
  have HN1 := Lib.hid hv1
  obtain ⟨ha, han⟩ := cut_B hm1
  clear hv1 hb1 hm1
  go_upto_region 3 with (go_at_call 15; refine (HC2.out _ HB1.out).mono ?_; rintro e w2 ⟨b, A2, c2, rfl, hm2, hv2, hb2⟩)
  have HN2 := Lib.hid hv2
  have HM2 := Lib.hid (HN1.out.below hb2)
  have HB2 := Lib.hid (bt HB1.out hb2)
  obtain ⟨hb, hbn⟩ := cut_B hm2
  clear hv2 hb2 hm2 HN1 HC1 HC2
  have HEN : Hid (∀ x, Below w2.heap.size w2 x → Env x) := fun x hx => HE.out.below (bt HB2.out hx)
  have HA : Hid (∀ x, Below w2.heap.size w2 x → Svs x (.slice A1 a.length c1) a) := fun x hx => HM2.out.below hx
  have HBN : Hid (∀ x, Below w2.heap.size w2 x → Svs x (.slice A2 b.length c2) b) := fun x hx => HN2.out.below hx
  have K1 : Hid (∀ x, Below w2.heap.size w2 x → Calls Tryz.prog 16 #[.slice A1 a.length c1] x fun e w' => e = .returned (.bool (rightS (a.map (·.s)))) ∧ Below x.heap.size x w') := fun x hx => RightS_c a (by omega) han _ x (HA.out x hx) (HEN.out x hx)
  have K2 : Hid (∀ x, Below w2.heap.size w2 x → Calls Tryz.prog 17 #[.slice A1 a.length c1] x fun e w' => e = .returned (.bool (rightS (a.map (·.s)))) ∧ Below x.heap.size x w') := fun x hx => rRightS_c a (by omega) han _ x (HA.out x hx)
  have K3 : Hid (∀ x, Below w2.heap.size w2 x → Calls Tryz.prog 18 #[.slice A1 a.length c1] x fun e w' => e = .returned (.string (str (showS (a.map (·.s))))) ∧ Below x.heap.size x w') := fun x hx => ShowS_c a (by omega) han _ x (HA.out x hx) (HEN.out x hx)
  have K4 : Hid (∀ x, Below w2.heap.size w2 x → Calls Tryz.prog 19 #[.slice A1 a.length c1] x fun e w' => e = .returned (.string (str (showS (a.map (·.s))))) ∧ Below x.heap.size x w') := fun x hx => rShowS_c a (by omega) han _ x (HA.out x hx)
  have K5 : Hid (∀ x, Below w2.heap.size w2 x → Calls Tryz.prog 20 #[.slice A1 a.length c1] x fun e w' => e = .returned (.int .i64 (depthS (a.map (·.s)))) ∧ Below x.heap.size x w') := fun x hx => DepthS_c a (by omega) han _ x (HA.out x hx) (HEN.out x hx)
  have K6 : Hid (∀ x, Below w2.heap.size w2 x → Calls Tryz.prog 21 #[.slice A1 a.length c1] x fun e w' => e = .returned (.int .i64 (depthS (a.map (·.s)))) ∧ Below x.heap.size x w') := fun x hx => rDepthS_c a (by omega) han _ x (HA.out x hx)
  have K7 := Lib.hid (fun x => has_any k x)
  have K8 := Lib.hid (fun x => rhas_any k x)
  have KC : Hid (∀ x, Below w2.heap.size w2 x → Calls Tryz.prog 24 #[.slice A1 a.length c1, .slice A2 b.length c2] x fun e w' => e = .returned (.bool (sameS false (a.map (·.s)) (b.map (·.s)))) ∧ Below x.heap.size x w') := fun x hx => SameS_c a b (by omega) (by omega) (B_len han) (B_len hbn) _ _ x (HA.out x hx) (HBN.out x hx)
  have KD : Hid (∀ x, Below w2.heap.size w2 x → Calls Tryz.prog 13 #[.slice A1 a.length c1, .slice A2 b.length c2, .bool false] x fun e w' => e = .returned (.bool (sameS false (a.map (·.s)) (b.map (·.s)))) ∧ Below x.heap.size x w') := fun x hx => rsameS_c a b (by omega) (by omega) (B_len han) (B_len hbn) _ _ false x (HA.out x hx) (HBN.out x hx)
  clear ha hb han hbn HA HBN
  generalize rightS (a.map (·.s)) = r at K1 K2
  generalize str (showS (a.map (·.s))) = s at K3 K4
  generalize depthS (a.map (·.s)) = d at K5 K6
  generalize str (hasS k.toNat) = hs at K7 K8
  generalize sameS false (a.map (·.s)) (b.map (·.s)) = sm at KC KD
  go_wp2_with (first
    | (go_at_call 16; refine (K1.out _ (Below.refl _ _)).mono ?_; rintro e w3 ⟨rfl, q3⟩)
    | (go_at_call 17; refine (K2.out _ q3).mono ?_; rintro e w4 ⟨rfl, p4⟩; have q4 := bt q3 p4; clear p4 q3)
    | (go_at_call 18; refine (K3.out _ q4).mono ?_; rintro e w5 ⟨rfl, p5⟩; have q5 := bt q4 p5; clear p5 q4)
    | (go_at_call 19; refine (K4.out _ q5).mono ?_; rintro e w6 ⟨rfl, p6⟩; have q6 := bt q5 p6; clear p6 q5)
    | (go_at_call 20; refine (K5.out _ q6).mono ?_; rintro e w7 ⟨rfl, p7⟩; have q7 := bt q6 p7; clear p7 q6)
    | (go_at_call 21; refine (K6.out _ q7).mono ?_; rintro e w8 ⟨rfl, p8⟩; have q8 := bt q7 p8; clear p8 q7)
    | (go_at_call 22; refine (K7.out _).mono ?_; rintro e w9 ⟨rfl, p9⟩; have q9 := bt q8 p9; clear p9 q8)
    | (go_at_call 23; refine (K8.out _).mono ?_; rintro e w10 ⟨rfl, p10⟩; have q10 := bt q9 p10; clear p10 q9)
    | (go_at_call 24; refine (KC.out _ q10).mono ?_; rintro e w14 ⟨rfl, p14⟩; have q14 := bt q10 p14; clear p14 q10)
    | (go_at_call 13; refine (KD.out _ q14).mono ?_; rintro e w15 ⟨rfl, p15⟩; have q15 := bt q14 p15; clear p15 q14)
    | (go_at_call 14; refine (fixed_c _ (HEN.out _ q15)).mono ?_; rintro e w16 ⟨rfl, p16⟩))
  go_ret
  exact ⟨rfl, bt (bt HB2.out q15) p16⟩
end Go.Proofs.YtaoeaaebafcegaaGreatDoor

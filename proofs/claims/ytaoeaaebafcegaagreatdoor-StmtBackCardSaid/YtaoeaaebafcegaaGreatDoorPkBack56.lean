/- Chapter 04 (statements), joined: StLwC. -/
import Derived.Test.YtaoeaaebafcegaaGreatDoorPkB50
set_option maxRecDepth 100000
set_option maxHeartbeats 8000000
namespace Go.Proofs.YtaoeaaebafcegaaGreatDoor
open Go Go.RowKit
set_option linter.unusedVariables false
theorem block_str (s:List UInt8):(⟨#[123]⟩++str s++⟨#[125]⟩:ByteArray)=str (123 :: (s++[125])):=by
 rw [show (123 :: (s++[125])) = [123]++s++[125] by simp,str_app,str_app]
 rfl
theorem scan_short {s:List UInt8} {tks:List Tok} (h:scanE (123 :: (s++[125]))=(tks,0,0)) (hs:s.length≤900000) (u:World) :
 Calls Tryz.prog 25 #[.string (⟨#[123]⟩++str s++⟨#[125]⟩)] u fun e w'=>∃ A c,e = .returned (.tuple #[.slice A tks.length c,.int .i64 0,.int .i64 0])∧Toks w' (.slice A tks.length c) tks∧Below u.heap.size u w':=by
 rw [block_str]
 refine (scan_c _ (by rw [str_size];simp only [List.length_cons,List.length_append,List.length_nil];omega) u).mono ?_
 rintro e w' ⟨v2,rfl,hv2,hb2⟩
 rw [str_data,h] at hv2 ⊢
 dsimp only at hv2 ⊢
 obtain ⟨A,c,rfl,_⟩:=Toks.shape hv2
 exact ⟨A,c,rfl,hv2,hb2⟩
theorem scan_long {s:List UInt8} (h:3998 < s.length) (hs:s.length≤900000) (u:World) :
 Calls Tryz.prog 25 #[.string (⟨#[123]⟩++str s++⟨#[125]⟩)] u fun e w'=>∃ V p,e = .returned (.tuple #[V,.int .i64 2,.int .i64 p])∧Below u.heap.size u w':=by
 have h2:(scanE (123 :: (s++[125]))).2.1=2:=by
  unfold scanE
  rw [if_neg (by simp only [List.length_cons,List.length_append,List.length_nil];omega)]
 rw [block_str]
 refine (scan_c _ (by rw [str_size];simp only [List.length_cons,List.length_append,List.length_nil];omega) u).mono ?_
 rintro e w' ⟨v2,rfl,hv2,hb2⟩
 rw [str_data] at *
 exact ⟨v2,_,by rw [h2],hb2⟩
theorem parse_known {tks:List Tok} {i:Int} {m:List St} {tt er pl:Int} (hR:parS tks i=(m,tt,er,pl)) (ht1:tks.length≤100000) (ht2:∀ t∈tks,t.text.length≤1000000) (u:World) (V:Value) (hV:Toks u V tks) (hE:Env u) :
 Calls Tryz.prog 12 #[V,.int .i64 i] u fun e w'=>∃ (q:List Sv) (A:Option Addr) (c:Nat),e = .returned (.tuple #[.slice A q.length c,.int .i64 tt,.int .i64 er,.int .i64 pl])∧q.map (·.s)=m∧Svs w' (.slice A q.length c) q∧Below u.heap.size u w':=by
 refine (SParse_c tks ht1 ht2 V i u hV hE).mono ?_
 rintro e w' ⟨V2,rfl,⟨q,hq,ho⟩,hb⟩
 rw [hR] at hq ⊢
 dsimp only at hq ⊢
 have hs:=ho.svs
 obtain ⟨A,c,rfl,_⟩:=hs.shape
 exact ⟨q,A,c,rfl,hq,hs,hb⟩
theorem back_c (s : ByteArray) (hz : s.size ≤ 9223372036854775807) (w : World) (hE : Env w) :
    Calls Tryz.prog 5 #[.string s] w (Yes w) := by
  have HE := Lib.hid hE
  clear hE
  go_enter Tryz.func5, Tryz.ntmps5
  go_wp2_with fail
  have ht := cut_size s 900
  simp only [Int.cast_ofNat_Int] at ht
  generalize s.extract 0 (min (s.size : Int) 900).toNat = t at ht ⊢
  refine (tokens_c t (by omega) _).mono ?_
  rintro e w1 ⟨v, rfl, hv, hb1⟩
  have hdl := data_len t
  have hfine := parS_fine (l := (scanE t.data.toList).1) (n := t.data.toList.length) (scanE_facts t.data.toList).2 (by omega)
  obtain ⟨hl, htx⟩ := scan_use t.data.toList (by omega)
  rw [hdl] at hfine
  generalize (scanE t.data.toList).1 = tks at hv hl htx hfine
  obtain ⟨A0, c0, rfl, _⟩ := Toks.shape hv
  have HL := Lib.hid (And.intro hl htx)
  have HV := Lib.hid hv
  have HB1 := Lib.hid hb1
  have htl : ((tks.length : Nat) : Int) ≤ 100000 := by omega
  clear hl htx hb1 hv hdl
  rcases hfine with ⟨x, tt, hR, hr, ht2, htl2⟩ | ⟨er, p, hR, her, hp0, hpn⟩
  · obtain ⟨hx40, hxB⟩ := right_B hr
    have KP := Lib.hid (fun u V h1 h2 => parse_known hR HL.out.1 HL.out.2 u V h1 h2)
    have KR : Hid (∀ u V (q : List Sv), q.map (·.s) = x → Svs u V q → Env u → Calls Tryz.prog 16 #[V] u fun e w' => e = .returned (.bool true) ∧ Below u.heap.size u w') := fun u V q hq h4 h5 => by
      have hql : q.length ≤ 100000 := by have := congrArg List.length hq; rw [List.length_map] at this; omega
      have := RightS_c q hql (B_of hq hxB) V u h4 h5
      rw [hq, hr] at this; exact this
    have KS : Hid (∀ u V (q : List Sv), q.map (·.s) = x → Svs u V q → Env u → Calls Tryz.prog 18 #[V] u fun e w' => e = .returned (.string (str (showS x))) ∧ Below u.heap.size u w') := fun u V q hq h4 h5 => by
      have hql : q.length ≤ 100000 := by have := congrArg List.length hq; rw [List.length_map] at this; omega
      have := ShowS_c q hql (B_of hq hxB) V u h4 h5
      rw [hq] at this; exact this
    have hsl := show_le hr
    have t2 : (2 : Int) ≤ (tt : Int) := by omega
    have tl : (tt : Int) ≤ (tks.length : Int) := by omega
    by_cases hs : (showS x).length ≤ 3998
    · obtain ⟨tks2, m, h1, h2, h3⟩ := shown_back hr hs
      have hm : rightS m = true := parS_right (s := 123 :: (showS x ++ [125])) (by simp only [List.length_cons, List.length_append, List.length_nil]; omega) (by rw [h1]; exact h2)
      obtain ⟨hm40, hmB⟩ := right_B hm
      obtain ⟨hu1, hu2⟩ := scan_use (123 :: (showS x ++ [125])) (by simp only [List.length_cons, List.length_append, List.length_nil]; omega)
      rw [h1] at hu1 hu2
      dsimp only at hu1 hu2
      have KT := Lib.hid (fun u => scan_short h1 (by omega) u)
      have KP2 := Lib.hid (fun u V h4 h5 => parse_known h2 hu1 hu2 u V h4 h5)
      have KM : Hid (∀ u V V2 (q r : List Sv), q.map (·.s) = x → r.map (·.s) = m → Svs u V q → Svs u V2 r → Calls Tryz.prog 24 #[V, V2] u fun e w' => e = .returned (.bool true) ∧ Below u.heap.size u w') := fun u V V2 q r hq hr' h4 h5 => by
        have hql : q.length ≤ 100000 := by have := congrArg List.length hq; rw [List.length_map] at this; omega
        have hrl : r.length ≤ 100000 := by have := congrArg List.length hr'; rw [List.length_map] at this; omega
        have := SameS_c q r hql hrl (B_len (B_of hq hxB)) (B_len (B_of hr' hmB)) V V2 u h4 h5
        rw [hq, hr', sameS_bare h3.symm] at this; exact this
      have hz2 : (str (showS x)).size ≤ 3998 := by rw [str_size]; exact hs
      clear hs hsl h1 h2 h3 hm hm40 hmB hu1 hu2 hR hr hx40 hxB ht2 htl2
      generalize str (showS x) = sh at KS KT hz2
      have f1 : ¬ (9223372036854775807 < 1 + sh.size) := by omega
      have f2 : ¬ (9223372036854775807 < 1 + sh.size + 1) := by omega
      have f3 : ¬ (9223372036854775806 < 1 + sh.size) := by omega
      go_wp2_with (first
        | (go_at_call_of 12 (Value.slice A0 tks.length c0); refine (KP.out _ _ HV.out (HE.out.below HB1.out)).mono ?_; rintro e w2 ⟨q, A2, c2, rfl, hq2, hv2, p2⟩; have HQ := Lib.hid hq2; have HV2 := Lib.hid hv2; have q2 := bt HB1.out p2; clear p2 hq2 hv2)
        | (go_at_call 18; refine (KS.out _ _ q HQ.out HV2.out (HE.out.below q2)).mono ?_; rintro e w3 ⟨rfl, p3⟩; have HV3 := Lib.hid (HV2.out.below p3); have q3 := bt q2 p3; clear p3 q2)
        | (go_at_call 25; refine (KT.out _).mono ?_; rintro e w4 ⟨A4, c4, rfl, hv4, p4⟩; have HT4 := Lib.hid hv4; have HV4 := Lib.hid (HV3.out.below p4); have q4 := bt q3 p4; clear p4 q3 hv4)
        | (go_at_call 16; refine (KR.out _ _ q HQ.out HV4.out (HE.out.below q4)).mono ?_; rintro e w5 ⟨rfl, p5⟩; have HT5 := Lib.hid (SlN.below HT4.out p5); have HV5 := Lib.hid (HV4.out.below p5); have q5 := bt q4 p5; clear p5 q4)
        | (go_at_call 12; refine (KP2.out _ _ HT5.out (HE.out.below q5)).mono ?_; rintro e w6 ⟨r, A6, c6, rfl, hq6, hv6, p6⟩; have HR := Lib.hid hq6; have HM6 := Lib.hid hv6; have HV6 := Lib.hid (HV5.out.below p6); have q6 := bt q5 p6; clear p6 q5 hq6 hv6)
        | (go_at_call 24; refine (KM.out _ _ _ q r HQ.out HR.out HV6.out HM6.out).mono ?_; rintro e w7 ⟨rfl, p7⟩; have q7 := bt q6 p7; clear p7 q6)
        | (go_at_call 14; refine (fixed_c _ (HE.out.below q7)).mono ?_; rintro e w16 ⟨rfl, p16⟩))
      go_ret
      exact ⟨rfl, bt q7 p16⟩
    · have KT := Lib.hid (fun u => scan_long (s := showS x) (by omega) (by omega) u)
      have hz2 : (str (showS x)).size ≤ 900000 := by rw [str_size]; omega
      clear hs hsl hR hr hx40 hxB ht2 htl2
      generalize str (showS x) = sh at KS KT hz2
      have f1 : ¬ (9223372036854775807 < 1 + sh.size) := by omega
      have f2 : ¬ (9223372036854775807 < 1 + sh.size + 1) := by omega
      have f3 : ¬ (9223372036854775806 < 1 + sh.size) := by omega
      go_wp2_with (first
        | (go_at_call_of 12 (Value.slice A0 tks.length c0); refine (KP.out _ _ HV.out (HE.out.below HB1.out)).mono ?_; rintro e w2 ⟨q, A2, c2, rfl, hq2, hv2, p2⟩; have HQ := Lib.hid hq2; have HV2 := Lib.hid hv2; have q2 := bt HB1.out p2; clear p2 hq2 hv2)
        | (go_at_call 18; refine (KS.out _ _ q HQ.out HV2.out (HE.out.below q2)).mono ?_; rintro e w3 ⟨rfl, p3⟩; have HV3 := Lib.hid (HV2.out.below p3); have q3 := bt q2 p3; clear p3 q2)
        | (go_at_call 25; refine (KT.out _).mono ?_; rintro e w4 ⟨V4, n4, rfl, p4⟩; have HV4 := Lib.hid (HV3.out.below p4); have q4 := bt q3 p4; clear p4 q3)
        | (go_at_call 16; refine (KR.out _ _ q HQ.out HV4.out (HE.out.below q4)).mono ?_; rintro e w5 ⟨rfl, p5⟩; have HV5 := Lib.hid (HV4.out.below p5); have q5 := bt q4 p5; clear p5 q4)
        | (go_at_call 16; refine (KR.out _ _ q HQ.out HV5.out (HE.out.below q5)).mono ?_; rintro e w6 ⟨rfl, p6⟩; have q6 := bt q5 p6; clear p6 q5)
        | (go_at_call 14; refine (fixed_c _ (HE.out.below q6)).mono ?_; rintro e w16 ⟨rfl, p16⟩))
      go_ret
      exact ⟨rfl, bt q6 p16⟩
  · have KP := Lib.hid (fun u V h1 h2 => parse_known hR HL.out.1 HL.out.2 u V h1 h2)
    have hne : (er != 0) = true := by rw [bne_iff_ne]; exact her
    have hp2 : p ≤ (t.size : Int) := by omega
    clear hR her hpn
    go_wp2_with (first
      | (go_at_call 12; refine (KP.out _ _ HV.out (HE.out.below HB1.out)).mono ?_; rintro e w2 ⟨q, A2, c2, rfl, hq2, hv2, p2⟩; obtain rfl : q = [] := (by simpa using hq2); have q2 := bt HB1.out p2; clear p2 hq2 hv2)
      | (go_at_call 14; refine (fixed_c _ (HE.out.below q2)).mono ?_; rintro e w16 ⟨rfl, p16⟩))
    go_ret
    exact ⟨rfl, bt q2 p16⟩
end Go.Proofs.YtaoeaaebafcegaaGreatDoor

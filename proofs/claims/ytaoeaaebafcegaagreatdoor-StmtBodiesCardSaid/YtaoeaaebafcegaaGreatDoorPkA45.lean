/- Chapter 04 (statements), joined: StFix, StLwA, StLwC. -/
import Derived.Test.YtaoeaaebafcegaaGreatDoorPkA38
import Derived.Test.YtaoeaaebafcegaaGreatDoorPkA42
import Derived.Test.YtaoeaaebafcegaaGreatDoorPkA43
import Derived.Test.YtaoeaaebafcegaaGreatDoorPkA44
import Derived.BigRegion
set_option maxRecDepth 100000
set_option maxHeartbeats 8000000
namespace Go.Proofs.YtaoeaaebafcegaaGreatDoor
open Go Go.RowKit
set_option linter.unusedVariables false
theorem fits_B {x:St} (h:Fits x):SvB x:=by
 have hr:x.reg.length≤16:=by
  have:=h.r
  split at this
  ·exact name_le16 this
  ·rw [this];exact Nat.zero_le _
 have hn:x.name.length≤16:=by
  have:=h.nm
  split at this
  ·exact name_le16 this
  ·rw [this];exact Nat.zero_le _
 have he:x.e.length≤100000∧∀ y∈x.e,y.name.length≤1000000:=by
  have:=h.e
  split at this
  ·exact ⟨(right_small this).1,(right_small this).2.1⟩
  ·rw [this];exact ⟨Nat.zero_le _,fun y hy=>by cases hy⟩
 have hf:x.f.length≤100000∧∀ y∈x.f,y.name.length≤1000000:=by
  have:=h.f
  split at this
  ·exact ⟨(right_small this).1,(right_small this).2.1⟩
  ·rw [this];exact ⟨Nat.zero_le _,fun y hy=>by cases hy⟩
 exact ⟨by omega,by omega,he.1,hf.1,he.2,hf.2⟩
theorem B_of {pl:List Sv} {l:List St} (h:pl.map (·.s)=l) (hl:∀ x∈l,SvB x):∀ x∈pl,SvB x.s:=fun x hx=>hl _ (by rw [← h];exact List.mem_map.2 ⟨x,hx,rfl⟩)
theorem scan_use (l:List UInt8) (h:l.length≤100000):(scanE l).1.length≤100000∧∀ t∈(scanE l).1,t.text.length≤1000000 :=
 ⟨Nat.le_trans (scanE_facts l).1 h,fun t ht=>by have:=scanE_text l t ht;omega⟩
theorem SOwP.svs {T:Nat→Prop} {B:Nat} {w:World} {v:Value} {pl:List Sv} (h:SOwP T B w v pl):Svs w v pl :=
 ⟨sl_of_own h.own,fun x hx=>⟨(h.nods x hx).now.1.nods,(h.nods x hx).now.2.nods⟩⟩
theorem parse_text (l:List UInt8) (h:l.length≤100000) (s:ByteArray) (hs:s=str l) (w:World) (hE:Env w) (v:Value) (hv:Toks w v (scanE s.data.toList).1) (i:Int) (F:List St) (n:Nat) (tt er pl:Int) (hF:F.length=n) (hR:parS (scanE l).1 i=(F,tt,er,pl)) :
 Calls Tryz.prog 12 #[v,.int .i64 i] w fun e w'=>∃ (q:List Sv) (A:Option Addr) (c:Nat),e = .returned (.tuple #[.slice A n c,.int .i64 tt,.int .i64 er,.int .i64 pl])∧q.map (·.s)=F∧q.length=n∧Svs w' (.slice A n c) q∧Below w.heap.size w w':=by
 subst hs hF
 rw [str_data] at hv
 obtain ⟨h1,h2⟩:=scan_use l h
 refine (SParse_c (scanE l).1 h1 h2 v i w hv hE).mono ?_
 rintro e w' ⟨V,rfl,⟨q,hq,ho⟩,hb⟩
 rw [hR] at hq ⊢
 have hs:=ho.svs
 obtain ⟨A,c,rfl,hc⟩:=hs.shape
 have hl:q.length=F.length:=by have:=congrArg List.length hq;rw [List.length_map] at this;exact this
 rw [hl] at hs ⊢
 exact ⟨q,A,c,rfl,hq,hl,hs,hb⟩
theorem st_at {w:World} {A:Option Addr} {n c:Nat} {q:List Sv} {F:List St} (hq:q.map (·.s)=F) (hn:q.length=n) (hs:Svs w (.slice A n c) q) (h0:0 < n) :
 ∃ b off,A=some ⟨b,off,none⟩∧n≤c∧b < w.heap.size∧∀ i (hi:i < F.length),∃ ev fv,StAt w b (off+i*9) ⟨F[i],ev,fv⟩:=by
 subst hq hn
 obtain ⟨b,off,c',hE,hc,hlt,hat⟩:=hs.at_ (by omega)
 cases hE
 refine ⟨b,off,rfl,hc,hlt,fun i hi=>⟨(q[i]'(by simpa using hi)).ev,(q[i]'(by simpa using hi)).fv,?_⟩⟩
 have:=hat i (by simpa using hi)
 simpa using this
theorem fB1:∀ x∈fS1,SvB x:=fun x hx=>fits_B (fS1_fits x hx)
theorem fB5:∀ x∈fS5,SvB x:=fun x hx=>fits_B (fS5_fits x hx)
theorem fBt:∀ x∈fS1.drop 1,SvB x:=fun x hx=>fB1 x (List.mem_of_mem_drop hx)
theorem B_len {q:List Sv} (h:∀ x∈q,SvB x.s):∀ x∈q,x.s.e.length≤100000∧x.s.f.length≤100000:=fun x hx=>⟨(h x hx).e,(h x hx).f⟩
theorem fxc_show (w:World) (q:List Sv) (hq:q.map (·.s)=fS5) (v:Value) (hv:Svs w v q) (hE:Env w) :
 Calls Tryz.prog 18 #[v] w fun e w'=>e = .returned (.string ⟨#[105,102,32,114,32,123,10,125,10,115,116,111,114,101,32,97,32,61,32,114,32,43,32,49,59,10]⟩)∧Below w.heap.size w w':=by
 have:=ShowS_c q (by have:=congrArg List.length hq;rw [List.length_map] at this;rw [this];decide) (B_of hq fB5) v w hv hE
 rw [hq,fS5_s] at this
 exact this
theorem fxc_r1 (w:World) (q:List Sv) (hq:q.map (·.s)=fS1) (v:Value) (hv:Svs w v q) (hE:Env w) :
 Calls Tryz.prog 16 #[v] w fun e w'=>e = .returned (.bool true)∧Below w.heap.size w w':=by
 have:=RightS_c q (by have:=congrArg List.length hq;rw [List.length_map] at this;rw [this];decide) (B_of hq fB1) v w hv hE
 rw [hq,fS1_r] at this
 exact this
theorem fxc_rt (w:World) (q:List Sv) (hq:q.map (·.s)=fS1.drop 1) (v:Value) (hv:Svs w v q) (hE:Env w) :
 Calls Tryz.prog 16 #[v] w fun e w'=>e = .returned (.bool false)∧Below w.heap.size w w':=by
 have:=RightS_c q (by have:=congrArg List.length hq;rw [List.length_map] at this;rw [this];decide) (B_of hq fBt) v w hv hE
 rw [hq,fS1_t] at this
 exact this
theorem fxc_d1 (w:World) (q:List Sv) (hq:q.map (·.s)=fS1) (v:Value) (hv:Svs w v q) (hE:Env w) :
 Calls Tryz.prog 20 #[v] w fun e w'=>e = .returned (.int .i64 1)∧Below w.heap.size w w':=by
 have:=DepthS_c q (by have:=congrArg List.length hq;rw [List.length_map] at this;rw [this];decide) (B_of hq fB1) v w hv hE
 rw [hq,fS1_d] at this
 exact this
theorem fxc_has (w:World):Calls Tryz.prog 22 #[.int .i64 4] w fun e w'=>e = .returned (.string ⟨#[114,110,101,102]⟩)∧Below w.heap.size w w':=has_any 4 w
theorem fxc_s1 (w:World) (q:List Sv) (hq:q.map (·.s)=fS1) (v:Value) (hv:Svs w v q) :
 Calls Tryz.prog 24 #[v,v] w fun e w'=>e = .returned (.bool true)∧Below w.heap.size w w':=by
 have hl:q.length≤100000:=by have:=congrArg List.length hq;rw [List.length_map] at this;rw [this];decide
 have:=SameS_c q q hl hl (B_len (B_of hq fB1)) (B_len (B_of hq fB1)) v v w hv hv
 rw [hq,fS_same] at this
 exact this
theorem fxc_s2 (w:World) (q r:List Sv) (hq:q.map (·.s)=fS1) (hr:r.map (·.s)=fS5) (v u:Value) (hv:Svs w v q) (hu:Svs w u r) :
 Calls Tryz.prog 24 #[v,u] w fun e w'=>e = .returned (.bool false)∧Below w.heap.size w w':=by
 have hl:q.length≤100000:=by have:=congrArg List.length hq;rw [List.length_map] at this;rw [this];decide
 have hl2:r.length≤100000:=by have:=congrArg List.length hr;rw [List.length_map] at this;rw [this];decide
 have:=SameS_c q r hl hl2 (B_len (B_of hq fB1)) (B_len (B_of hr fB5)) v u w hv hu
 rw [hq,hr,fS_not] at this
 exact this
theorem fixed_c (w : World) (hE : Env w) : Calls Tryz.prog 14 #[] w fun e w' => e = .returned (.bool true) ∧ Below w.heap.size w w' := by
  have HT : Hid (∀ (s : ByteArray) u, s.size ≤ 1000 → Calls Tryz.prog 10 #[.string s] u fun e w' => ∃ v, e = .returned v ∧ Toks w' v (scanE s.data.toList).1 ∧ Below u.heap.size u w') := fun s u hs => tokens_c s (by omega) u
  have HE := Lib.hid hE
  clear hE
  go_enter Tryz.func14, Tryz.ntmps14
  go_upto_region 2 with (first
    | (go_at_call 10; refine (HT.out _ _ (by decide)).mono ?_; rintro e t1 ⟨vt1, rfl, hvt1, hbt1⟩; have hbu1 : Below w.heap.size w t1 := hbt1; have hvu1 := hvt1; clear hvt1)
    | (go_at_call 12; refine (parse_text fT1 (by decide) _ rfl t1 (HE.out.below hbu1) _ hvu1 0 fS1 3 13 0 0 rfl fT1_p).mono ?_; rintro e p1 ⟨q1, A1, c1, rfl, hq1, hn1, hs1, hbp1⟩))
  have HB1 := Lib.hid (bt hbu1 hbp1)
  have HQ1 := Lib.hid (bt hbt1 hbp1)
  have HM1 := Lib.hid hq1
  have HN1 := Lib.hid hn1
  have HS1 := Lib.hid hs1
  clear hbu1 hbp1 hbt1 hvu1 hq1 hn1 hs1
  go_upto_region 3 with (first
    | (go_at_call 10; refine (HT.out _ _ (by decide)).mono ?_; rintro e t2 ⟨vt2, rfl, hvt2, hbt2⟩; have hbu2 : Below w.heap.size w t2 := bt HB1.out hbt2; have hvu2 := hvt2; clear hvt2)
    | (go_at_call 12; refine (parse_text fT2 (by decide) _ rfl t2 (HE.out.below hbu2) _ hvu2 0 [] 0 0 5 2 rfl fT2_p).mono ?_; rintro e p2 ⟨q2, A2, c2, rfl, hq2, hn2, hs2, hbp2⟩))
  have HB2 := Lib.hid (bt hbu2 hbp2)
  have HQ2 := Lib.hid (bt hbt2 hbp2)
  clear hbu2 hbp2 hbt2 hvu2 hq2 hn2 hs2
  go_upto_region 4 with (first
    | (go_at_call 10; refine (HT.out _ _ (by decide)).mono ?_; rintro e t3 ⟨vt3, rfl, hvt3, hbt3⟩; have hbu3 : Below w.heap.size w t3 := bt HB2.out hbt3; have hvu3 := hvt3; clear hvt3)
    | (go_at_call 12; refine (parse_text fT3 (by decide) _ rfl t3 (HE.out.below hbu3) _ hvu3 0 [] 0 0 11 7 rfl fT3_p).mono ?_; rintro e p3 ⟨q3, A3, c3, rfl, hq3, hn3, hs3, hbp3⟩))
  have HB3 := Lib.hid (bt hbu3 hbp3)
  have HQ3 := Lib.hid (bt hbt3 hbp3)
  clear hbu3 hbp3 hbt3 hvu3 hq3 hn3 hs3
  go_upto_region 5 with (first
    | (go_at_call 10; refine (HT.out _ _ (by decide)).mono ?_; rintro e t4 ⟨vt4, rfl, hvt4, hbt4⟩; have hbu4 : Below w.heap.size w t4 := bt HB3.out hbt4; have hvu4 := hvt4; clear hvt4)
    | (go_at_call 12; refine (parse_text fT4 (by decide) _ rfl t4 (HE.out.below hbu4) _ hvu4 0 [] 0 0 6 14 rfl fT4_p).mono ?_; rintro e p4 ⟨q4, A4, c4, rfl, hq4, hn4, hs4, hbp4⟩))
  have HB4 := Lib.hid (bt hbu4 hbp4)
  have HQ4 := Lib.hid (bt hbt4 hbp4)
  clear hbu4 hbp4 hbt4 hvu4 hq4 hn4 hs4
  go_upto_region 6 with (first
    | (go_at_call 10; refine (HT.out _ _ (by decide)).mono ?_; rintro e t5 ⟨vt5, rfl, hvt5, hbt5⟩; have hbu5 : Below w.heap.size w t5 := bt HB4.out hbt5; have hvu5 := hvt5; clear hvt5)
    | (go_at_call 12; refine (parse_text fT5 (by decide) _ rfl t5 (HE.out.below hbu5) _ hvu5 0 fS5 2 16 0 0 rfl fT5_p).mono ?_; rintro e p5 ⟨q5, A5, c5, rfl, hq5, hn5, hs5, hbp5⟩))
  have HB5 := Lib.hid (bt hbu5 hbp5)
  have HQ5 := Lib.hid (bt hbt5 hbp5)
  have HM5 := Lib.hid hq5
  have HN5 := Lib.hid hn5
  have HS5 := Lib.hid hs5
  clear hbu5 hbp5 hbt5 hvu5 hq5 hn5 hs5
  have HQ := Lib.hid (bt (bt (bt HQ2.out HQ3.out) HQ4.out) HQ5.out)
  obtain ⟨b1, o1, rfl, hk1, hl1, hat1⟩ := st_at HM1.out HN1.out HS1.out (by decide)
  obtain ⟨b5, o5, rfl, hk5, hl5, hat5⟩ := st_at HM5.out HN5.out HS5.out (by decide)
  obtain ⟨e10, f10, x10⟩ := hat1 0 (by decide)
  obtain ⟨e11, f11, x11⟩ := hat1 1 (by decide)
  obtain ⟨e12, f12, x12⟩ := hat1 2 (by decide)
  obtain ⟨e50, f50, x50⟩ := hat5 0 (by decide)
  have y10 := x10.below HQ.out hl1
  have y11 := x11.below HQ.out hl1
  have y12 := x12.below HQ.out hl1
  have z0 := y10.c0
  have z5 := y10.c5
  have z6 := y10.c6
  have zk := y11.c0
  have zr := y11.c1
  have zn := y11.c2
  have zb := y12.c0
  have u6 := x50.c6
  have u7 := x50.c7
  simp only [fS1, fS5, List.getElem_cons_zero, List.getElem_cons_succ, Nat.zero_mul, Nat.add_zero, Nat.one_mul, Nat.reduceMul, Nat.add_assoc, Nat.reduceAdd] at z0 z5 z6 zk zr zn zb u6 u7
  rw [show str [114] = (⟨#[114]⟩ : ByteArray) from rfl] at zr
  rw [show str [97] = (⟨#[97]⟩ : ByteArray) from rfl] at zn
  clear x10 x11 x12 x50 y10 y11 y12 hat1 hat5
  have HL : Hid (∀ u, Below p5.heap.size p5 u → Svs u (.slice (some ⟨b1, o1, none⟩) 3 c1) q1) := fun u hu => HS1.out.below (bt HQ.out hu)
  have HR : Hid (∀ u, Below p5.heap.size p5 u → Svs u (.slice (some ⟨b5, o5, none⟩) 2 c5) q5) := fun u hu => HS5.out.below hu
  have HTL : Hid (∀ u, Below p5.heap.size p5 u → Svs u (.slice (some ⟨b1, o1 + 9, none⟩) 2 (c1 - 1)) (q1.drop 1)) := fun u hu => by
    have hn := HN1.out
    have h := HL.out u hu
    rw [← hn] at h
    have := h.sub 1 2 (c1 - 1) (by omega) (by omega)
    rw [List.take_of_length_le (by rw [List.length_drop]; omega)] at this
    exact this
  have HMT : Hid ((q1.drop 1).map (·.s) = fS1.drop 1) := by show _ = _; rw [List.map_drop, HM1.out]
  have HEU : Hid (∀ u, Below p5.heap.size p5 u → Env u) := fun u hu => HE.out.below (bt HB5.out hu)
  have hk15 : ¬ (c1 = 1) := by omega
  have r0 := Below.refl p5.heap.size p5
  clear HQ HQ1 HQ2 HQ3 HQ4 HQ5 hl1 hl5 hk5
  go_wp2_with (first
    | (go_at_call 18; refine (fxc_show _ q5 HM5.out _ (HR.out _ r0) (HEU.out _ r0)).mono ?_; rintro e w8 ⟨rfl, hb8⟩; have h8 : Below p5.heap.size p5 w8 := hb8; clear hb8 r0)
    | (go_at_call_of 16 (Value.slice (some ⟨b1, o1, none⟩) 3 c1); refine (fxc_r1 _ q1 HM1.out _ (HL.out _ h8) (HEU.out _ h8)).mono ?_; rintro e w9 ⟨rfl, hb9⟩; have h9 := bt h8 hb9; clear hb9 h8)
    | (go_at_call 16; refine (fxc_rt _ (q1.drop 1) HMT.out _ (HTL.out _ h9) (HEU.out _ h9)).mono ?_; rintro e w10 ⟨rfl, hb10⟩; have h10 := bt h9 hb10; clear hb10 h9)
    | (go_at_call 20; refine (fxc_d1 _ q1 HM1.out _ (HL.out _ h10) (HEU.out _ h10)).mono ?_; rintro e w11 ⟨rfl, hb11⟩; have h11 := bt h10 hb11; clear hb11 h10)
    | (go_at_call 22; refine (fxc_has _).mono ?_; rintro e w12 ⟨rfl, hb12⟩; have h12 := bt h11 hb12; clear hb12 h11)
    | (go_at_call 24; refine (fxc_s1 _ q1 HM1.out _ (HL.out _ h12)).mono ?_; rintro e w13 ⟨rfl, hb13⟩; have h13 := bt h12 hb13; clear hb13 h12)
    | (go_at_call 24; refine (fxc_s2 _ q1 q5 HM1.out HM5.out _ _ (HL.out _ h13) (HR.out _ h13)).mono ?_; rintro e w14 ⟨rfl, hb14⟩; have h14 := bt h13 hb14; clear hb14 h13))
  go_ret
  exact ⟨rfl, bt HB5.out h14⟩
def Yes (w:World) (e:Ending) (w':World):Prop:=e = .returned (.bool true)∧Below w.heap.size w w'
theorem cut_size (s:ByteArray) (n:Nat):(s.extract 0 (min (s.size:Int) n).toNat).size≤n:=by
 rw [ByteArray.size_extract];omega
theorem data_len (t:ByteArray):t.data.toList.length=t.size:=by rw [Array.length_toList];rfl
end Go.Proofs.YtaoeaaebafcegaaGreatDoor

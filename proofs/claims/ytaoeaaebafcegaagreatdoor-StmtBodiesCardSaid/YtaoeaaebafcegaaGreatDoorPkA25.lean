/- Chapter 04 (statements), joined: StrA, StrN, StrG. -/
import Derived.Test.YtaoeaaebafcegaaGreatDoorPkA18
import Derived.Test.YtaoeaaebafcegaaGreatDoorPkA19
import Derived.Test.YtaoeaaebafcegaaGreatDoorPkA22
import Derived.Test.YtaoeaaebafcegaaGreatDoorPkA23
set_option maxRecDepth 100000
set_option maxHeartbeats 4000000
namespace Go.Proofs.YtaoeaaebafcegaaGreatDoor
open Go Go.RowKit
set_option linter.unusedVariables false
def Svs (w:World) (v:Value) (pl:List Sv):Prop:=SlN w v 9 pl.length (pl.flatMap Sv.cells)∧∀ x∈pl,Nods w x.ev x.s.e∧Nods w x.fv x.s.f
theorem Svs.below {w w':World} {v:Value} {pl:List Sv} (h:Svs w v pl) (hb:Below w.heap.size w w'):Svs w' v pl :=
 ⟨SlN.below h.1 hb,fun x hx=>⟨SlN.below (h.2 x hx).1 hb,SlN.below (h.2 x hx).2 hb⟩⟩
theorem Svs.shape {w:World} {v:Value} {pl:List Sv} (h:Svs w v pl):∃ A c,v = .slice A pl.length c∧pl.length≤c:=by
 obtain ⟨⟨_,A,c,hv,hc,_⟩,_⟩:=h;exact ⟨A,c,hv,hc⟩
structure StAt (w:World) (b o:Nat) (x:Sv):Prop where
 c0:w.cell? ⟨b,o,none⟩=some (.int .i64 x.s.kind)
 c1:w.cell? ⟨b,o+1,none⟩=some (.string (str x.s.reg))
 c2:w.cell? ⟨b,o+2,none⟩=some (.string (str x.s.name))
 c3:w.cell? ⟨b,o+3,none⟩=some (x.ev)
 c4:w.cell? ⟨b,o+4,none⟩=some (x.fv)
 c5:w.cell? ⟨b,o+5,none⟩=some (.int .i64 x.s.n)
 c6:w.cell? ⟨b,o+6,none⟩=some (.int .i64 x.s.body)
 c7:w.cell? ⟨b,o+7,none⟩=some (.int .i64 x.s.els)
 c8:w.cell? ⟨b,o+8,none⟩=some (.int .i64 x.s.pos)
theorem Svs.at_ {w:World} {v:Value} {pl:List Sv} (h:Svs w v pl) (h0:0 < pl.length) :
 ∃ b off c,v = .slice (some ⟨b,off,none⟩) pl.length c∧pl.length≤c∧b < w.heap.size∧∀ i (hi:i < pl.length),StAt w b (off+i*9) pl[i]:=by
 obtain ⟨⟨_,A,c,hv,hc,hf⟩,_⟩:=h
 obtain ⟨b,off,hA,hlt,hcell⟩:=hf h0
 subst hA
 refine ⟨b,off,c,hv,hc,hlt,fun i hi=>?_⟩
 have hg:=fun k hk=>flat_getElem Sv.cells 9 Sv.cells_len pl i k hi hk
 exact ⟨hcell _ _ (hg 0 (by omega)),hcell _ _ (hg 1 (by omega)),hcell _ _ (hg 2 (by omega)),hcell _ _ (hg 3 (by omega)),hcell _ _ (hg 4 (by omega)),hcell _ _ (hg 5 (by omega)),hcell _ _ (hg 6 (by omega)),hcell _ _ (hg 7 (by omega)),hcell _ _ (hg 8 (by omega))⟩
theorem StAt.below {w w':World} {b o:Nat} {x:Sv} (h:StAt w b o x) (hb:Below w.heap.size w w') (hlt:b < w.heap.size):StAt w' b o x :=
 ⟨(hb.cell (p:=⟨b,_,none⟩) hlt).trans h.c0,(hb.cell (p:=⟨b,_,none⟩) hlt).trans h.c1,(hb.cell (p:=⟨b,_,none⟩) hlt).trans h.c2,(hb.cell (p:=⟨b,_,none⟩) hlt).trans h.c3,(hb.cell (p:=⟨b,_,none⟩) hlt).trans h.c4,(hb.cell (p:=⟨b,_,none⟩) hlt).trans h.c5,(hb.cell (p:=⟨b,_,none⟩) hlt).trans h.c6,(hb.cell (p:=⟨b,_,none⟩) hlt).trans h.c7,(hb.cell (p:=⟨b,_,none⟩) hlt).trans h.c8⟩
def sv0:Sv:=⟨zeroS,.slice none 0 0,.slice none 0 0⟩
def sv (l:List Sv) (i:Nat):Sv:=l.getD i sv0
theorem sv_at {l:List Sv} {i:Nat} (h:i < l.length):sv l i=l[i]:=by
 unfold sv;rw [List.getD_eq_getElem?_getD,List.getElem?_eq_getElem h];rfl
theorem sv_mem {l:List Sv} {i:Nat} (h:i < l.length):sv l i∈l:=by rw [sv_at h];exact List.getElem_mem h
def svV (x:Sv):Value:=stV x.s x.ev x.fv
theorem sameS_len {b:Bool}:∀ {l m:List St},l.length≠m.length→sameS b l m=false
 | [],[],h=>absurd rfl h
 | [],_ :: _,_=>rfl
 | _ :: _,[],_=>rfl
 | x :: a,y :: c,h=>by
   unfold sameS
   rw [sameS_len (l:=a) (m:=c) (by simpa using h)]
   simp
theorem sameS_yes {b : Bool} : ∀ {l m : List Sv} (h : l.length = m.length), (∀ i, i < l.length → sameSt b (sv l i).s (sv m i).s = true) → sameS b (l.map (·.s)) (m.map (·.s)) = true
  | [], [], _, _ => rfl
  | x :: a, y :: c, h, hall => by
    rw [List.map_cons, List.map_cons]
    unfold sameS
    have h0 := hall 0 (by simp)
    have h1 := sameS_yes (b := b) (l := a) (m := c) (by simpa using h) (fun i hi => by have := hall (i + 1) (by simp; omega); simpa [sv] using this)
    have h0' : sameSt b x.s y.s = true := h0
    rw [h0', h1]; rfl
theorem sameS_no {b : Bool} : ∀ {l m : List Sv} (h : l.length = m.length) (i : Nat), i < l.length → sameSt b (sv l i).s (sv m i).s = false → sameS b (l.map (·.s)) (m.map (·.s)) = false
  | x :: a, y :: c, h, 0, _, h0 => by
    rw [List.map_cons, List.map_cons]
    unfold sameS
    have h0' : sameSt b x.s y.s = false := h0
    rw [h0']; rfl
  | x :: a, y :: c, h, i + 1, hi, h0 => by
    rw [List.map_cons, List.map_cons]
    unfold sameS
    rw [sameS_no (l := a) (m := c) (by simpa using h) i (by simpa using hi) (by simpa [sv] using h0)]
    simp
theorem name_le16 {s:List UInt8} (h:nameE s=true):s.length≤16:=by
 obtain ⟨c,r,_,_,h4⟩:=name_head h
 exact h4
theorem right_small {l:List Nod} (h:rightE l=true):l.length≤100000∧(∀ y∈l,y.name.length≤1000000)∧(showE l).length≤800:=by
 obtain ⟨e,h1,h2,h3,h4,h5,h6,h7⟩:=showE_tree h
 have hs:=show_len e h1 h2
 refine ⟨by omega,fun y hy=>?_,by rw [h6];subst h3;omega⟩
 subst h3
 have hm:=h2 y hy
 unfold mayE at hm
 split at hm
 ·cases hm
 ·split at hm
  ·simp only [Bool.and_eq_true,beq_iff_eq] at hm
   rw [hm.2];exact Nat.zero_le _
  ·split at hm
   ·simp only [Bool.and_eq_true] at hm
    have:=name_le16 hm.2;omega
   ·simp only [Bool.and_eq_true,beq_iff_eq] at hm
    rw [hm.2];exact Nat.zero_le _
theorem part_le {x:St} (hx:Fits x):∀ c∈lettS x.kind.toNat,(partS x c).length≤800:=fun c hc=>by
 unfold lettS at hc
 have hin:c∈hasS x.kind.toNat:=(List.mem_filter.1 hc).1
 have hC:hasC x c=true:=by unfold hasC;simpa using hin
 unfold partS
 split
 ·rename_i h;subst h
  have:=hx.r;rw [if_pos hC] at this
  have:=name_le16 this;omega
 ·split
  ·rename_i h;subst h
   have:=hx.nm;rw [if_pos hC] at this
   have:=name_le16 this;omega
  ·split
   ·rename_i h;subst h
    have:=hx.e;rw [if_pos hC] at this
    exact (right_small this).2.2
   ·split
    ·rename_i h;subst h
     have:=hx.f;rw [if_pos hC] at this
     exact (right_small this).2.2
    ·have:=str_itoa_le x.n (by have:=hx.t;split at this <;> omega) (by have:=hx.t;split at this <;> omega)
     rw [str_size] at this
     omega
theorem lineS_len {x:St} (hx:Fits x):(lineS x).length≤4000:=by
 have h1:=pieS_len (wordS x.kind.toNat) x (lettS x.kind.toNat) 0 (part_le hx)
 have h2:=lett_le x.kind.toNat
 have h3:=word_le x.kind.toNat
 unfold lineS
 rw [List.length_append]
 omega
theorem rhead_k1 (x:St) (hk:x.kind=1) (hx:Fits x) (ev fv:Value) (w:World) (he:Nods w ev x.e) (hf:Nods w fv x.f) :
 Calls Tryz.prog 67 #[stV x ev fv] w fun e w'=>e = .returned (.string (str (lineS x)))∧Below w.heap.size w w':=by
 obtain ⟨kind,reg,name,xe,xf,n,body,els,pos⟩:=x
 dsimp only at hk he hf
 subst hk
 have HT:Hid (str (reg)++str [32,61,32]++str (showE xe)=str (lineS ⟨1,reg,name,xe,xf,n,body,els,pos⟩)):=by
  show _=_
  (try simp only [← str_app])
  congr 1
  unfold lineS
  simp [pieS,sepS,partS,wordS,wordL,lettS,hasS,hasL]
 have zSR:(str reg).size≤16:=by rw [str_size];exact name_le16 hx.r
 have gE:=right_small hx.e
 have zSE:(str (showE xe)).size≤800:=by rw [str_size];exact gE.2.2
 have HCE:Hid (∀ u,Below w.heap.size w u→Calls Tryz.prog 96 #[ev] u fun e w'=>e = .returned (.string (str (showE xe)))∧Below u.heap.size u w'):=fun u hu=>rShow_c xe gE.1 gE.2.1 ev u (SlN.below he hu)
 obtain ⟨A1,c1,rfl,_⟩:=Nods.shape he
 obtain ⟨A2,c2,rfl,_⟩:=Nods.shape hf
 clear hx he hf gE
 have HSB:Hid (SB (w.alloc (.cells #[.int .i64 1,.string (str reg),.string (str name),.slice A1 xe.length c1,.slice A2 xf.length c2,.int .i64 n,.int .i64 body,.int .i64 els,.int .i64 pos] 31)) w.heap.size ⟨1,reg,name,xe,xf,n,body,els,pos⟩ (.slice A1 xe.length c1) (.slice A2 xf.length c2)):=sb_new w ⟨1,reg,name,xe,xf,n,body,els,pos⟩ _ _
 unfold stV
 dsimp only
 go_enter Tryz.func67,Tryz.ntmps67
 go_upto_region 3 with fail
 have HB:Hid (Below w.heap.size w (w.alloc (.cells #[.int .i64 1,.string (str reg),.string (str name),.slice A1 xe.length c1,.slice A2 xf.length c2,.int .i64 n,.int .i64 body,.int .i64 els,.int .i64 pos] 31))):=al w _
 obtain ⟨pb,HPB⟩:∃ pb,Hid (w.heap.size=pb):=⟨_,rfl⟩
 rw [HPB.out] at HSB ⊢
 generalize World.alloc w _=Y at HSB HB ⊢
 have HX:Hid (∀ u,Below Y.heap.size Y u→u.cell? ⟨pb,1,none⟩=some (.string (str reg))∧u.cell? ⟨pb,3,none⟩=some (.slice A1 xe.length c1)):=fun u hu=>by
  have h:=HSB.out.below hu
  exact ⟨h.c1,h.c3⟩
 clear HSB
 generalize str (reg)=SR at zSR HT HX ⊢
 generalize str (showE xe)=SE at zSE HT HCE
 have f1:¬ (9223372036854775807 < SR.size+3):=by omega
 have f1':¬ (9223372036854775804 < SR.size):=by omega
 have f2:¬ (9223372036854775807 < SR.size+3+SE.size):=by omega
 go_region_held3 (fun u=>u.cell? ⟨pb,1,none⟩=some (.string SR)∧u.cell? ⟨pb,3,none⟩=some (.slice A1 xe.length c1))
  (exact HX.out _ (bld))
  (first | (go_at_call_of 96 (Value.slice A1 xe.length c1);(with_reducible refine (HCE.out _ (bt HB.out (bld))).mono ?_);rintro e w3 ⟨rfl,hb3⟩;have h3:Below Y.heap.size Y w3:=bt (bld) hb3;clear hb3))
 all_goals
  go_wp2_with fail
  go_ret
  exact ⟨ret_str HT.out,bt HB.out (by repeat (first | assumption | refine bdrN ?_ _ | refine bdr ?_))⟩
theorem rhead_k2 (x:St) (hk:x.kind=2) (hx:Fits x) (ev fv:Value) (w:World) (he:Nods w ev x.e) (hf:Nods w fv x.f) :
 Calls Tryz.prog 67 #[stV x ev fv] w fun e w'=>e = .returned (.string (str (lineS x)))∧Below w.heap.size w w':=by
 obtain ⟨kind,reg,name,xe,xf,n,body,els,pos⟩:=x
 dsimp only at hk he hf
 subst hk
 have HT:Hid (str [108,111,97,100,32]++str (reg)++str [32,61,32]++str (name)=str (lineS ⟨2,reg,name,xe,xf,n,body,els,pos⟩)):=by
  show _=_
  (try simp only [← str_app])
  congr 1
  unfold lineS
  simp [pieS,sepS,partS,wordS,wordL,lettS,hasS,hasL]
 have zSR:(str reg).size≤16:=by rw [str_size];exact name_le16 hx.r
 have zSN:(str name).size≤16:=by rw [str_size];exact name_le16 hx.nm
 obtain ⟨A1,c1,rfl,_⟩:=Nods.shape he
 obtain ⟨A2,c2,rfl,_⟩:=Nods.shape hf
 clear hx he hf
 have HSB:Hid (SB (w.alloc (.cells #[.int .i64 2,.string (str reg),.string (str name),.slice A1 xe.length c1,.slice A2 xf.length c2,.int .i64 n,.int .i64 body,.int .i64 els,.int .i64 pos] 31)) w.heap.size ⟨2,reg,name,xe,xf,n,body,els,pos⟩ (.slice A1 xe.length c1) (.slice A2 xf.length c2)):=sb_new w ⟨2,reg,name,xe,xf,n,body,els,pos⟩ _ _
 unfold stV
 dsimp only
 go_enter Tryz.func67,Tryz.ntmps67
 have HB:Hid (Below w.heap.size w (w.alloc (.cells #[.int .i64 2,.string (str reg),.string (str name),.slice A1 xe.length c1,.slice A2 xf.length c2,.int .i64 n,.int .i64 body,.int .i64 els,.int .i64 pos] 31))):=al w _
 go_upto_region 1 with fail
 obtain ⟨pb,HPB⟩:∃ pb,Hid (w.heap.size=pb):=⟨_,rfl⟩
 rw [HPB.out] at HSB ⊢
 generalize World.alloc w _=Y at HSB HB ⊢
 obtain ⟨sl,s0,s1,s2,s3,s4,s5,s6,s7,s8,sfr⟩:=HSB.out
 dsimp only at s0 s1 s2 s3 s4 s5
 clear HSB
 generalize str (reg)=SR at zSR HT s1
 generalize str (name)=SN at zSN HT s2
 have f1:¬ (9223372036854775807 < 5+SR.size):=by omega
 have f2:¬ (9223372036854775807 < 5+SR.size+3):=by omega
 have f2':¬ (9223372036854775804 < 5+SR.size):=by omega
 have f3:¬ (9223372036854775807 < 5+SR.size+3+SN.size):=by omega
 go_wp2_with fail
 go_ret
 exact ⟨ret_str HT.out,bt HB.out (Below.refl _ _)⟩
theorem rhead_k3 (x:St) (hk:x.kind=3) (hx:Fits x) (ev fv:Value) (w:World) (he:Nods w ev x.e) (hf:Nods w fv x.f) :
 Calls Tryz.prog 67 #[stV x ev fv] w fun e w'=>e = .returned (.string (str (lineS x)))∧Below w.heap.size w w':=by
 obtain ⟨kind,reg,name,xe,xf,n,body,els,pos⟩:=x
 dsimp only at hk he hf
 subst hk
 have HT:Hid (str [115,116,111,114,101,32]++str (name)++str [32,61,32]++str (showE xe)=str (lineS ⟨3,reg,name,xe,xf,n,body,els,pos⟩)):=by
  show _=_
  (try simp only [← str_app])
  congr 1
  unfold lineS
  simp [pieS,sepS,partS,wordS,wordL,lettS,hasS,hasL]
 have zSN:(str name).size≤16:=by rw [str_size];exact name_le16 hx.nm
 have gE:=right_small hx.e
 have zSE:(str (showE xe)).size≤800:=by rw [str_size];exact gE.2.2
 have HCE:Hid (∀ u,Below w.heap.size w u→Calls Tryz.prog 96 #[ev] u fun e w'=>e = .returned (.string (str (showE xe)))∧Below u.heap.size u w'):=fun u hu=>rShow_c xe gE.1 gE.2.1 ev u (SlN.below he hu)
 obtain ⟨A1,c1,rfl,_⟩:=Nods.shape he
 obtain ⟨A2,c2,rfl,_⟩:=Nods.shape hf
 clear hx he hf gE
 have HSB:Hid (SB (w.alloc (.cells #[.int .i64 3,.string (str reg),.string (str name),.slice A1 xe.length c1,.slice A2 xf.length c2,.int .i64 n,.int .i64 body,.int .i64 els,.int .i64 pos] 31)) w.heap.size ⟨3,reg,name,xe,xf,n,body,els,pos⟩ (.slice A1 xe.length c1) (.slice A2 xf.length c2)):=sb_new w ⟨3,reg,name,xe,xf,n,body,els,pos⟩ _ _
 unfold stV
 dsimp only
 go_enter Tryz.func67,Tryz.ntmps67
 go_upto_region 7 with fail
 have HB:Hid (Below w.heap.size w (w.alloc (.cells #[.int .i64 3,.string (str reg),.string (str name),.slice A1 xe.length c1,.slice A2 xf.length c2,.int .i64 n,.int .i64 body,.int .i64 els,.int .i64 pos] 31))):=al w _
 obtain ⟨pb,HPB⟩:∃ pb,Hid (w.heap.size=pb):=⟨_,rfl⟩
 rw [HPB.out] at HSB ⊢
 generalize World.alloc w _=Y at HSB HB ⊢
 have HX:Hid (∀ u,Below Y.heap.size Y u→u.cell? ⟨pb,2,none⟩=some (.string (str name))∧u.cell? ⟨pb,3,none⟩=some (.slice A1 xe.length c1)):=fun u hu=>by
  have h:=HSB.out.below hu
  exact ⟨h.c2,h.c3⟩
 clear HSB
 generalize str (name)=SN at zSN HT HX ⊢
 generalize str (showE xe)=SE at zSE HT HCE
 have f1:¬ (9223372036854775807 < 6+SN.size):=by omega
 have f2:¬ (9223372036854775807 < 6+SN.size+3):=by omega
 have f2':¬ (9223372036854775804 < 6+SN.size):=by omega
 have f3:¬ (9223372036854775807 < 6+SN.size+3+SE.size):=by omega
 go_region_held3 (fun u=>u.cell? ⟨pb,2,none⟩=some (.string SN)∧u.cell? ⟨pb,3,none⟩=some (.slice A1 xe.length c1))
  (exact HX.out _ (bld))
  (first | (go_at_call_of 96 (Value.slice A1 xe.length c1);(with_reducible refine (HCE.out _ (bt HB.out (bld))).mono ?_);rintro e w3 ⟨rfl,hb3⟩;have h3:Below Y.heap.size Y w3:=bt (bld) hb3;clear hb3))
 all_goals
  go_wp2_with fail
  go_ret
  exact ⟨ret_str HT.out,bt HB.out (by repeat (first | assumption | refine bdrN ?_ _ | refine bdr ?_))⟩
theorem rhead_k4 (x:St) (hk:x.kind=4) (hx:Fits x) (ev fv:Value) (w:World) (he:Nods w ev x.e) (hf:Nods w fv x.f) :
 Calls Tryz.prog 67 #[stV x ev fv] w fun e w'=>e = .returned (.string (str (lineS x)))∧Below w.heap.size w w':=by
 obtain ⟨kind,reg,name,xe,xf,n,body,els,pos⟩:=x
 dsimp only at hk he hf
 subst hk
 have HT:Hid (str [99,97,115,32]++str (reg)++str [32,61,32]++str (name)++str [44,32]++str (showE xe)++str [44,32]++str (showE xf)=str (lineS ⟨4,reg,name,xe,xf,n,body,els,pos⟩)):=by
  show _=_
  (try simp only [← str_app])
  congr 1
  unfold lineS
  simp [pieS,sepS,partS,wordS,wordL,lettS,hasS,hasL]
 have zSR:(str reg).size≤16:=by rw [str_size];exact name_le16 hx.r
 have zSN:(str name).size≤16:=by rw [str_size];exact name_le16 hx.nm
 have gE:=right_small hx.e
 have zSE:(str (showE xe)).size≤800:=by rw [str_size];exact gE.2.2
 have HCE:Hid (∀ u,Below w.heap.size w u→Calls Tryz.prog 96 #[ev] u fun e w'=>e = .returned (.string (str (showE xe)))∧Below u.heap.size u w'):=fun u hu=>rShow_c xe gE.1 gE.2.1 ev u (SlN.below he hu)
 have gF:=right_small hx.f
 have zSF:(str (showE xf)).size≤800:=by rw [str_size];exact gF.2.2
 have HCF:Hid (∀ u,Below w.heap.size w u→Calls Tryz.prog 96 #[fv] u fun e w'=>e = .returned (.string (str (showE xf)))∧Below u.heap.size u w'):=fun u hu=>rShow_c xf gF.1 gF.2.1 fv u (SlN.below hf hu)
 obtain ⟨A1,c1,rfl,_⟩:=Nods.shape he
 obtain ⟨A2,c2,rfl,_⟩:=Nods.shape hf
 clear hx he hf gE gF
 have HSB:Hid (SB (w.alloc (.cells #[.int .i64 4,.string (str reg),.string (str name),.slice A1 xe.length c1,.slice A2 xf.length c2,.int .i64 n,.int .i64 body,.int .i64 els,.int .i64 pos] 31)) w.heap.size ⟨4,reg,name,xe,xf,n,body,els,pos⟩ (.slice A1 xe.length c1) (.slice A2 xf.length c2)):=sb_new w ⟨4,reg,name,xe,xf,n,body,els,pos⟩ _ _
 unfold stV
 dsimp only
 go_enter Tryz.func67,Tryz.ntmps67
 go_upto_region 9 with fail
 have HB:Hid (Below w.heap.size w (w.alloc (.cells #[.int .i64 4,.string (str reg),.string (str name),.slice A1 xe.length c1,.slice A2 xf.length c2,.int .i64 n,.int .i64 body,.int .i64 els,.int .i64 pos] 31))):=al w _
 obtain ⟨pb,HPB⟩:∃ pb,Hid (w.heap.size=pb):=⟨_,rfl⟩
 rw [HPB.out] at HSB ⊢
 generalize World.alloc w _=Y at HSB HB ⊢
 have HX:Hid (∀ u,Below Y.heap.size Y u→u.cell? ⟨pb,1,none⟩=some (.string (str reg))∧u.cell? ⟨pb,2,none⟩=some (.string (str name))∧u.cell? ⟨pb,3,none⟩=some (.slice A1 xe.length c1)∧u.cell? ⟨pb,4,none⟩=some (.slice A2 xf.length c2)):=fun u hu=>by
  have h:=HSB.out.below hu
  exact ⟨h.c1,h.c2,h.c3,h.c4⟩
 clear HSB
 generalize str (reg)=SR at zSR HT HX ⊢
 generalize str (name)=SN at zSN HT HX ⊢
 generalize str (showE xe)=SE at zSE HT HCE
 generalize str (showE xf)=SF at zSF HT HCF
 have f1:¬ (9223372036854775807 < 4+SR.size):=by omega
 have f2:¬ (9223372036854775807 < 4+SR.size+3):=by omega
 have f2':¬ (9223372036854775804 < 4+SR.size):=by omega
 have f3:¬ (9223372036854775807 < 4+SR.size+3+SN.size):=by omega
 have f4:¬ (9223372036854775807 < 4+SR.size+3+SN.size+2):=by omega
 have f4':¬ (9223372036854775805 < 4+SR.size+3+SN.size):=by omega
 have f5:¬ (9223372036854775807 < 4+SR.size+3+SN.size+2+SE.size):=by omega
 have f6:¬ (9223372036854775807 < 4+SR.size+3+SN.size+2+SE.size+2):=by omega
 have f6':¬ (9223372036854775805 < 4+SR.size+3+SN.size+2+SE.size):=by omega
 have f7:¬ (9223372036854775807 < 4+SR.size+3+SN.size+2+SE.size+2+SF.size):=by omega
 go_region_held3 (fun u=>u.cell? ⟨pb,1,none⟩=some (.string SR)∧u.cell? ⟨pb,2,none⟩=some (.string SN)∧u.cell? ⟨pb,3,none⟩=some (.slice A1 xe.length c1)∧u.cell? ⟨pb,4,none⟩=some (.slice A2 xf.length c2))
  (exact HX.out _ (bld))
  (first | (go_at_call_of 96 (Value.slice A1 xe.length c1);(with_reducible refine (HCE.out _ (bt HB.out (bld))).mono ?_);rintro e w3 ⟨rfl,hb3⟩;have h3:Below Y.heap.size Y w3:=bt (bld) hb3;clear hb3) | (go_at_call_of 96 (Value.slice A2 xf.length c2);(with_reducible refine (HCF.out _ (bt HB.out (bld))).mono ?_);rintro e w4 ⟨rfl,hb4⟩;have h4:Below Y.heap.size Y w4:=bt (bld) hb4;clear hb4))
 all_goals
  go_wp2_with fail
  go_ret
  exact ⟨ret_str HT.out,bt HB.out (by repeat (first | assumption | refine bdrN ?_ _ | refine bdr ?_))⟩
theorem rhead_k5 (x:St) (hk:x.kind=5) (hx:Fits x) (ev fv:Value) (w:World) (he:Nods w ev x.e) (hf:Nods w fv x.f) :
 Calls Tryz.prog 67 #[stV x ev fv] w fun e w'=>e = .returned (.string (str (lineS x)))∧Below w.heap.size w w':=by
 obtain ⟨kind,reg,name,xe,xf,n,body,els,pos⟩:=x
 dsimp only at hk he hf
 subst hk
 have HT:Hid (str (wordS 5)++str [32]++str (name)=str (lineS ⟨5,reg,name,xe,xf,n,body,els,pos⟩)):=by
  show _=_
  (try simp only [← str_app])
  congr 1
  unfold lineS
  simp [pieS,sepS,partS,wordS,wordL,lettS,hasS,hasL]
 have zSN:(str name).size≤16:=by rw [str_size];exact name_le16 hx.nm
 have zSW:(str (wordS 5)).size≤6:=by rw [str_size];exact word_le 5
 have HCW:Hid (∀ u,Calls Tryz.prog 72 #[.int .i64 5] u fun e w'=>e = .returned (.string (str (wordS 5)))∧Below u.heap.size u w'):=fun u=>qword_c 5 (by omega) u
 obtain ⟨A1,c1,rfl,_⟩:=Nods.shape he
 obtain ⟨A2,c2,rfl,_⟩:=Nods.shape hf
 clear hx he hf
 have HSB:Hid (SB (w.alloc (.cells #[.int .i64 5,.string (str reg),.string (str name),.slice A1 xe.length c1,.slice A2 xf.length c2,.int .i64 n,.int .i64 body,.int .i64 els,.int .i64 pos] 31)) w.heap.size ⟨5,reg,name,xe,xf,n,body,els,pos⟩ (.slice A1 xe.length c1) (.slice A2 xf.length c2)):=sb_new w ⟨5,reg,name,xe,xf,n,body,els,pos⟩ _ _
 unfold stV
 dsimp only
 go_enter Tryz.func67,Tryz.ntmps67
 go_upto_region 19 with fail
 have HB:Hid (Below w.heap.size w (w.alloc (.cells #[.int .i64 5,.string (str reg),.string (str name),.slice A1 xe.length c1,.slice A2 xf.length c2,.int .i64 n,.int .i64 body,.int .i64 els,.int .i64 pos] 31))):=al w _
 obtain ⟨pb,HPB⟩:∃ pb,Hid (w.heap.size=pb):=⟨_,rfl⟩
 rw [HPB.out] at HSB ⊢
 generalize World.alloc w _=Y at HSB HB ⊢
 have HX:Hid (∀ u,Below Y.heap.size Y u→u.cell? ⟨pb,0,none⟩=some (.int .i64 5)∧u.cell? ⟨pb,2,none⟩=some (.string (str name))):=fun u hu=>by
  have h:=HSB.out.below hu
  exact ⟨h.c0,h.c2⟩
 clear HSB
 generalize str (wordS 5)=SW at zSW HT HCW
 generalize str (name)=SN at zSN HT HX ⊢
 have f1:¬ (9223372036854775807 < SW.size+1):=by omega
 have f1':¬ (9223372036854775806 < SW.size):=by omega
 have e1:¬ (9223372036854775807≤SW.size):=by omega
 have e1':SW.size < 9223372036854775807:=by omega
 have f2:¬ (9223372036854775807 < SW.size+1+SN.size):=by omega
 go_region_held3 (fun u=>u.cell? ⟨pb,0,none⟩=some (.int .i64 5)∧u.cell? ⟨pb,2,none⟩=some (.string SN))
  (exact HX.out _ (bld))
  (first | (go_at_call_of 72 (Value.int .i64 5);(with_reducible refine (HCW.out _).mono ?_);rintro e w5 ⟨rfl,hb5⟩;have h5:Below Y.heap.size Y w5:=bt (bld) hb5;clear hb5))
 all_goals
  go_wp2_with fail
  go_ret
  exact ⟨ret_str HT.out,bt HB.out (by repeat (first | assumption | refine bdrN ?_ _ | refine bdr ?_))⟩
theorem rhead_k6 (x:St) (hk:x.kind=6) (hx:Fits x) (ev fv:Value) (w:World) (he:Nods w ev x.e) (hf:Nods w fv x.f) :
 Calls Tryz.prog 67 #[stV x ev fv] w fun e w'=>e = .returned (.string (str (lineS x)))∧Below w.heap.size w w':=by
 obtain ⟨kind,reg,name,xe,xf,n,body,els,pos⟩:=x
 dsimp only at hk he hf
 subst hk
 have HT:Hid (str (wordS 6)++str [32]++str (name)=str (lineS ⟨6,reg,name,xe,xf,n,body,els,pos⟩)):=by
  show _=_
  (try simp only [← str_app])
  congr 1
  unfold lineS
  simp [pieS,sepS,partS,wordS,wordL,lettS,hasS,hasL]
 have zSN:(str name).size≤16:=by rw [str_size];exact name_le16 hx.nm
 have zSW:(str (wordS 6)).size≤6:=by rw [str_size];exact word_le 6
 have HCW:Hid (∀ u,Calls Tryz.prog 72 #[.int .i64 6] u fun e w'=>e = .returned (.string (str (wordS 6)))∧Below u.heap.size u w'):=fun u=>qword_c 6 (by omega) u
 obtain ⟨A1,c1,rfl,_⟩:=Nods.shape he
 obtain ⟨A2,c2,rfl,_⟩:=Nods.shape hf
 clear hx he hf
 have HSB:Hid (SB (w.alloc (.cells #[.int .i64 6,.string (str reg),.string (str name),.slice A1 xe.length c1,.slice A2 xf.length c2,.int .i64 n,.int .i64 body,.int .i64 els,.int .i64 pos] 31)) w.heap.size ⟨6,reg,name,xe,xf,n,body,els,pos⟩ (.slice A1 xe.length c1) (.slice A2 xf.length c2)):=sb_new w ⟨6,reg,name,xe,xf,n,body,els,pos⟩ _ _
 unfold stV
 dsimp only
 go_enter Tryz.func67,Tryz.ntmps67
 go_upto_region 19 with fail
 have HB:Hid (Below w.heap.size w (w.alloc (.cells #[.int .i64 6,.string (str reg),.string (str name),.slice A1 xe.length c1,.slice A2 xf.length c2,.int .i64 n,.int .i64 body,.int .i64 els,.int .i64 pos] 31))):=al w _
 obtain ⟨pb,HPB⟩:∃ pb,Hid (w.heap.size=pb):=⟨_,rfl⟩
 rw [HPB.out] at HSB ⊢
 generalize World.alloc w _=Y at HSB HB ⊢
 have HX:Hid (∀ u,Below Y.heap.size Y u→u.cell? ⟨pb,0,none⟩=some (.int .i64 6)∧u.cell? ⟨pb,2,none⟩=some (.string (str name))):=fun u hu=>by
  have h:=HSB.out.below hu
  exact ⟨h.c0,h.c2⟩
 clear HSB
 generalize str (wordS 6)=SW at zSW HT HCW
 generalize str (name)=SN at zSN HT HX ⊢
 have f1:¬ (9223372036854775807 < SW.size+1):=by omega
 have f1':¬ (9223372036854775806 < SW.size):=by omega
 have e1:¬ (9223372036854775807≤SW.size):=by omega
 have e1':SW.size < 9223372036854775807:=by omega
 have f2:¬ (9223372036854775807 < SW.size+1+SN.size):=by omega
 go_region_held3 (fun u=>u.cell? ⟨pb,0,none⟩=some (.int .i64 6)∧u.cell? ⟨pb,2,none⟩=some (.string SN))
  (exact HX.out _ (bld))
  (first | (go_at_call_of 72 (Value.int .i64 6);(with_reducible refine (HCW.out _).mono ?_);rintro e w5 ⟨rfl,hb5⟩;have h5:Below Y.heap.size Y w5:=bt (bld) hb5;clear hb5))
 all_goals
  go_wp2_with fail
  go_ret
  exact ⟨ret_str HT.out,bt HB.out (by repeat (first | assumption | refine bdrN ?_ _ | refine bdr ?_))⟩
theorem rhead_k7 (x:St) (hk:x.kind=7) (hx:Fits x) (ev fv:Value) (w:World) (he:Nods w ev x.e) (hf:Nods w fv x.f) :
 Calls Tryz.prog 67 #[stV x ev fv] w fun e w'=>e = .returned (.string (str (lineS x)))∧Below w.heap.size w w':=by
 obtain ⟨kind,reg,name,xe,xf,n,body,els,pos⟩:=x
 dsimp only at hk he hf
 subst hk
 have HT:Hid (str (wordS 7)=str (lineS ⟨7,reg,name,xe,xf,n,body,els,pos⟩)):=by
  show _=_
  rfl
 have zSW:(str (wordS 7)).size≤6:=by rw [str_size];exact word_le 7
 have HCW:Hid (∀ u,Calls Tryz.prog 72 #[.int .i64 7] u fun e w'=>e = .returned (.string (str (wordS 7)))∧Below u.heap.size u w'):=fun u=>qword_c 7 (by omega) u
 obtain ⟨A1,c1,rfl,_⟩:=Nods.shape he
 obtain ⟨A2,c2,rfl,_⟩:=Nods.shape hf
 clear hx he hf
 have HSB:Hid (SB (w.alloc (.cells #[.int .i64 7,.string (str reg),.string (str name),.slice A1 xe.length c1,.slice A2 xf.length c2,.int .i64 n,.int .i64 body,.int .i64 els,.int .i64 pos] 31)) w.heap.size ⟨7,reg,name,xe,xf,n,body,els,pos⟩ (.slice A1 xe.length c1) (.slice A2 xf.length c2)):=sb_new w ⟨7,reg,name,xe,xf,n,body,els,pos⟩ _ _
 unfold stV
 dsimp only
 go_enter Tryz.func67,Tryz.ntmps67
 have HB:Hid (Below w.heap.size w (w.alloc (.cells #[.int .i64 7,.string (str reg),.string (str name),.slice A1 xe.length c1,.slice A2 xf.length c2,.int .i64 n,.int .i64 body,.int .i64 els,.int .i64 pos] 31))):=al w _
 go_upto_region 1 with fail
 obtain ⟨pb,HPB⟩:∃ pb,Hid (w.heap.size=pb):=⟨_,rfl⟩
 rw [HPB.out] at HSB ⊢
 generalize World.alloc w _=Y at HSB HB ⊢
 obtain ⟨sl,s0,s1,s2,s3,s4,s5,s6,s7,s8,sfr⟩:=HSB.out
 dsimp only at s0 s1 s2 s3 s4 s5
 clear HSB
 generalize str (wordS 7)=SW at zSW HT HCW
 go_wp2_with (first | (go_at_call_of 72 (Value.int .i64 7);(with_reducible refine (HCW.out _).mono ?_);rintro e w5 ⟨rfl,hb5⟩;have h5:Below Y.heap.size Y w5:=bt (bld) hb5;clear hb5))
 go_ret
 exact ⟨ret_str HT.out,bt HB.out (h5)⟩
theorem rhead_k8 (x:St) (hk:x.kind=8) (hx:Fits x) (ev fv:Value) (w:World) (he:Nods w ev x.e) (hf:Nods w fv x.f) :
 Calls Tryz.prog 67 #[stV x ev fv] w fun e w'=>e = .returned (.string (str (lineS x)))∧Below w.heap.size w w':=by
 obtain ⟨kind,reg,name,xe,xf,n,body,els,pos⟩:=x
 dsimp only at hk he hf
 subst hk
 have HT:Hid (str (wordS 8)=str (lineS ⟨8,reg,name,xe,xf,n,body,els,pos⟩)):=by
  show _=_
  rfl
 have zSW:(str (wordS 8)).size≤6:=by rw [str_size];exact word_le 8
 have HCW:Hid (∀ u,Calls Tryz.prog 72 #[.int .i64 8] u fun e w'=>e = .returned (.string (str (wordS 8)))∧Below u.heap.size u w'):=fun u=>qword_c 8 (by omega) u
 obtain ⟨A1,c1,rfl,_⟩:=Nods.shape he
 obtain ⟨A2,c2,rfl,_⟩:=Nods.shape hf
 clear hx he hf
 have HSB:Hid (SB (w.alloc (.cells #[.int .i64 8,.string (str reg),.string (str name),.slice A1 xe.length c1,.slice A2 xf.length c2,.int .i64 n,.int .i64 body,.int .i64 els,.int .i64 pos] 31)) w.heap.size ⟨8,reg,name,xe,xf,n,body,els,pos⟩ (.slice A1 xe.length c1) (.slice A2 xf.length c2)):=sb_new w ⟨8,reg,name,xe,xf,n,body,els,pos⟩ _ _
 unfold stV
 dsimp only
 go_enter Tryz.func67,Tryz.ntmps67
 have HB:Hid (Below w.heap.size w (w.alloc (.cells #[.int .i64 8,.string (str reg),.string (str name),.slice A1 xe.length c1,.slice A2 xf.length c2,.int .i64 n,.int .i64 body,.int .i64 els,.int .i64 pos] 31))):=al w _
 go_upto_region 1 with fail
 obtain ⟨pb,HPB⟩:∃ pb,Hid (w.heap.size=pb):=⟨_,rfl⟩
 rw [HPB.out] at HSB ⊢
 generalize World.alloc w _=Y at HSB HB ⊢
 obtain ⟨sl,s0,s1,s2,s3,s4,s5,s6,s7,s8,sfr⟩:=HSB.out
 dsimp only at s0 s1 s2 s3 s4 s5
 clear HSB
 generalize str (wordS 8)=SW at zSW HT HCW
 go_wp2_with (first | (go_at_call_of 72 (Value.int .i64 8);(with_reducible refine (HCW.out _).mono ?_);rintro e w5 ⟨rfl,hb5⟩;have h5:Below Y.heap.size Y w5:=bt (bld) hb5;clear hb5))
 go_ret
 exact ⟨ret_str HT.out,bt HB.out (h5)⟩
theorem rhead_k9 (x:St) (hk:x.kind=9) (hx:Fits x) (ev fv:Value) (w:World) (he:Nods w ev x.e) (hf:Nods w fv x.f) :
 Calls Tryz.prog 67 #[stV x ev fv] w fun e w'=>e = .returned (.string (str (lineS x)))∧Below w.heap.size w w':=by
 obtain ⟨kind,reg,name,xe,xf,n,body,els,pos⟩:=x
 dsimp only at hk he hf
 subst hk
 have HT:Hid (str (wordS 9)++str [32]++str (name)=str (lineS ⟨9,reg,name,xe,xf,n,body,els,pos⟩)):=by
  show _=_
  (try simp only [← str_app])
  congr 1
  unfold lineS
  simp [pieS,sepS,partS,wordS,wordL,lettS,hasS,hasL]
 have zSN:(str name).size≤16:=by rw [str_size];exact name_le16 hx.nm
 have zSW:(str (wordS 9)).size≤6:=by rw [str_size];exact word_le 9
 have HCW:Hid (∀ u,Calls Tryz.prog 72 #[.int .i64 9] u fun e w'=>e = .returned (.string (str (wordS 9)))∧Below u.heap.size u w'):=fun u=>qword_c 9 (by omega) u
 obtain ⟨A1,c1,rfl,_⟩:=Nods.shape he
 obtain ⟨A2,c2,rfl,_⟩:=Nods.shape hf
 clear hx he hf
 have HSB:Hid (SB (w.alloc (.cells #[.int .i64 9,.string (str reg),.string (str name),.slice A1 xe.length c1,.slice A2 xf.length c2,.int .i64 n,.int .i64 body,.int .i64 els,.int .i64 pos] 31)) w.heap.size ⟨9,reg,name,xe,xf,n,body,els,pos⟩ (.slice A1 xe.length c1) (.slice A2 xf.length c2)):=sb_new w ⟨9,reg,name,xe,xf,n,body,els,pos⟩ _ _
 unfold stV
 dsimp only
 go_enter Tryz.func67,Tryz.ntmps67
 go_upto_region 19 with fail
 have HB:Hid (Below w.heap.size w (w.alloc (.cells #[.int .i64 9,.string (str reg),.string (str name),.slice A1 xe.length c1,.slice A2 xf.length c2,.int .i64 n,.int .i64 body,.int .i64 els,.int .i64 pos] 31))):=al w _
 obtain ⟨pb,HPB⟩:∃ pb,Hid (w.heap.size=pb):=⟨_,rfl⟩
 rw [HPB.out] at HSB ⊢
 generalize World.alloc w _=Y at HSB HB ⊢
 have HX:Hid (∀ u,Below Y.heap.size Y u→u.cell? ⟨pb,0,none⟩=some (.int .i64 9)∧u.cell? ⟨pb,2,none⟩=some (.string (str name))):=fun u hu=>by
  have h:=HSB.out.below hu
  exact ⟨h.c0,h.c2⟩
 clear HSB
 generalize str (wordS 9)=SW at zSW HT HCW
 generalize str (name)=SN at zSN HT HX ⊢
 have f1:¬ (9223372036854775807 < SW.size+1):=by omega
 have f1':¬ (9223372036854775806 < SW.size):=by omega
 have e1:¬ (9223372036854775807≤SW.size):=by omega
 have e1':SW.size < 9223372036854775807:=by omega
 have f2:¬ (9223372036854775807 < SW.size+1+SN.size):=by omega
 go_region_held3 (fun u=>u.cell? ⟨pb,0,none⟩=some (.int .i64 9)∧u.cell? ⟨pb,2,none⟩=some (.string SN))
  (exact HX.out _ (bld))
  (first | (go_at_call_of 72 (Value.int .i64 9);(with_reducible refine (HCW.out _).mono ?_);rintro e w5 ⟨rfl,hb5⟩;have h5:Below Y.heap.size Y w5:=bt (bld) hb5;clear hb5))
 all_goals
  go_wp2_with fail
  go_ret
  exact ⟨ret_str HT.out,bt HB.out (by repeat (first | assumption | refine bdrN ?_ _ | refine bdr ?_))⟩
theorem rhead_k10 (x:St) (hk:x.kind=10) (hx:Fits x) (ev fv:Value) (w:World) (he:Nods w ev x.e) (hf:Nods w fv x.f) :
 Calls Tryz.prog 67 #[stV x ev fv] w fun e w'=>e = .returned (.string (str (lineS x)))∧Below w.heap.size w w':=by
 obtain ⟨kind,reg,name,xe,xf,n,body,els,pos⟩:=x
 dsimp only at hk he hf
 subst hk
 have HT:Hid (str (wordS 10)++str [32]++str (name)=str (lineS ⟨10,reg,name,xe,xf,n,body,els,pos⟩)):=by
  show _=_
  (try simp only [← str_app])
  congr 1
  unfold lineS
  simp [pieS,sepS,partS,wordS,wordL,lettS,hasS,hasL]
 have zSN:(str name).size≤16:=by rw [str_size];exact name_le16 hx.nm
 have zSW:(str (wordS 10)).size≤6:=by rw [str_size];exact word_le 10
 have HCW:Hid (∀ u,Calls Tryz.prog 72 #[.int .i64 10] u fun e w'=>e = .returned (.string (str (wordS 10)))∧Below u.heap.size u w'):=fun u=>qword_c 10 (by omega) u
 obtain ⟨A1,c1,rfl,_⟩:=Nods.shape he
 obtain ⟨A2,c2,rfl,_⟩:=Nods.shape hf
 clear hx he hf
 have HSB:Hid (SB (w.alloc (.cells #[.int .i64 10,.string (str reg),.string (str name),.slice A1 xe.length c1,.slice A2 xf.length c2,.int .i64 n,.int .i64 body,.int .i64 els,.int .i64 pos] 31)) w.heap.size ⟨10,reg,name,xe,xf,n,body,els,pos⟩ (.slice A1 xe.length c1) (.slice A2 xf.length c2)):=sb_new w ⟨10,reg,name,xe,xf,n,body,els,pos⟩ _ _
 unfold stV
 dsimp only
 go_enter Tryz.func67,Tryz.ntmps67
 go_upto_region 19 with fail
 have HB:Hid (Below w.heap.size w (w.alloc (.cells #[.int .i64 10,.string (str reg),.string (str name),.slice A1 xe.length c1,.slice A2 xf.length c2,.int .i64 n,.int .i64 body,.int .i64 els,.int .i64 pos] 31))):=al w _
 obtain ⟨pb,HPB⟩:∃ pb,Hid (w.heap.size=pb):=⟨_,rfl⟩
 rw [HPB.out] at HSB ⊢
 generalize World.alloc w _=Y at HSB HB ⊢
 have HX:Hid (∀ u,Below Y.heap.size Y u→u.cell? ⟨pb,0,none⟩=some (.int .i64 10)∧u.cell? ⟨pb,2,none⟩=some (.string (str name))):=fun u hu=>by
  have h:=HSB.out.below hu
  exact ⟨h.c0,h.c2⟩
 clear HSB
 generalize str (wordS 10)=SW at zSW HT HCW
 generalize str (name)=SN at zSN HT HX ⊢
 have f1:¬ (9223372036854775807 < SW.size+1):=by omega
 have f1':¬ (9223372036854775806 < SW.size):=by omega
 have e1:¬ (9223372036854775807≤SW.size):=by omega
 have e1':SW.size < 9223372036854775807:=by omega
 have f2:¬ (9223372036854775807 < SW.size+1+SN.size):=by omega
 go_region_held3 (fun u=>u.cell? ⟨pb,0,none⟩=some (.int .i64 10)∧u.cell? ⟨pb,2,none⟩=some (.string SN))
  (exact HX.out _ (bld))
  (first | (go_at_call_of 72 (Value.int .i64 10);(with_reducible refine (HCW.out _).mono ?_);rintro e w5 ⟨rfl,hb5⟩;have h5:Below Y.heap.size Y w5:=bt (bld) hb5;clear hb5))
 all_goals
  go_wp2_with fail
  go_ret
  exact ⟨ret_str HT.out,bt HB.out (by repeat (first | assumption | refine bdrN ?_ _ | refine bdr ?_))⟩
theorem rhead_k11 (x:St) (hk:x.kind=11) (hx:Fits x) (ev fv:Value) (w:World) (he:Nods w ev x.e) (hf:Nods w fv x.f) :
 Calls Tryz.prog 67 #[stV x ev fv] w fun e w'=>e = .returned (.string (str (lineS x)))∧Below w.heap.size w w':=by
 obtain ⟨kind,reg,name,xe,xf,n,body,els,pos⟩:=x
 dsimp only at hk he hf
 subst hk
 have HT:Hid (str (wordS 11)++str [32]++str (showE xe)=str (lineS ⟨11,reg,name,xe,xf,n,body,els,pos⟩)):=by
  show _=_
  (try simp only [← str_app])
  congr 1
  unfold lineS
  simp [pieS,sepS,partS,wordS,wordL,lettS,hasS,hasL]
 have gE:=right_small hx.e
 have zSE:(str (showE xe)).size≤800:=by rw [str_size];exact gE.2.2
 have HCE:Hid (∀ u,Below w.heap.size w u→Calls Tryz.prog 96 #[ev] u fun e w'=>e = .returned (.string (str (showE xe)))∧Below u.heap.size u w'):=fun u hu=>rShow_c xe gE.1 gE.2.1 ev u (SlN.below he hu)
 have zSW:(str (wordS 11)).size≤6:=by rw [str_size];exact word_le 11
 have HCW:Hid (∀ u,Calls Tryz.prog 72 #[.int .i64 11] u fun e w'=>e = .returned (.string (str (wordS 11)))∧Below u.heap.size u w'):=fun u=>qword_c 11 (by omega) u
 obtain ⟨A1,c1,rfl,_⟩:=Nods.shape he
 obtain ⟨A2,c2,rfl,_⟩:=Nods.shape hf
 clear hx he hf gE
 have HSB:Hid (SB (w.alloc (.cells #[.int .i64 11,.string (str reg),.string (str name),.slice A1 xe.length c1,.slice A2 xf.length c2,.int .i64 n,.int .i64 body,.int .i64 els,.int .i64 pos] 31)) w.heap.size ⟨11,reg,name,xe,xf,n,body,els,pos⟩ (.slice A1 xe.length c1) (.slice A2 xf.length c2)):=sb_new w ⟨11,reg,name,xe,xf,n,body,els,pos⟩ _ _
 unfold stV
 dsimp only
 go_enter Tryz.func67,Tryz.ntmps67
 go_upto_region 12 with fail
 have HB:Hid (Below w.heap.size w (w.alloc (.cells #[.int .i64 11,.string (str reg),.string (str name),.slice A1 xe.length c1,.slice A2 xf.length c2,.int .i64 n,.int .i64 body,.int .i64 els,.int .i64 pos] 31))):=al w _
 obtain ⟨pb,HPB⟩:∃ pb,Hid (w.heap.size=pb):=⟨_,rfl⟩
 rw [HPB.out] at HSB ⊢
 generalize World.alloc w _=Y at HSB HB ⊢
 have HX:Hid (∀ u,Below Y.heap.size Y u→u.cell? ⟨pb,0,none⟩=some (.int .i64 11)∧u.cell? ⟨pb,3,none⟩=some (.slice A1 xe.length c1)):=fun u hu=>by
  have h:=HSB.out.below hu
  exact ⟨h.c0,h.c3⟩
 clear HSB
 generalize str (wordS 11)=SW at zSW HT HCW
 generalize str (showE xe)=SE at zSE HT HCE
 have f1:¬ (9223372036854775807 < SW.size+1):=by omega
 have f1':¬ (9223372036854775806 < SW.size):=by omega
 have e1:¬ (9223372036854775807≤SW.size):=by omega
 have e1':SW.size < 9223372036854775807:=by omega
 have f2:¬ (9223372036854775807 < SW.size+1+SE.size):=by omega
 go_region_held3 (fun u=>u.cell? ⟨pb,0,none⟩=some (.int .i64 11)∧u.cell? ⟨pb,3,none⟩=some (.slice A1 xe.length c1))
  (exact HX.out _ (bld))
  (first | (go_at_call_of 96 (Value.slice A1 xe.length c1);(with_reducible refine (HCE.out _ (bt HB.out (bld))).mono ?_);rintro e w3 ⟨rfl,hb3⟩;have h3:Below Y.heap.size Y w3:=bt (bld) hb3;clear hb3) | (go_at_call_of 72 (Value.int .i64 11);(with_reducible refine (HCW.out _).mono ?_);rintro e w5 ⟨rfl,hb5⟩;have h5:Below Y.heap.size Y w5:=bt (bld) hb5;clear hb5))
 all_goals
  go_wp2_with fail
  go_ret
  exact ⟨ret_str HT.out,bt HB.out (by repeat (first | assumption | refine bdrN ?_ _ | refine bdr ?_))⟩
theorem rhead_k12 (x:St) (hk:x.kind=12) (hx:Fits x) (ev fv:Value) (w:World) (he:Nods w ev x.e) (hf:Nods w fv x.f) :
 Calls Tryz.prog 67 #[stV x ev fv] w fun e w'=>e = .returned (.string (str (lineS x)))∧Below w.heap.size w w':=by
 obtain ⟨kind,reg,name,xe,xf,n,body,els,pos⟩:=x
 dsimp only at hk he hf
 subst hk
 have HT:Hid (str [108,111,111,112,32]++str (Lib.itoa n)=str (lineS ⟨12,reg,name,xe,xf,n,body,els,pos⟩)):=by
  show _=_
  (try simp only [← str_app])
  congr 1
  unfold lineS
  simp [pieS,sepS,partS,wordS,wordL,lettS,hasS,hasL]
 have gK:1≤n∧n≤8:=hx.t
 have zSK:=str_itoa_le n (by omega) (by omega)
 have HCK:Hid (∀ u,Calls Tryz.prog 97 #[.int .i64 n] u fun e w'=>e = .returned (.string (str (Lib.itoa n)))∧Below u.heap.size u w'):=fun u=>rtext_c n (by omega) (by omega) u
 obtain ⟨A1,c1,rfl,_⟩:=Nods.shape he
 obtain ⟨A2,c2,rfl,_⟩:=Nods.shape hf
 clear hx he hf
 have HSB:Hid (SB (w.alloc (.cells #[.int .i64 12,.string (str reg),.string (str name),.slice A1 xe.length c1,.slice A2 xf.length c2,.int .i64 n,.int .i64 body,.int .i64 els,.int .i64 pos] 31)) w.heap.size ⟨12,reg,name,xe,xf,n,body,els,pos⟩ (.slice A1 xe.length c1) (.slice A2 xf.length c2)):=sb_new w ⟨12,reg,name,xe,xf,n,body,els,pos⟩ _ _
 unfold stV
 dsimp only
 go_enter Tryz.func67,Tryz.ntmps67
 have HB:Hid (Below w.heap.size w (w.alloc (.cells #[.int .i64 12,.string (str reg),.string (str name),.slice A1 xe.length c1,.slice A2 xf.length c2,.int .i64 n,.int .i64 body,.int .i64 els,.int .i64 pos] 31))):=al w _
 go_upto_region 1 with fail
 obtain ⟨pb,HPB⟩:∃ pb,Hid (w.heap.size=pb):=⟨_,rfl⟩
 rw [HPB.out] at HSB ⊢
 generalize World.alloc w _=Y at HSB HB ⊢
 obtain ⟨sl,s0,s1,s2,s3,s4,s5,s6,s7,s8,sfr⟩:=HSB.out
 dsimp only at s0 s1 s2 s3 s4 s5
 clear HSB
 generalize str (Lib.itoa n)=SK at zSK HT HCK
 have f1:¬ (9223372036854775807 < 5+SK.size):=by omega
 go_wp2_with (first | (go_at_call_of 97 (Value.int .i64 n);(with_reducible refine (HCK.out _).mono ?_);rintro e w6 ⟨rfl,hb6⟩;have h6:Below Y.heap.size Y w6:=bt (bld) hb6;clear hb6))
 go_ret
 exact ⟨ret_str HT.out,bt HB.out (h6)⟩
theorem rhead_k13 (x:St) (hk:x.kind=13) (hx:Fits x) (ev fv:Value) (w:World) (he:Nods w ev x.e) (hf:Nods w fv x.f) :
 Calls Tryz.prog 67 #[stV x ev fv] w fun e w'=>e = .returned (.string (str (lineS x)))∧Below w.heap.size w w':=by
 obtain ⟨kind,reg,name,xe,xf,n,body,els,pos⟩:=x
 dsimp only at hk he hf
 subst hk
 have HT:Hid (str (wordS 13)=str (lineS ⟨13,reg,name,xe,xf,n,body,els,pos⟩)):=by
  show _=_
  rfl
 have zSW:(str (wordS 13)).size≤6:=by rw [str_size];exact word_le 13
 have HCW:Hid (∀ u,Calls Tryz.prog 72 #[.int .i64 13] u fun e w'=>e = .returned (.string (str (wordS 13)))∧Below u.heap.size u w'):=fun u=>qword_c 13 (by omega) u
 obtain ⟨A1,c1,rfl,_⟩:=Nods.shape he
 obtain ⟨A2,c2,rfl,_⟩:=Nods.shape hf
 clear hx he hf
 have HSB:Hid (SB (w.alloc (.cells #[.int .i64 13,.string (str reg),.string (str name),.slice A1 xe.length c1,.slice A2 xf.length c2,.int .i64 n,.int .i64 body,.int .i64 els,.int .i64 pos] 31)) w.heap.size ⟨13,reg,name,xe,xf,n,body,els,pos⟩ (.slice A1 xe.length c1) (.slice A2 xf.length c2)):=sb_new w ⟨13,reg,name,xe,xf,n,body,els,pos⟩ _ _
 unfold stV
 dsimp only
 go_enter Tryz.func67,Tryz.ntmps67
 have HB:Hid (Below w.heap.size w (w.alloc (.cells #[.int .i64 13,.string (str reg),.string (str name),.slice A1 xe.length c1,.slice A2 xf.length c2,.int .i64 n,.int .i64 body,.int .i64 els,.int .i64 pos] 31))):=al w _
 go_upto_region 1 with fail
 obtain ⟨pb,HPB⟩:∃ pb,Hid (w.heap.size=pb):=⟨_,rfl⟩
 rw [HPB.out] at HSB ⊢
 generalize World.alloc w _=Y at HSB HB ⊢
 obtain ⟨sl,s0,s1,s2,s3,s4,s5,s6,s7,s8,sfr⟩:=HSB.out
 dsimp only at s0 s1 s2 s3 s4 s5
 clear HSB
 generalize str (wordS 13)=SW at zSW HT HCW
 go_wp2_with (first | (go_at_call_of 72 (Value.int .i64 13);(with_reducible refine (HCW.out _).mono ?_);rintro e w5 ⟨rfl,hb5⟩;have h5:Below Y.heap.size Y w5:=bt (bld) hb5;clear hb5))
 go_ret
 exact ⟨ret_str HT.out,bt HB.out (h5)⟩
theorem rhead_k14 (x:St) (hk:x.kind=14) (hx:Fits x) (ev fv:Value) (w:World) (he:Nods w ev x.e) (hf:Nods w fv x.f) :
 Calls Tryz.prog 67 #[stV x ev fv] w fun e w'=>e = .returned (.string (str (lineS x)))∧Below w.heap.size w w':=by
 obtain ⟨kind,reg,name,xe,xf,n,body,els,pos⟩:=x
 dsimp only at hk he hf
 subst hk
 have HT:Hid (str (wordS 14)++str [32]++str (showE xe)=str (lineS ⟨14,reg,name,xe,xf,n,body,els,pos⟩)):=by
  show _=_
  (try simp only [← str_app])
  congr 1
  unfold lineS
  simp [pieS,sepS,partS,wordS,wordL,lettS,hasS,hasL]
 have gE:=right_small hx.e
 have zSE:(str (showE xe)).size≤800:=by rw [str_size];exact gE.2.2
 have HCE:Hid (∀ u,Below w.heap.size w u→Calls Tryz.prog 96 #[ev] u fun e w'=>e = .returned (.string (str (showE xe)))∧Below u.heap.size u w'):=fun u hu=>rShow_c xe gE.1 gE.2.1 ev u (SlN.below he hu)
 have zSW:(str (wordS 14)).size≤6:=by rw [str_size];exact word_le 14
 have HCW:Hid (∀ u,Calls Tryz.prog 72 #[.int .i64 14] u fun e w'=>e = .returned (.string (str (wordS 14)))∧Below u.heap.size u w'):=fun u=>qword_c 14 (by omega) u
 obtain ⟨A1,c1,rfl,_⟩:=Nods.shape he
 obtain ⟨A2,c2,rfl,_⟩:=Nods.shape hf
 clear hx he hf gE
 have HSB:Hid (SB (w.alloc (.cells #[.int .i64 14,.string (str reg),.string (str name),.slice A1 xe.length c1,.slice A2 xf.length c2,.int .i64 n,.int .i64 body,.int .i64 els,.int .i64 pos] 31)) w.heap.size ⟨14,reg,name,xe,xf,n,body,els,pos⟩ (.slice A1 xe.length c1) (.slice A2 xf.length c2)):=sb_new w ⟨14,reg,name,xe,xf,n,body,els,pos⟩ _ _
 unfold stV
 dsimp only
 go_enter Tryz.func67,Tryz.ntmps67
 go_upto_region 12 with fail
 have HB:Hid (Below w.heap.size w (w.alloc (.cells #[.int .i64 14,.string (str reg),.string (str name),.slice A1 xe.length c1,.slice A2 xf.length c2,.int .i64 n,.int .i64 body,.int .i64 els,.int .i64 pos] 31))):=al w _
 obtain ⟨pb,HPB⟩:∃ pb,Hid (w.heap.size=pb):=⟨_,rfl⟩
 rw [HPB.out] at HSB ⊢
 generalize World.alloc w _=Y at HSB HB ⊢
 have HX:Hid (∀ u,Below Y.heap.size Y u→u.cell? ⟨pb,0,none⟩=some (.int .i64 14)∧u.cell? ⟨pb,3,none⟩=some (.slice A1 xe.length c1)):=fun u hu=>by
  have h:=HSB.out.below hu
  exact ⟨h.c0,h.c3⟩
 clear HSB
 generalize str (wordS 14)=SW at zSW HT HCW
 generalize str (showE xe)=SE at zSE HT HCE
 have f1:¬ (9223372036854775807 < SW.size+1):=by omega
 have f1':¬ (9223372036854775806 < SW.size):=by omega
 have e1:¬ (9223372036854775807≤SW.size):=by omega
 have e1':SW.size < 9223372036854775807:=by omega
 have f2:¬ (9223372036854775807 < SW.size+1+SE.size):=by omega
 go_region_held3 (fun u=>u.cell? ⟨pb,0,none⟩=some (.int .i64 14)∧u.cell? ⟨pb,3,none⟩=some (.slice A1 xe.length c1))
  (exact HX.out _ (bld))
  (first | (go_at_call_of 96 (Value.slice A1 xe.length c1);(with_reducible refine (HCE.out _ (bt HB.out (bld))).mono ?_);rintro e w3 ⟨rfl,hb3⟩;have h3:Below Y.heap.size Y w3:=bt (bld) hb3;clear hb3) | (go_at_call_of 72 (Value.int .i64 14);(with_reducible refine (HCW.out _).mono ?_);rintro e w5 ⟨rfl,hb5⟩;have h5:Below Y.heap.size Y w5:=bt (bld) hb5;clear hb5))
 all_goals
  go_wp2_with fail
  go_ret
  exact ⟨ret_str HT.out,bt HB.out (by repeat (first | assumption | refine bdrN ?_ _ | refine bdr ?_))⟩
theorem rhead_c (x:St) (hx:Fits x) (ev fv:Value) (w:World) (he:Nods w ev x.e) (hf:Nods w fv x.f) :
 Calls Tryz.prog 67 #[stV x ev fv] w fun e w'=>e = .returned (.string (str (lineS x)))∧Below w.heap.size w w':=by
 have h0:=hx.k0
 have h1:=hx.k1
 have hc:x.kind=1∨x.kind=2∨x.kind=3∨x.kind=4∨x.kind=5∨x.kind=6∨x.kind=7∨x.kind=8∨x.kind=9∨x.kind=10∨x.kind=11∨x.kind=12∨x.kind=13∨x.kind=14:=by omega
 rcases hc with h | h | h | h | h | h | h | h | h | h | h | h | h | h
 ·exact rhead_k1 x h hx ev fv w he hf
 ·exact rhead_k2 x h hx ev fv w he hf
 ·exact rhead_k3 x h hx ev fv w he hf
 ·exact rhead_k4 x h hx ev fv w he hf
 ·exact rhead_k5 x h hx ev fv w he hf
 ·exact rhead_k6 x h hx ev fv w he hf
 ·exact rhead_k7 x h hx ev fv w he hf
 ·exact rhead_k8 x h hx ev fv w he hf
 ·exact rhead_k9 x h hx ev fv w he hf
 ·exact rhead_k10 x h hx ev fv w he hf
 ·exact rhead_k11 x h hx ev fv w he hf
 ·exact rhead_k12 x h hx ev fv w he hf
 ·exact rhead_k13 x h hx ev fv w he hf
 ·exact rhead_k14 x h hx ev fv w he hf
theorem flat_drop {α : Type} (f : α → List Value) (size : Nat) (hf : ∀ x, (f x).length = size) : ∀ (l : List α) (i : Nat), (l.drop i).flatMap f = (l.flatMap f).drop (i * size)
  | l, 0 => by simp
  | [], i + 1 => by simp
  | x :: r, i + 1 => by
    rw [List.drop_succ_cons, flat_drop f size hf r i, List.flatMap_cons, Nat.succ_mul, Nat.add_comm, ← List.drop_drop, ← hf x, List.drop_left]
theorem flat_take {α : Type} (f : α → List Value) (size : Nat) (hf : ∀ x, (f x).length = size) : ∀ (l : List α) (i : Nat), (l.take i).flatMap f = (l.flatMap f).take (i * size)
  | l, 0 => by simp
  | [], i + 1 => by simp
  | x :: r, i + 1 => by
    rw [List.take_succ_cons, List.flatMap_cons, List.flatMap_cons, flat_take f size hf r i, List.take_append, hf, Nat.succ_mul, show i * size + size - size = i * size by omega, List.take_of_length_le (l := f x) (by rw [hf]; omega)]
theorem Svs.sub {w:World} {b off n c:Nat} {pl:List Sv} (h:Svs w (.slice (some ⟨b,off,none⟩) n c) pl) (i k c':Nat) (hik:i+k≤pl.length) (hc:k≤c'):Svs w (.slice (some ⟨b,off+i*9,none⟩) k c') ((pl.drop i).take k):=by
 have hlen:((pl.drop i).take k).length=k:=by rw [List.length_take,List.length_drop];omega
 refine ⟨⟨flat_length Sv.cells 9 Sv.cells_len _,some ⟨b,off+i*9,none⟩,c',by rw [hlen],by rw [hlen];exact hc,fun h0=>?_⟩,fun x hx=>h.2 x (List.mem_of_mem_drop (List.mem_of_mem_take hx))⟩
 rw [hlen] at h0
 obtain ⟨⟨_,A,c1,hv,_,hf⟩,_⟩:=h
 cases hv
 obtain ⟨b1,off1,hA,hlt,hcell⟩:=hf (by omega)
 cases hA
 refine ⟨b,off+i*9,rfl,hlt,fun j u hj=>?_⟩
 rw [flat_take Sv.cells 9 Sv.cells_len,flat_drop Sv.cells 9 Sv.cells_len] at hj
 have hj2:(pl.flatMap Sv.cells)[i*9+j]? = some u:=by
  rw [List.getElem?_take] at hj
  split at hj
  ·rw [List.getElem?_drop] at hj;exact hj
  ·cases hj
 have:=hcell _ _ hj2
 rw [← Nat.add_assoc] at this
 exact this
theorem svs_nil (w:World) (A:Option Addr) (c:Nat):Svs w (.slice A 0 c) []:=⟨⟨by simp,A,c,rfl,Nat.zero_le _,fun h=>absurd h (by simp)⟩,fun x hx=>by cases hx⟩
end Go.Proofs.YtaoeaaebafcegaaGreatDoor

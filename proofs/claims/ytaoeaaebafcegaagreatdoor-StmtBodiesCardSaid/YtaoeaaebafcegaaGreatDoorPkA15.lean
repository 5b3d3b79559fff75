/- Chapter 04 (statements), joined: PalJ, PalL, DepA, LwA. -/
import Derived.Test.YtaoeaaebafcegaaGreatDoorPkA14
set_option maxRecDepth 100000
set_option maxHeartbeats 20000000
namespace Go.Proofs.YtaoeaaebafcegaaGreatDoor
open Go Go.RowKit
set_option linter.unusedVariables false
def openR (l : List Tok) : Res → Res
  | .inl (x, t) => if isE l t [41] = true then .inl (x, t + 1) else .inr (if l.length ≤ t then 6 else 5, placeE l t)
  | .inr e => .inr e
theorem one_open (l:List Tok) (hl:l.length≤100000) (g:Nat) (v:Value) (i:Nat) (d:Int) (w:World) (hp:Par w g v i d 0 0) (hc:Ctx g v l w) (hi:i < l.length) (k k0:Nat) (hk0:k0+1≤k) (hk1:k≤1000) (h33:isE l i [33] = false) (h45:isE l i [45] = false) (h40:isE l i [40] = true) (r:Res)
 (hgd:∀ x t,r = .inl (x,t)→t≤l.length) (hbd:∀ e p,r = .inr (e,p)→1≤e)
 (HW:∀ W,Keep g w W→Par W g v i d 0 0→W.cell? ⟨w.heap.size,0,none⟩=some (.pointer (some ⟨g,0,none⟩))→Calls Tryz.prog 148 #[.pointer (some ⟨g,0,none⟩),.func (.func 149) #[] #[.pointer (some ⟨w.heap.size,0,none⟩)]] W (PPost l g v (i+1) d k0 r W)) :
 Calls Tryz.prog 136 #[.pointer (some ⟨g,0,none⟩)] w (PPost l g v i d k (openR l r) w):=by
 have hct:=hc.now hp.lt
 obtain ⟨bt0,offt,ct,rfl,hcc,hbt,hatt⟩:=hct.at_ (by omega)
 have hat:=hatt i hi
 rw [← tk_at hi] at hat
 have hk:=hat.kind
 have hx:=hat.text
 have hn:=hat.n
 have hps:=hat.pos
 clear hat hatt hcc hct
 have HT:Hid (∀ u,Keep g w u→Toks u (.slice (some ⟨bt0,offt,none⟩) l.length ct) l):=fun u hu=>(hc.keep hu hp.lt).now (Nat.lt_of_lt_of_le hp.lt hu.size)
 have HI:∀ (c:UInt8) (b:Bool),isE l i [c] = b→Hid (∀ u,Keep g w u→Calls Tryz.prog 50 #[.slice (some ⟨bt0,offt,none⟩) l.length ct,.int .i64 i,.string ⟨#[c]⟩] u fun e w'=>e = .returned (.bool b)∧w' = u):=fun c b hb u hu=>by
  have:=is_c l (by omega) i [c] _ u (HT.out u hu)
  unfold IsPost at this
  rw [hb] at this
  exact this.mono fun _ _ ⟨h1,h2⟩=>⟨h1,h2.symm⟩
 have hd0:decide ((l.length:Int)≤(i:Int))=false:=by simp;omega
 have hd1:decide (l.length≤i)=false:=by simp;omega
 have HPA:=Lib.hid hp
 have HCX:=Lib.hid hc
 have hg1:¬ (g=w.heap.size+1):=by have:=hp.lt;omega
 have hg2:¬ (w.heap.size+1=g):=by have:=hp.lt;omega
 have hg3:¬ (g=w.heap.size):=by have:=hp.lt;omega
 have hg4:¬ (w.heap.size=g):=by have:=hp.lt;omega
 obtain ⟨pl,p0,p1,p2,p3,p4,pf1,pf2,pf3,pf4⟩:=hp
 have H33:=HI 33 _ h33
 have H45:=HI 45 _ h45
 have H40:=HI 40 _ h40
 have HWI:=Lib.hid HW
 clear HI h33 h45 h40 hc HW
 generalize tk l i=t at hk hx hn hps
 cases r with
 | inr ep =>
   obtain ⟨ey,py⟩:=ep
   have he7:=hbd _ _ rfl
   have hee:(ey == 0)=false:=by rw [beq_eq_false_iff_ne];omega
   clear hgd hbd
   go_enter Tryz.func136,Tryz.ntmps136
   go_wp2_with fail
   go_quiet (fail)
   go_wp2_with fail
   go_region
   go_wp2_with fail
   go_quiet (first | (go_at_call_of 50 (Value.string ⟨#[33]⟩);refine (H33.out _ ?_).mono ?_;(repeat (first | exact Keep.refl _ _ | refine Keep.drewN ?_ _ | refine Keep.drew ?_ | refine Keep.alloc ?_ _));rintro e w' ⟨he,hw⟩;exact ⟨he,_,hw⟩))
   go_wp2_with fail
   generalize hwd:World.drewN (World.alloc (World.drewN (World.alloc w _) _) _) _=wd
   have hbx:Bx w g (.slice (some ⟨bt0,offt,none⟩) l.length ct) i d t wd:=by subst hwd;exact bx_made HPA.out t _ _
   clear hwd pl p0 p1 p2 p3 p4 pf1 pf2 pf3 pf4
   have HBX:=Lib.hid hbx
   have HBT:Hid (Bt w g t wd):=⟨hbx.box,hbx.tok⟩
   obtain ⟨hkp,hbox,⟨tl,t0,t1,t2,t3,_,_,_,_⟩,⟨pl,p0,p1,p2,p3,p4,pf1,pf2,pf3,pf4⟩⟩:=hbx
   have HKP:=Lib.hid hkp
   clear hkp
   go_quiet (first | (go_at_call_of 50 (Value.string ⟨#[45]⟩);refine (H45.out _ ?_).mono ?_;(repeat (first | exact HKP.out | refine Keep.drewN ?_ _ | refine Keep.drew ?_));rintro e w' ⟨he,hw⟩;exact ⟨he,_,hw⟩))
   go_wp2_with fail
   go_quiet (first | (go_at_call_of 50 (Value.string ⟨#[40]⟩);refine (H40.out _ ?_).mono ?_;(repeat (first | exact HKP.out | refine Keep.drewN ?_ _ | refine Keep.drew ?_));rintro e w' ⟨he,hw⟩;exact ⟨he,_,hw⟩))
   go_wp2_with (go_at_call 148;refine (HWI.out _ ?_ ?_ ?_).mono ?_;(repeat (first | exact HKP.out | refine Keep.drewN ?_ _ | refine Keep.drew ?_ | refine Keep.alloc ?_ _));(repeat (first | exact HBX.out.par | refine Par.drewN ?_ _ | refine Par.drew ?_ | refine Par.below ?_ (al _ _)));exact (Bt.below HBT.out (bla)).box;rintro e w5 ⟨hk5,A5,n5,c5,a5,e5,p5,rfl,hp5,hf5,hv5⟩;have hbt5:=Bt.keep (Bt.below HBT.out (bla)) hk5 HPA.out.lt;have hkw5:Keep g w w5:=Keep.trans (by repeat (first | exact HKP.out | refine Keep.drewN ?_ _ | refine Keep.drew ?_ | refine Keep.alloc ?_ _)) hk5;clear hbox tl t0 t1 t2 t3 pl p0 p1 p2 p3 p4 pf1 pf2 pf3 pf4;have hbox:=hbt5.box;have HP5:=Lib.hid hp5;obtain ⟨rfl,rfl,ha5,hb5,gl,hgl,hgll⟩:=hv5;obtain ⟨m5,rfl⟩:=Int.eq_ofNat_of_zero_le ha5;have hm5:(m5:Int)≤200000:=(by omega);obtain ⟨pl,p0,p1,p2,p3,p4,pf1,pf2,pf3,pf4⟩:=hp5)
   go_quiet (fail)
   go_wp2_with fail
   go_ret
   have hwl:=HPA.out.lt
   refine ⟨Keep.set ?_ _ _,A5,n5,c5,(m5:Int)+1,e5,p5,rfl,Par.set1 (i:=m5) ?_ _,hf5.mono ?_,rfl,rfl,by omega,by omega,gl,SlN.keep (B:=w.heap.size) hgl (hf5.mono ?_) hwl (Keep.set ?_ _ _),by omega⟩
   ·(repeat (first | exact hkw5 | refine Keep.drewN ?_ _ | refine Keep.drew ?_ | refine Keep.alloc ?_ _))
   ·(repeat (first | exact HP5.out | refine Par.drewN ?_ _ | refine Par.drew ?_))
   ·exact (Keep.size (g:=g) (by repeat (first | exact HKP.out | refine Keep.drewN ?_ _ | refine Keep.drew ?_ | refine Keep.alloc ?_ _)))
   ·exact (Keep.size (g:=g) (by repeat (first | exact HKP.out | refine Keep.drewN ?_ _ | refine Keep.drew ?_ | refine Keep.alloc ?_ _)))
   ·(repeat (first | exact Keep.refl _ _ | refine Keep.drewN ?_ _ | refine Keep.drew ?_))
 | inl q =>
   obtain ⟨x,t5⟩:=q
   have hgt:=hgd _ _ rfl
   have ht5:(t5:Int)≤200000:=by omega
   have HI41:Hid (∀ u,Keep g w u→Calls Tryz.prog 50 #[.slice (some ⟨bt0,offt,none⟩) l.length ct,.int .i64 t5,.string ⟨#[41]⟩] u fun e w'=>e = .returned (.bool (isE l t5 [41]))∧w' = u):=fun u hu=>by
    have:=is_c l (by omega) t5 [41] _ u (HT.out u hu)
    unfold IsPost at this
    exact this.mono fun _ _ ⟨h1,h2⟩=>⟨h1,h2.symm⟩
   have HWR:Hid (∀ u,Keep g w u→Par u g (.slice (some ⟨bt0,offt,none⟩) l.length ct) t5 d 0 0→Calls Tryz.prog 147 #[.pointer (some ⟨g,0,none⟩),.int .i64 5] u fun e w'=>e = .returned (.slice none 0 0)∧Keep g u w'∧Par w' g (.slice (some ⟨bt0,offt,none⟩) l.length ct) t5 d (if l.length≤t5 then 6 else 5) (placeE l t5)):=fun u hu hpu=>by
    have:=wrong_c l hl g _ t5 d 5 u hpu (HCX.out.keep hu HPA.out.lt)
    rw [show (if l.length≤t5∧(5:Int)=5 then (6:Int) else 5)=(if l.length≤t5 then 6 else 5) by simp] at this
    exact this
   cases h41:isE l t5 [41]
   ·have hO:openR l (.inl (x,t5)) = .inr (if l.length≤t5 then 6 else 5,placeE l t5):=by unfold openR;simp only [h41];rfl
    rw [hO]
    rw [h41] at HI41
    clear hgd hbd h41 hO
    generalize (if l.length≤t5 then (6:Int) else 5)=q at HWR
    go_enter Tryz.func136,Tryz.ntmps136
    go_wp2_with fail
    go_quiet (fail)
    go_wp2_with fail
    go_region
    go_wp2_with fail
    go_quiet (first | (go_at_call_of 50 (Value.string ⟨#[33]⟩);refine (H33.out _ ?_).mono ?_;(repeat (first | exact Keep.refl _ _ | refine Keep.drewN ?_ _ | refine Keep.drew ?_ | refine Keep.alloc ?_ _));rintro e w' ⟨he,hw⟩;exact ⟨he,_,hw⟩))
    go_wp2_with fail
    generalize hwd:World.drewN (World.alloc (World.drewN (World.alloc w _) _) _) _=wd
    have hbx:Bx w g (.slice (some ⟨bt0,offt,none⟩) l.length ct) i d t wd:=by subst hwd;exact bx_made HPA.out t _ _
    clear hwd pl p0 p1 p2 p3 p4 pf1 pf2 pf3 pf4
    have HBX:=Lib.hid hbx
    have HBT:Hid (Bt w g t wd):=⟨hbx.box,hbx.tok⟩
    obtain ⟨hkp,hbox,⟨tl,t0,t1,t2,t3,_,_,_,_⟩,⟨pl,p0,p1,p2,p3,p4,pf1,pf2,pf3,pf4⟩⟩:=hbx
    have HKP:=Lib.hid hkp
    clear hkp
    go_quiet (first | (go_at_call_of 50 (Value.string ⟨#[45]⟩);refine (H45.out _ ?_).mono ?_;(repeat (first | exact HKP.out | refine Keep.drewN ?_ _ | refine Keep.drew ?_));rintro e w' ⟨he,hw⟩;exact ⟨he,_,hw⟩))
    go_wp2_with fail
    go_quiet (first | (go_at_call_of 50 (Value.string ⟨#[40]⟩);refine (H40.out _ ?_).mono ?_;(repeat (first | exact HKP.out | refine Keep.drewN ?_ _ | refine Keep.drew ?_));rintro e w' ⟨he,hw⟩;exact ⟨he,_,hw⟩))
    go_wp2_with (go_at_call 148;refine (HWI.out _ ?_ ?_ ?_).mono ?_;(repeat (first | exact HKP.out | refine Keep.drewN ?_ _ | refine Keep.drew ?_ | refine Keep.alloc ?_ _));(repeat (first | exact HBX.out.par | refine Par.drewN ?_ _ | refine Par.drew ?_ | refine Par.below ?_ (al _ _)));exact (Bt.below HBT.out (bla)).box;rintro e w5 ⟨hk5,A5,n5,c5,a5,e5,p5,rfl,hp5,hf5,hv5⟩;have hbt5:=Bt.keep (Bt.below HBT.out (bla)) hk5 HPA.out.lt;have hkw5:Keep g w w5:=Keep.trans (by repeat (first | exact HKP.out | refine Keep.drewN ?_ _ | refine Keep.drew ?_ | refine Keep.alloc ?_ _)) hk5;clear hbox tl t0 t1 t2 t3 pl p0 p1 p2 p3 p4 pf1 pf2 pf3 pf4;have hbox:=hbt5.box;have HP5:=Lib.hid hp5;obtain ⟨rfl,rfl,rfl,hnx⟩:=hv5;obtain ⟨pl,p0,p1,p2,p3,p4,pf1,pf2,pf3,pf4⟩:=hp5)
    go_quiet (first | (go_at_call 50;refine (HI41.out _ ?_).mono ?_;(repeat (first | exact hkw5 | refine Keep.drewN ?_ _ | refine Keep.drew ?_ | refine Keep.alloc ?_ _));rintro e w' ⟨he,hw⟩;exact ⟨he,_,hw⟩))
    go_wp2_with (go_at_call 147;refine (HWR.out _ ?_ ?_).mono ?_;(repeat (first | exact hkw5 | refine Keep.drewN ?_ _ | refine Keep.drew ?_ | refine Keep.alloc ?_ _));(repeat (first | exact HP5.out | refine Par.drewN ?_ _ | refine Par.drew ?_));rintro e w6 ⟨rfl,hk6,hp6⟩)
    go_ret
    refine ⟨Keep.trans ?_ hk6,none,0,0,t5,q,placeE l t5,rfl,hp6,fresh_nil _ _ _,rfl,rfl,by omega,by omega,[],Sl.nil _ _ _,by simp⟩
    (repeat (first | exact hkw5 | refine Keep.drewN ?_ _ | refine Keep.drew ?_ | refine Keep.alloc ?_ _))
   ·have hO:openR l (.inl (x,t5)) = .inl (x,t5+1):=by unfold openR;simp only [h41];rfl
    rw [hO]
    rw [h41] at HI41
    clear hgd hbd h41 hO HWR
    go_enter Tryz.func136,Tryz.ntmps136
    go_wp2_with fail
    go_quiet (fail)
    go_wp2_with fail
    go_region
    go_wp2_with fail
    go_quiet (first | (go_at_call_of 50 (Value.string ⟨#[33]⟩);refine (H33.out _ ?_).mono ?_;(repeat (first | exact Keep.refl _ _ | refine Keep.drewN ?_ _ | refine Keep.drew ?_ | refine Keep.alloc ?_ _));rintro e w' ⟨he,hw⟩;exact ⟨he,_,hw⟩))
    go_wp2_with fail
    generalize hwd:World.drewN (World.alloc (World.drewN (World.alloc w _) _) _) _=wd
    have hbx:Bx w g (.slice (some ⟨bt0,offt,none⟩) l.length ct) i d t wd:=by subst hwd;exact bx_made HPA.out t _ _
    clear hwd pl p0 p1 p2 p3 p4 pf1 pf2 pf3 pf4
    have HBX:=Lib.hid hbx
    have HBT:Hid (Bt w g t wd):=⟨hbx.box,hbx.tok⟩
    obtain ⟨hkp,hbox,⟨tl,t0,t1,t2,t3,_,_,_,_⟩,⟨pl,p0,p1,p2,p3,p4,pf1,pf2,pf3,pf4⟩⟩:=hbx
    have HKP:=Lib.hid hkp
    clear hkp
    go_quiet (first | (go_at_call_of 50 (Value.string ⟨#[45]⟩);refine (H45.out _ ?_).mono ?_;(repeat (first | exact HKP.out | refine Keep.drewN ?_ _ | refine Keep.drew ?_));rintro e w' ⟨he,hw⟩;exact ⟨he,_,hw⟩))
    go_wp2_with fail
    go_quiet (first | (go_at_call_of 50 (Value.string ⟨#[40]⟩);refine (H40.out _ ?_).mono ?_;(repeat (first | exact HKP.out | refine Keep.drewN ?_ _ | refine Keep.drew ?_));rintro e w' ⟨he,hw⟩;exact ⟨he,_,hw⟩))
    go_wp2_with (go_at_call 148;refine (HWI.out _ ?_ ?_ ?_).mono ?_;(repeat (first | exact HKP.out | refine Keep.drewN ?_ _ | refine Keep.drew ?_ | refine Keep.alloc ?_ _));(repeat (first | exact HBX.out.par | refine Par.drewN ?_ _ | refine Par.drew ?_ | refine Par.below ?_ (al _ _)));exact (Bt.below HBT.out (bla)).box;rintro e w5 ⟨hk5,A5,n5,c5,a5,e5,p5,rfl,hp5,hf5,hv5⟩;have hbt5:=Bt.keep (Bt.below HBT.out (bla)) hk5 HPA.out.lt;have hkw5:Keep g w w5:=Keep.trans (by repeat (first | exact HKP.out | refine Keep.drewN ?_ _ | refine Keep.drew ?_ | refine Keep.alloc ?_ _)) hk5;clear hbox tl t0 t1 t2 t3 pl p0 p1 p2 p3 p4 pf1 pf2 pf3 pf4;have hbox:=hbt5.box;have HP5:=Lib.hid hp5;obtain ⟨rfl,rfl,rfl,hnx⟩:=hv5;obtain ⟨pl,p0,p1,p2,p3,p4,pf1,pf2,pf3,pf4⟩:=hp5)
    go_quiet (first | (go_at_call 50;refine (HI41.out _ ?_).mono ?_;(repeat (first | exact hkw5 | refine Keep.drewN ?_ _ | refine Keep.drew ?_ | refine Keep.alloc ?_ _));rintro e w' ⟨he,hw⟩;exact ⟨he,_,hw⟩))
    go_wp2_with fail
    go_ret
    have hwl:=HPA.out.lt
    refine ⟨Keep.set ?_ _ _,A5,n5,c5,(t5:Int)+1,0,0,rfl,Par.set1 (i:=t5) ?_ _,hf5.mono ?_,rfl,rfl,rfl,NodO.keep (B:=w.heap.size) hnx (hf5.mono ?_) hwl (Keep.set ?_ _ _)⟩
    ·(repeat (first | exact hkw5 | refine Keep.drewN ?_ _ | refine Keep.drew ?_ | refine Keep.alloc ?_ _))
    ·(repeat (first | exact HP5.out | refine Par.drewN ?_ _ | refine Par.drew ?_))
    ·exact (Keep.size (g:=g) (by repeat (first | exact HKP.out | refine Keep.drewN ?_ _ | refine Keep.drew ?_ | refine Keep.alloc ?_ _)))
    ·exact (Keep.size (g:=g) (by repeat (first | exact HKP.out | refine Keep.drewN ?_ _ | refine Keep.drew ?_ | refine Keep.alloc ?_ _)))
    ·(repeat (first | exact Keep.refl _ _ | refine Keep.drewN ?_ _ | refine Keep.drew ?_))
end Go.Proofs.YtaoeaaebafcegaaGreatDoor
namespace Go.Proofs.YtaoeaaebafcegaaGreatDoor
open Go Go.RowKit
set_option linter.unusedVariables false
theorem floor_zero (l : List Tok) (g : Nat) (v : Value) (i : Nat) (d : Int) (kk k : Nat) (w : World) (hp : Par w g v i d 0 0) (hc : Ctx g v l w)
    (HO : ∀ u, Par u g v i d 0 0 → Ctx g v l u → Calls Tryz.prog 136 #[.pointer (some ⟨g, 0, none⟩)] u (PPost l g v i d k (prR l kk i) u)) :
    Calls Tryz.prog 128 #[.pointer (some ⟨g, 0, none⟩), .int .i64 5] w (PPost l g v i d k (flR (prR l kk) l 0 i) w) := by
  have HON : Hid (∀ u, Below w.heap.size w u → Calls Tryz.prog 136 #[.pointer (some ⟨g, 0, none⟩)] u (PPost l g v i d k (prR l kk i) u)) := fun u hu => HO u (hp.below hu) (hc.belowB (hu.mono (Nat.le_of_lt hp.lt)))
  have HR : Hid (flR (prR l kk) l 0 i = prR l kk i) := rfl
  have HFL : Hid (∀ u : World, Calls Tryz.prog 135 #[] u fun e w' => ∃ b, e = .returned (.slice (some ⟨b, 0, none⟩) 5 5) ∧ Below u.heap.size u w') := fun u => (floors_c 0 (by decide) u).mono fun e w' ⟨b, A, c, h1, h2, h3, h4, h5⟩ => ⟨b, h1, h5⟩
  clear HO hp hc
  go_enter Tryz.func128, Tryz.ntmps128
  go_wp2_with (first
    | (go_at_call 135; refine (HFL.out _).mono ?_; rintro e w1 ⟨b, rfl, hb1⟩; have hB := bt (al _ _) hb1; have hbox : w1.cell? ⟨w.heap.size, 0, none⟩ = some (.pointer (some ⟨g, 0, none⟩)) := (hb1.cell (p := ⟨w.heap.size, 0, none⟩) (by show w.heap.size < _; rw [World.size_alloc]; omega)).trans (cells_new w _ _ 0 _ rfl))
    | (go_at_call 136; refine (HON.out _ hB).mono ?_; rintro e w2 ⟨hk2, A, n, c, a, e1, p1, rfl, hp2, hf2, hv2⟩))
  go_ret
  rw [HR.out]
  exact ⟨(Keep.of hB).trans hk2, A, n, c, a, e1, p1, rfl, hp2, hf2.mono hB.size, hv2⟩
structure FJ (l:List Tok) (f:Nat→Res) (n:Nat) (R:Res) (i:Nat) (d:Int) (k g:Nat) (v:Value) (w:World) (x:Value) (wr:World):Prop where
 keep:Keep g w wr
 box:wr.cell? ⟨w.heap.size,0,none⟩=some (.pointer (some ⟨g,0,none⟩))
 lt:w.heap.size < wr.heap.size
 cur:∃ (A:Option Addr) (m c:Nat) (a e p:Int) (r:Res),x = .slice A m c∧Par wr g v a d e p∧Fresh (w.heap.size+1) x∧PVal l i k r wr x a e p ∧
  R=contR f n l r∧(∀ y t,r = .inl (y,t)→i < t∧t≤l.length∧y.flat.length≤t - i)∧(∀ e p,r = .inr (e,p)→1≤e)
theorem floors_f (n:Nat) (hn:n < 5) (w:World):Calls Tryz.prog 135 #[] w fun e w'=>∃ b A c,e = .returned (.slice (some ⟨b,0,none⟩) 5 5)∧b < w'.heap.size∧w.heap.size≤b∧Fresh w.heap.size (.slice A (flS n).length c)∧w'.cell? ⟨b,n,none⟩=some (.slice A (flS n).length c)∧Strs w' (.slice A (flS n).length c) (flS n)∧Below w.heap.size w w':=by
 go_enter Tryz.func135,Tryz.ntmps135
 go_wp2_with fail
 go_ret
 have h0:=strs_made w 0 1 rfl
 have h1:=strs_made (w.alloc (sO 0)) 1 1 rfl
 have h2:=strs_made ((w.alloc (sO 0)).alloc (sO 1)) 2 4 rfl
 have h3:=strs_made (((w.alloc (sO 0)).alloc (sO 1)).alloc (sO 2)) 3 2 rfl
 have h4:=strs_made ((((w.alloc (sO 0)).alloc (sO 1)).alloc (sO 2)).alloc (sO 3)) 4 3 rfl
 simp only [World.size_alloc] at h1 h2 h3 h4
 refine ⟨w.heap.size+1+1+1+1+1,?_⟩
 match n,hn with
 | 0,_=>exact ⟨some ⟨w.heap.size,0,none⟩,1,rfl,by simp only [World.size_alloc];omega,by omega,fresh_one _ _ _ _ _ (by omega),by simp [go_sem,flS,opsOf],(((((h0.below (al _ _)).below (al _ _)).below (al _ _)).below (al _ _)).below (al _ _)),al6 _ _ _ _ _ _ _⟩
 | 1,_=>exact ⟨some ⟨w.heap.size+1,0,none⟩,1,rfl,by simp only [World.size_alloc];omega,by omega,fresh_one _ _ _ _ _ (by omega),by simp [go_sem,flS,opsOf],((((h1.below (al _ _)).below (al _ _)).below (al _ _)).below (al _ _)),al6 _ _ _ _ _ _ _⟩
 | 2,_=>exact ⟨some ⟨w.heap.size+1+1,0,none⟩,4,rfl,by simp only [World.size_alloc];omega,by omega,fresh_one _ _ _ _ _ (by omega),by simp [go_sem,flS,opsOf],(((h2.below (al _ _)).below (al _ _)).below (al _ _)),al6 _ _ _ _ _ _ _⟩
 | 3,_=>exact ⟨some ⟨w.heap.size+1+1+1,0,none⟩,2,rfl,by simp only [World.size_alloc];omega,by omega,fresh_one _ _ _ _ _ (by omega),by simp [go_sem,flS,opsOf],((h3.below (al _ _)).below (al _ _)),al6 _ _ _ _ _ _ _⟩
 | 4,_=>exact ⟨some ⟨w.heap.size+1+1+1+1,0,none⟩,3,rfl,by simp only [World.size_alloc];omega,by omega,fresh_one _ _ _ _ _ (by omega),by simp [go_sem,flS,opsOf],(h4.below (al _ _)),al6 _ _ _ _ _ _ _⟩
theorem cell4_far (w:World) {g b:Nat} (h:g≠b) (x y z q:Value) (o:Nat):((((w.setCell ⟨g,0,none⟩ x).setCell ⟨g,1,none⟩ y).setCell ⟨g,2,none⟩ z).setCell ⟨g,3,none⟩ q).cell? ⟨b,o,none⟩=w.cell? ⟨b,o,none⟩:=by
 rw [World.cell?_setCell_far _ _ _ _ h,World.cell?_setCell_far _ _ _ _ h,World.cell?_setCell_far _ _ _ _ h,World.cell?_setCell_far _ _ _ _ h]
theorem wpAnyH_weaken {P : Program} {ops : Array Oper} {Q : Exit → Act → World → Prop} {md : Region.Mode} {S S2 : World → Prop} (hSS : ∀ w, S2 w → S w) : ∀ (fuel : Nat) (listed : Array Bool) (a : Act) (w : World), wpAnyH P md ops Q S2 fuel listed a w → wpAnyH P md ops Q S fuel listed a w
  | 0, _, _, _, h => h
  | fuel + 1, _, _, _, h => ⟨h.1, fun i hi => wpOp_mono (fun a' w' h' => ⟨hSS _ h'.1, wpAnyH_weaken hSS fuel _ a' w' h'.2⟩) (h.2 i hi)⟩
theorem flS_len (n:Nat):(flS n).length=(opsOf n).length:=by unfold flS;simp
theorem flS_at (n j:Nat) (h:j < (flS n).length):(flS n)[j] = sg ((opsOf n)[j]'(by rw [flS_len] at h;exact h)):=by
 exact List.getElem_map (l:=opsOf n) sg
theorem keep_cell {g:Nat} {a b:World} (h:Keep g a b) {bx:Nat} {u:Value} (hne:bx≠g) (hlt:bx < a.heap.size) (hc:a.cell? ⟨bx,0,none⟩=some u):b.cell? ⟨bx,0,none⟩=some u:=(h.cell (p:=⟨bx,0,none⟩) hlt hne).trans hc
theorem own_cons2 {w:World} {base:Nat} {v:Value} {nd:Nod} {xs ys:List Nod} (h:w.ownsRow base 33 4 v (1+xs.length+ys.length) ((Nod.cells nd++xs.flatMap Nod.cells)++ys.flatMap Nod.cells)) :
 NodO w v (nd :: (xs++ys))∧Fresh base v:=by
 refine ⟨⟨?_,Unf.own h⟩,Fresh.own h⟩
 have h2:=sl_of_own h
 have e1:(nd :: (xs++ys)).length=1+xs.length+ys.length:=by simp only [List.length_cons,List.length_append];omega
 have e2:(nd :: (xs++ys)).flatMap Nod.cells=(Nod.cells nd++xs.flatMap Nod.cells)++ys.flatMap Nod.cells:=by simp
 show SlN w v 4 _ _
 rw [e1,e2]
 exact h2
def nextR (nd : Nod) (x : Ex) : Res → Res
  | .inl (y, t) => .inl (.two nd x y, t)
  | .inr e => .inr e
theorem next_post {l:List Tok} {i t k:Nat} {nd:Nod} {x:Ex} {r:Res} {w5 w7:World} {V V7:Value} {a e p:Int} (hit:i < t) (ht:t < l.length) (hxl:x.flat.length≤t - i) (h:PVal l (t+1) k r w5 V a e p) {ny:List Nod} (hny:ny.length≤l.length - (t+1))
 (he:∀ y t,r = .inl (y,t)→ny=y.flat) (h7:NodO w7 V7 (nd :: (x.flat++ny))):PVal l i k (nextR nd x r) w7 V7 a e p:=by
 cases r with
 | inl q =>
   obtain ⟨y,t2⟩:=q
   have hx:=he y t2 rfl
   subst hx
   exact ⟨h.1,h.2.1,h.2.2.1,h7⟩
 | inr q =>
   obtain ⟨h1,h2,h3,h4,_⟩:=h
   exact ⟨h1,h2,h3,by omega,_,h7.nods,by simp only [List.length_cons,List.length_append];omega⟩
theorem next_R {f:Nat→Res} {n:Nat} {l:List Tok} {x:Ex} {t:Nat} (hf:Fwd l f) (hne:opAt n l t≠0) (hn:n≠2):lpS f n l x t=contR f n l (nextR ⟨opAt n l t,0,[],(tk l t).pos⟩ x (f (t+1))):=by
 cases hy:f (t+1) with
 | inl q =>
   obtain ⟨y,t3⟩:=q
   rw [lpS_step hf hne hy,if_neg hn];rfl
 | inr e=>rw [lpS_err hne hy];rfl
theorem next_R2 {f:Nat→Res} {n:Nat} {l:List Tok} {x:Ex} {t:Nat} (hf:Fwd l f) (hne:opAt n l t≠0) (hn:n=2):lpS f n l x t=nextR ⟨opAt n l t,0,[],(tk l t).pos⟩ x (f (t+1)):=by
 cases hy:f (t+1) with
 | inl q =>
   obtain ⟨y,t3⟩:=q
   rw [lpS_step hf hne hy,if_pos hn];rfl
 | inr e=>rw [lpS_err hne hy];rfl
theorem floor_succ (l : List Tok) (hl : l.length ≤ 100000) (g : Nat) (v : Value) (i : Nat) (d : Int) (kk k m n : Nat) (hn : m + 1 + n = 5) (w : World) (hp : Par w g v i d 0 0) (hc : Ctx g v l w)
    (HF0 : ∀ (i : Nat) u, Par u g v i d 0 0 → Ctx g v l u → Calls Tryz.prog 128 #[.pointer (some ⟨g, 0, none⟩), .int .i64 ((n : Int) + 1)] u (PPost l g v i d k (flR (prR l kk) l m i) u)) :
    Calls Tryz.prog 128 #[.pointer (some ⟨g, 0, none⟩), .int .i64 n] w (PPost l g v i d k (flR (prR l kk) l (m + 1) i) w) := by
  obtain ⟨i0, hi0, hz0, hz1, hz2⟩ := info_parts info_nod
  have hfw : Fwd l (flR (prR l kk) l m) := flR_fwd (prR_fwd l kk) m
  have HFW := Lib.hid hfw
  have HF := Lib.hid HF0
  have HPA := Lib.hid hp
  have HCX := Lib.hid hc
  have HR : Hid (flR (prR l kk) l (m + 1) i = contR (flR (prR l kk) l m) n l (flR (prR l kk) l m i)) := by
    have e : 4 - m = n := by omega
    show _ = _
    rw [flR, e]
    cases flR (prR l kk) l m i with
    | inl r => rfl
    | inr e => rfl
  have hn5 : ((n : Int) == 5) = false := by rw [beq_eq_false_iff_ne]; omega
  have HFL : Hid (∀ u : World, Calls Tryz.prog 135 #[] u fun e w' => ∃ b A c, e = .returned (.slice (some ⟨b, 0, none⟩) 5 5) ∧ b < w'.heap.size ∧ u.heap.size ≤ b ∧ Fresh u.heap.size (.slice A (flS n).length c) ∧ w'.cell? ⟨b, n, none⟩ = some (.slice A (flS n).length c) ∧ Strs w' (.slice A (flS n).length c) (flS n) ∧ Below u.heap.size u w') := fun u => floors_f n (by omega) u
  have hwl := hp.lt
  clear HF0 hfw hp hc
  generalize flR (prR l kk) l (m + 1) i = R at HR
  go_enter Tryz.func128, Tryz.ntmps128
  go_wp2_with (first
    | (go_at_call 135; refine (HFL.out _).mono ?_; rintro e w1 ⟨b, A0, c0, rfl, hbl, _, _, hbc, hbs, hb1⟩; have hB := bt (al _ _) hb1; have hbox : w1.cell? ⟨w.heap.size, 0, none⟩ = some (.pointer (some ⟨g, 0, none⟩)) := (hb1.cell (p := ⟨w.heap.size, 0, none⟩) (by show w.heap.size < _; rw [World.size_alloc]; omega)).trans (cells_new w _ _ 0 _ rfl); have hsz1 : w.heap.size < w1.heap.size := Nat.lt_of_lt_of_le (by rw [World.size_alloc]; omega) hb1.size)
    | (go_at_call 128; refine (HF.out i _ (HPA.out.below hB) (HCX.out.keep (Keep.of hB) HPA.out.lt)).mono ?_; rintro e w2 ⟨hk2, A2, n2, c2, a2, e2, p2, rfl, hp2, hf2, hv2⟩))
  go_loopw [5, 6, 7, 8] (fun x _ _ _ wr => FJ l (flR (prR l kk) l m) n R i d k g v w x wr) (fun _ _ _ _ wr => if intOf ((wr.cell? ⟨g, 3, none⟩).getD (.int .i64 0)) = 0 then l.length + 1 - (intOf ((wr.cell? ⟨g, 1, none⟩).getD (.int .i64 0))).toNat else 0)
  case atStart =>
    exact ⟨(Keep.of hB).trans hk2, keep_cell hk2 (by omega) hsz1 hbox, Nat.lt_of_lt_of_le hsz1 hk2.size, A2, n2, c2, a2, e2, p2, _, rfl, hp2, hf2.mono hsz1, hv2, HR.out, fun y t h => (by have := HFW.out.good i y t h; exact ⟨this.1, this.2.1, this.2.2.1⟩), fun e p h => (HFW.out.bad i e p h).1⟩
  case round =>
    obtain ⟨hkr, hbox, hltr, A, mm, c, a, e, p, r, rfl, hpr, hfr, hvr, hRr, hgd, hbd⟩ := hrel
    match r, hvr, hRr, hgd, hbd with
    | .inr (e2, p2), hvr, hRr, hgd, hbd =>
      obtain ⟨rfl, rfl, ha1, ha2, gl, hgl, hgll⟩ := hvr
      have he1 := hbd _ _ rfl
      have hee : (e == 0) = false := by rw [beq_eq_false_iff_ne]; omega
      have HPR := Lib.hid hpr
      obtain ⟨pl, p0, p1, p2, p3, p4, pf1, pf2, pf3, pf4⟩ := hpr
      go_wp2_with fail
      go_ret
      rw [hRr]
      exact ⟨hkr, A, mm, c, a, e, p, rfl, HPR.out, hfr.mono (Nat.le_succ _), rfl, rfl, ha1, ha2, gl, hgl, hgll⟩
    | .inl (x, t), hvr, hRr, hgd, hbd =>
      obtain ⟨rfl, rfl, rfl, hnx⟩ := hvr
      obtain ⟨hit, htl, hxl⟩ := hgd _ _ rfl
      have HPR := Lib.hid hpr
      have HKR := Lib.hid hkr
      have HNX := Lib.hid hnx
      have HFR := Lib.hid hfr
      have HRR : Hid (R = lpS (flR (prR l kk) l m) n l x t) := hRr
      have HCR : Hid (Ctx g v l wr) := HCX.out.keep hkr HPA.out.lt
      have hfl4 : (flS n).length ≤ 1000 := by rw [flS_len]; have := opsOf_len n; omega
      have hfl0 : 0 < (flS n).length := by rw [flS_len]; exact opsOf_pos n (by omega)
      have HLS := Lib.hid (And.intro hfl4 hfl0)
      obtain ⟨pl, p0, p1, p2, p3, p4, pf1, pf2, pf3, pf4⟩ := hpr
      clear hRr hgd hbd hkr hnx hfr hvr hfl4 hfl0 hB hk2 hp2 hf2 hv2 hb1 hbc hbs hsz1
      go_upto_region 6 with (first
        | (go_at_call 135; refine (HFL.out _).mono ?_; rintro e w3 ⟨b3, A3, c3, rfl, hbl3, _, _, hbc3, hbs3, hb3⟩; have hbox3 := (hb3.cell (p := ⟨w.heap.size, 0, none⟩) hltr).trans hbox; have hlt3 := Nat.lt_of_lt_of_le hltr hb3.size)
        | (go_at_call 137; refine (index_c l hl g w.heap.size v t d (flS n) HLS.out.1 HLS.out.2 _ _ hbs3 (HPR.out.below hb3) (HCR.out.belowB (hb3.mono (Nat.le_of_lt pl))) hbox3 hlt3).mono ?_; rintro e w4 ⟨hb4, z, rfl, hz⟩))
      have hB4 := bt hb3 hb4
      rcases hz with ⟨rfl, hno⟩ | ⟨j, rfl, hjl, hyes⟩
      · have HZ : Hid (R = .inl (x, t)) := HRR.out.trans (lpS_stop (opAt_zero fun j' hj' => by
          have hj2 : j' < (flS n).length := by rw [flS_len]; exact hj'
          have := hno _ (List.getElem_mem hj2)
          rw [flS_at n j' hj2] at this
          exact this))
        go_wp2_with fail
        go_ret
        rw [HZ.out]
        exact ⟨HKR.out.trans (Keep.of hB4), A, mm, c, t, 0, 0, rfl, HPR.out.below hB4, HFR.out.mono (Nat.le_succ _), rfl, rfl, rfl, HNX.out.below hB4⟩
      · have hjo : j < (opsOf n).length := by rw [flS_len] at hjl; exact hjl
        rw [flS_at n j hjl] at hyes
        have hop := opsOf_in n _ (List.getElem_mem hjo)
        have HOP : Hid (opAt n l t = (opsOf n)[j]) := opAt_of (List.getElem_mem hjo) hyes
        have hlt := isE_lt hyes
        have hne : opAt n l t ≠ 0 := by rw [HOP.out]; omega
        have HSG : Hid ((flS n)[j] = sg ((opsOf n)[j])) := flS_at n j hjl
        generalize (opsOf n)[j] = o at hop HOP HSG
        have hposT : ∃ ps, Hid (ps = (tk l t).pos) := ⟨_, rfl⟩
        obtain ⟨ps, HPS⟩ := hposT
        go_upto_region 7 with fail
        go_cut [7] (fun s wx => ∃ hb : Nat, s = .pointer (some ⟨hb, 0, none⟩) ∧ w4.heap.size ≤ hb ∧ Blk4 wx hb (.int .i64 o) (.int .i64 0) (.string ⟨#[]⟩) (.int .i64 ps) ∧ Below w4.heap.size w4 wx)
        case first =>
          have hpx := HPR.out.below hB4
          obtain ⟨bt0, offt, ct, hve, hct, hbt, hatt⟩ := ((HCR.out.belowB (hB4.mono (Nat.le_of_lt HPR.out.lt))).now hpx.lt).at_ (by omega)
          have hpp := (hatt t hlt).pos
          rw [← tk_at hlt, ← HPS.out] at hpp
          subst hve
          have hbx4 := (hB4.cell (p := ⟨w.heap.size, 0, none⟩) hltr).trans hbox
          have hpc0 := hpx.c0
          have hpc1 := hpx.c1
          have hlx4 : w.heap.size < w4.heap.size := Nat.lt_of_lt_of_le hltr hB4.size
          have hgl4 := hpx.lt
          have HTW : Hid (∀ u : World, Calls Tryz.prog 139 #[.string (str (sg o))] u fun e w' => e = .returned (.int .i64 o) ∧ Below u.heap.size u w') := fun u => two_c o hop.1 hop.2 u
          have HSL := Lib.hid hjl
          clear hatt hct p0 p1 p2 p3 p4 pf1 pf2 pf3 pf4 pl hpx hbc3 hbs3 hbl3 hbox3 hbox hyes hne
          have hti0 : (0 : Int) ≤ (t : Int) := Int.natCast_nonneg _
          have hti1 : (t : Int) < (l.length : Int) := by omega
          have hn50 : (0 : Int) ≤ (n : Int) := Int.natCast_nonneg _
          have hn51 : (n : Int) < 5 := by omega
          have hj0 : (0 : Int) ≤ (j : Int) := Int.natCast_nonneg _
          have hj1 : (j : Int) < ((flS n).length : Int) := by omega
          clear hltr hlt hit htl hxl hop hjo HF HCX HPA HPR HCR HKR HNX HFR HRR HOP HFW HR
          refine wp_region_held_drew (S := fun w' => w'.cell? ⟨w.heap.size, 0, none⟩ = some (.pointer (some ⟨g, 0, none⟩)) ∧ w'.cell? ⟨g, 0, none⟩ = some (.slice (some ⟨bt0, offt, none⟩) l.length ct) ∧ w'.cell? ⟨g, 1, none⟩ = some (.int .i64 t) ∧ w'.cell? ⟨bt0, offt + t * 4 + 3, none⟩ = some (.int .i64 ps)) (by kernel_rfl) ⟨hbx4, hpc0, hpc1, hpp⟩ (fun hHeld => ?_)
          refine wpAnyH_take (i := 1) (v := ?_) rfl (by kernel_rfl) (by kernel_rfl) (by kernel_rfl) (fun _ _ _ h => h) (Or.inl ⟨by rfl, ?_⟩) (by assumption) ?_
          rotate_left
          · intro w0 hSw
            (try dsimp only at hSw)
            go_simp
            (try with_reducible rfl)
          (try simp only [Act.put, List.setIfInBounds_toArray])
          refine wpAnyH_take (i := 4) (v := ?_) rfl (by kernel_rfl) (by kernel_rfl) (by kernel_rfl) (fun _ _ _ h => h) (Or.inl ⟨by rfl, ?_⟩) (by assumption) ?_
          rotate_left
          · intro w0 hSw
            (try dsimp only at hSw)
            go_simp
            (try with_reducible rfl)
          (try simp only [Act.put])
          refine wpAnyH_take (i := 8) (v := ?_) rfl (by kernel_rfl) (by kernel_rfl) (by kernel_rfl) (fun _ _ _ h => h) (Or.inl ⟨by rfl, ?_⟩) (by assumption) ?_
          rotate_left
          · intro w0 hSw
            (try dsimp only at hSw)
            go_simp
            (try with_reducible rfl)
          (try simp only [Act.put])
          refine wpAnyH_take (i := 9) (v := ?_) rfl (by kernel_rfl) (by kernel_rfl) (by kernel_rfl) (fun _ _ _ h => h) (Or.inl ⟨by rfl, ?_⟩) (by assumption) ?_
          rotate_left
          · intro w0 hSw
            (try dsimp only at hSw)
            go_simp
            (try with_reducible rfl)
          (try simp only [Act.put])
          refine wpAnyH_take (i := 10) (v := ?_) rfl (by kernel_rfl) (by kernel_rfl) (by kernel_rfl) (fun _ _ _ h => h) (Or.inl ⟨by rfl, ?_⟩) (by assumption) ?_
          rotate_left
          · intro w0 hSw
            (try dsimp only at hSw)
            go_simp
            (try with_reducible rfl)
          (try simp only [Act.put])
          refine wpAnyH_take (i := 11) (v := ?_) rfl (by kernel_rfl) (by kernel_rfl) (by kernel_rfl) (fun _ _ _ h => h) (Or.inl ⟨by rfl, ?_⟩) (by assumption) ?_
          rotate_left
          · intro w0 hSw
            (try dsimp only at hSw)
            go_simp
            (try with_reducible rfl)
          (try simp only [Act.put])
          refine wpAnyH_take (i := 12) (v := ?_) rfl (by kernel_rfl) (by kernel_rfl) (by kernel_rfl) (fun _ _ _ h => h) (Or.inl ⟨by rfl, ?_⟩) (by assumption) ?_
          rotate_left
          · intro w0 hSw
            (try dsimp only at hSw)
            go_simp
            (try with_reducible rfl)
          (try simp only [Act.put])
          refine wpAnyH_take (i := 13) (v := ?_) rfl (by kernel_rfl) (by kernel_rfl) (by kernel_rfl) (fun _ _ _ h => h) (Or.inl ⟨by rfl, ?_⟩) (by assumption) ?_
          rotate_left
          · intro w0 hSw
            (try dsimp only at hSw)
            go_simp
            (try with_reducible rfl)
          (try simp only [Act.put])
          refine wpAnyH_take (i := 14) (v := ?_) rfl (by kernel_rfl) (by kernel_rfl) (by kernel_rfl) (fun _ _ _ h => h) (Or.inl ⟨by rfl, ?_⟩) (by assumption) ?_
          rotate_left
          · intro w0 hSw
            (try dsimp only at hSw)
            go_simp
            (try with_reducible rfl)
          (try simp only [Act.put])
          refine wpAnyH_take (i := 15) (v := ?_) rfl (by kernel_rfl) (by kernel_rfl) (by kernel_rfl) (fun _ _ _ h => h) (Or.inl ⟨by rfl, ?_⟩) (by assumption) ?_
          rotate_left
          · intro w0 hSw
            (try dsimp only at hSw)
            go_simp
            (try with_reducible rfl)
          (try simp only [Act.put])
          refine wpAnyH_take (i := 16) (v := ?_) rfl (by kernel_rfl) (by kernel_rfl) (by kernel_rfl) (fun _ _ _ h => h) (Or.inl ⟨by rfl, ?_⟩) (by assumption) ?_
          rotate_left
          · intro w0 hSw
            (try dsimp only at hSw)
            go_simp
            (try with_reducible rfl)
          (try simp only [Act.put])
          refine wpAnyH_take (i := 17) (v := ?_) rfl (by kernel_rfl) (by kernel_rfl) (by kernel_rfl) (fun _ _ _ h => h) (Or.inl ⟨by rfl, ?_⟩) (by assumption) ?_
          rotate_left
          · intro w0 hSw
            (try dsimp only at hSw)
            go_simp
            (try with_reducible rfl)
          (try simp only [Act.put])
          refine wpAnyH_take (i := 18) (v := ?_) rfl (by kernel_rfl) (by kernel_rfl) (by kernel_rfl) (fun _ _ _ h => h) (Or.inl ⟨by rfl, ?_⟩) (by assumption) ?_
          rotate_left
          · intro w0 hSw
            (try dsimp only at hSw)
            go_simp
            (try with_reducible rfl)
          (try simp only [Act.put])
          refine wpAnyH_ready (rs := [0, 20]) (by kernel_rfl) (by simp) ?_
          refine AllReadyH.cons rfl (fun K hK => ?_) ?_
          · go_simp
            refine (HFL.out _).mono ?_
            rintro e w5 ⟨b5, A5, c5, rfl, hbl5, hbf5, hsf5, hbc5, hbs5, hb5⟩
            dsimp only
            have hs1 : w.heap.size < (w4.drew).heap.size := hlx4
            have hs2 : g < (w4.drew).heap.size := hgl4
            have hs3 : bt0 < (w4.drew).heap.size := hbt
            have hk1 := (hb5.cell (p := ⟨w.heap.size, 0, none⟩) hs1).trans hHeld.1
            have hk2 := (hb5.cell (p := ⟨g, 0, none⟩) hs2).trans hHeld.2.1
            have hk3 := (hb5.cell (p := ⟨g, 1, none⟩) hs2).trans hHeld.2.2.1
            have hk4 := (hb5.cell (p := ⟨bt0, offt + t * 4 + 3, none⟩) hs3).trans hHeld.2.2.2
            refine hK.out _ _ ⟨hk1, hk2, hk3, hk4⟩ (fun hHeld2 => ?_)
            obtain ⟨bs, offs, cs, hVe, hcs, hbsl, hbsat⟩ := hbs5.at_ HLS.out.2
            cases hVe
            have hsf6 := hsf5 _ _ _ rfl
            have hk6 := hbsat j HSL.out
            rw [HSG.out] at hk6
            refine wpAnyH_weaken (S2 := fun w' => (w'.cell? ⟨w.heap.size, 0, none⟩ = some (.pointer (some ⟨g, 0, none⟩)) ∧ w'.cell? ⟨g, 0, none⟩ = some (.slice (some ⟨bt0, offt, none⟩) l.length ct) ∧ w'.cell? ⟨g, 1, none⟩ = some (.int .i64 t) ∧ w'.cell? ⟨bt0, offt + t * 4 + 3, none⟩ = some (.int .i64 ps)) ∧ w'.cell? ⟨b5, n, none⟩ = some (.slice (some ⟨bs, offs, none⟩) (flS n).length c5) ∧ w'.cell? ⟨bs, offs + j, none⟩ = some (.string (str (sg o)))) (fun w0 h => h.1) _ _ _ _ ?_
            have hHeld3 : (fun w' => (w'.cell? ⟨w.heap.size, 0, none⟩ = some (.pointer (some ⟨g, 0, none⟩)) ∧ w'.cell? ⟨g, 0, none⟩ = some (.slice (some ⟨bt0, offt, none⟩) l.length ct) ∧ w'.cell? ⟨g, 1, none⟩ = some (.int .i64 t) ∧ w'.cell? ⟨bt0, offt + t * 4 + 3, none⟩ = some (.int .i64 ps)) ∧ w'.cell? ⟨b5, n, none⟩ = some (.slice (some ⟨bs, offs, none⟩) (flS n).length c5) ∧ w'.cell? ⟨bs, offs + j, none⟩ = some (.string (str (sg o)))) w5 := ⟨⟨hk1, hk2, hk3, hk4⟩, hbc5, hk6⟩
            have hl1 := Nat.lt_of_lt_of_le hs1 hb5.size
            have hl2 := Nat.lt_of_lt_of_le hs2 hb5.size
            have hl3 := Nat.lt_of_lt_of_le hs3 hb5.size
            have hgs : (Value.string (str (sg o))) = Value.string (str (sg o)) := rfl
            clear hK K hHeld hHeld2 hk1 hk2 hk3 hk4 hbsat hbs5 hcs
            (try simp only [Act.put, List.setIfInBounds_toArray, List.set_cons_zero, List.set_cons_succ])
            refine wpAnyH_take (i := 2) (v := ?_) rfl (by kernel_rfl) (by kernel_rfl) (by kernel_rfl) (fun _ _ _ h => h) (Or.inl ⟨by rfl, ?_⟩) (by assumption) ?_
            rotate_left
            · intro w0 hSw
              (try dsimp only at hSw)
              go_simp
              (try with_reducible rfl)
            (try simp only [Act.put, List.setIfInBounds_toArray])
            refine wpAnyH_take (i := 3) (v := ?_) rfl (by kernel_rfl) (by kernel_rfl) (by kernel_rfl) (fun _ _ _ h => h) (Or.inl ⟨by rfl, ?_⟩) (by assumption) ?_
            rotate_left
            · intro w0 hSw
              (try dsimp only at hSw)
              go_simp
              (try with_reducible rfl)
            (try simp only [Act.put])
            refine wpAnyH_take (i := 5) (v := ?_) rfl (by kernel_rfl) (by kernel_rfl) (by kernel_rfl) (fun _ _ _ h => h) (Or.inl ⟨by rfl, ?_⟩) (by assumption) ?_
            rotate_left
            · intro w0 hSw
              (try dsimp only at hSw)
              go_simp
              (try with_reducible rfl)
            (try simp only [Act.put])
            refine wpAnyH_take (i := 6) (v := ?_) rfl (by kernel_rfl) (by kernel_rfl) (by kernel_rfl) (fun _ _ _ h => h) (Or.inl ⟨by rfl, ?_⟩) (by assumption) ?_
            rotate_left
            · intro w0 hSw
              (try dsimp only at hSw)
              go_simp
              (try with_reducible rfl)
            (try simp only [Act.put])
            refine wpAnyH_ready (rs := [7, 20]) (by kernel_rfl) (by simp) ?_
            refine AllReadyH.cons rfl (fun K hK => ?_) ?_
            · go_simp
              refine (HTW.out _).mono ?_
              rintro e w6 ⟨rfl, hb6⟩
              dsimp only
              have hHeld5 : (fun w' => (w'.cell? ⟨w.heap.size, 0, none⟩ = some (.pointer (some ⟨g, 0, none⟩)) ∧ w'.cell? ⟨g, 0, none⟩ = some (.slice (some ⟨bt0, offt, none⟩) l.length ct) ∧ w'.cell? ⟨g, 1, none⟩ = some (.int .i64 t) ∧ w'.cell? ⟨bt0, offt + t * 4 + 3, none⟩ = some (.int .i64 ps)) ∧ w'.cell? ⟨b5, n, none⟩ = some (.slice (some ⟨bs, offs, none⟩) (flS n).length c5) ∧ w'.cell? ⟨bs, offs + j, none⟩ = some (.string (str (sg o)))) w6 := ⟨⟨(hb6.cell (p := ⟨w.heap.size, 0, none⟩) hl1).trans hHeld3.1.1, (hb6.cell (p := ⟨g, 0, none⟩) hl2).trans hHeld3.1.2.1, (hb6.cell (p := ⟨g, 1, none⟩) hl2).trans hHeld3.1.2.2.1, (hb6.cell (p := ⟨bt0, offt + t * 4 + 3, none⟩) hl3).trans hHeld3.1.2.2.2⟩, (hb6.cell (p := ⟨b5, n, none⟩) hbl5).trans hHeld3.2.1, (hb6.cell (p := ⟨bs, offs + j, none⟩) hbsl).trans hHeld3.2.2⟩
              refine hK.out _ _ hHeld5 (fun _ => ?_)
              clear hK K
              (try simp only [Act.put, List.setIfInBounds_toArray, List.set_cons_zero, List.set_cons_succ])
              refine wpAnyH_take (i := 19) (v := ?_) rfl (by kernel_rfl) (by kernel_rfl) (by kernel_rfl) (fun _ _ _ h => h) (Or.inl ⟨by rfl, ?_⟩) (by assumption) ?_
              rotate_left
              · intro w0 hSw
                (try dsimp only at hSw)
                go_simp
                (try with_reducible rfl)
              (try simp only [Act.put, List.setIfInBounds_toArray])
              refine wpAnyH_ready (rs := [20]) (by kernel_rfl) (by simp) ?_
              refine AllReadyH.cons rfl (fun K hK => ?_) AllReadyH.nil
              go_simp
              have hb8 := al w6 (.cells #[.int .i64 0, .int .i64 0, .string ⟨#[]⟩, .int .i64 0] 33)
              have hHeld6 : (fun w' => (w'.cell? ⟨w.heap.size, 0, none⟩ = some (.pointer (some ⟨g, 0, none⟩)) ∧ w'.cell? ⟨g, 0, none⟩ = some (.slice (some ⟨bt0, offt, none⟩) l.length ct) ∧ w'.cell? ⟨g, 1, none⟩ = some (.int .i64 t) ∧ w'.cell? ⟨bt0, offt + t * 4 + 3, none⟩ = some (.int .i64 ps)) ∧ w'.cell? ⟨b5, n, none⟩ = some (.slice (some ⟨bs, offs, none⟩) (flS n).length c5) ∧ w'.cell? ⟨bs, offs + j, none⟩ = some (.string (str (sg o)))) (w6.alloc (.cells #[.int .i64 0, .int .i64 0, .string ⟨#[]⟩, .int .i64 0] 33)) := ⟨⟨(hb8.cell (p := ⟨w.heap.size, 0, none⟩) (Nat.lt_of_lt_of_le hl1 hb6.size)).trans hHeld5.1.1, (hb8.cell (p := ⟨g, 0, none⟩) (Nat.lt_of_lt_of_le hl2 hb6.size)).trans hHeld5.1.2.1, (hb8.cell (p := ⟨g, 1, none⟩) (Nat.lt_of_lt_of_le hl2 hb6.size)).trans hHeld5.1.2.2.1, (hb8.cell (p := ⟨bt0, offt + t * 4 + 3, none⟩) (Nat.lt_of_lt_of_le hl3 hb6.size)).trans hHeld5.1.2.2.2⟩, (hb8.cell (p := ⟨b5, n, none⟩) (Nat.lt_of_lt_of_le hbl5 hb6.size)).trans hHeld5.2.1, (hb8.cell (p := ⟨bs, offs + j, none⟩) (Nat.lt_of_lt_of_le hbsl hb6.size)).trans hHeld5.2.2⟩
              refine hK.out _ _ hHeld6 (fun _ => ?_)
              clear hK K
              (try simp only [Act.put, List.setIfInBounds_toArray, List.set_cons_zero, List.set_cons_succ])
              refine wpAnyH_ready (rs := [21]) (by kernel_rfl) (by simp) ?_
              refine AllReadyH.cons rfl (fun K hK => ?_) AllReadyH.nil
              go_simp
              have hb9 := al w6 (.cells #[.int .i64 o, .int .i64 0, .string ⟨#[]⟩, .int .i64 ps] 33)
              have hHeld7 : (fun w' => (w'.cell? ⟨w.heap.size, 0, none⟩ = some (.pointer (some ⟨g, 0, none⟩)) ∧ w'.cell? ⟨g, 0, none⟩ = some (.slice (some ⟨bt0, offt, none⟩) l.length ct) ∧ w'.cell? ⟨g, 1, none⟩ = some (.int .i64 t) ∧ w'.cell? ⟨bt0, offt + t * 4 + 3, none⟩ = some (.int .i64 ps)) ∧ w'.cell? ⟨b5, n, none⟩ = some (.slice (some ⟨bs, offs, none⟩) (flS n).length c5) ∧ w'.cell? ⟨bs, offs + j, none⟩ = some (.string (str (sg o)))) (w6.alloc (.cells #[.int .i64 o, .int .i64 0, .string ⟨#[]⟩, .int .i64 ps] 33)) := ⟨⟨(hb9.cell (p := ⟨w.heap.size, 0, none⟩) (Nat.lt_of_lt_of_le hl1 hb6.size)).trans hHeld5.1.1, (hb9.cell (p := ⟨g, 0, none⟩) (Nat.lt_of_lt_of_le hl2 hb6.size)).trans hHeld5.1.2.1, (hb9.cell (p := ⟨g, 1, none⟩) (Nat.lt_of_lt_of_le hl2 hb6.size)).trans hHeld5.1.2.2.1, (hb9.cell (p := ⟨bt0, offt + t * 4 + 3, none⟩) (Nat.lt_of_lt_of_le hl3 hb6.size)).trans hHeld5.1.2.2.2⟩, (hb9.cell (p := ⟨b5, n, none⟩) (Nat.lt_of_lt_of_le hbl5 hb6.size)).trans hHeld5.2.1, (hb9.cell (p := ⟨bs, offs + j, none⟩) (Nat.lt_of_lt_of_le hbsl hb6.size)).trans hHeld5.2.2⟩
              refine hK.out _ _ hHeld7 (fun _ => ?_)
              clear hK K
              (try simp only [Act.put, List.setIfInBounds_toArray, List.set_cons_zero, List.set_cons_succ])
              refine wpAnyH_done (by kernel_rfl) ?_ _
              go_wp2_with fail
              go_meet
              exact ⟨w6.heap.size, rfl, Nat.le_trans hb5.size hb6.size, Blk4.new _ _ _ _ _ _, bt (bt (bdr (Below.refl _ _)) hb5) (bt hb6 hb9)⟩
            · refine AllReadyH.cons rfl (fun K hK => ?_) AllReadyH.nil
              go_simp
              have hb8 := al w5 (.cells #[.int .i64 0, .int .i64 0, .string ⟨#[]⟩, .int .i64 0] 33)
              have hHeld6 : (fun w' => (w'.cell? ⟨w.heap.size, 0, none⟩ = some (.pointer (some ⟨g, 0, none⟩)) ∧ w'.cell? ⟨g, 0, none⟩ = some (.slice (some ⟨bt0, offt, none⟩) l.length ct) ∧ w'.cell? ⟨g, 1, none⟩ = some (.int .i64 t) ∧ w'.cell? ⟨bt0, offt + t * 4 + 3, none⟩ = some (.int .i64 ps)) ∧ w'.cell? ⟨b5, n, none⟩ = some (.slice (some ⟨bs, offs, none⟩) (flS n).length c5) ∧ w'.cell? ⟨bs, offs + j, none⟩ = some (.string (str (sg o)))) (w5.alloc (.cells #[.int .i64 0, .int .i64 0, .string ⟨#[]⟩, .int .i64 0] 33)) := ⟨⟨(hb8.cell (p := ⟨w.heap.size, 0, none⟩) hl1).trans hHeld3.1.1, (hb8.cell (p := ⟨g, 0, none⟩) hl2).trans hHeld3.1.2.1, (hb8.cell (p := ⟨g, 1, none⟩) hl2).trans hHeld3.1.2.2.1, (hb8.cell (p := ⟨bt0, offt + t * 4 + 3, none⟩) hl3).trans hHeld3.1.2.2.2⟩, (hb8.cell (p := ⟨b5, n, none⟩) hbl5).trans hHeld3.2.1, (hb8.cell (p := ⟨bs, offs + j, none⟩) hbsl).trans hHeld3.2.2⟩
              refine hK.out _ _ hHeld6 (fun _ => ?_)
              clear hK K
              (try simp only [Act.put, List.setIfInBounds_toArray, List.set_cons_zero, List.set_cons_succ])
              refine wpAnyH_ready (rs := [7]) (by kernel_rfl) (by simp) ?_
              refine AllReadyH.cons rfl (fun K hK => ?_) AllReadyH.nil
              go_simp
              refine (HTW.out _).mono ?_
              rintro e w6 ⟨rfl, hb6⟩
              dsimp only
              have hHeld5 : (fun w' => (w'.cell? ⟨w.heap.size, 0, none⟩ = some (.pointer (some ⟨g, 0, none⟩)) ∧ w'.cell? ⟨g, 0, none⟩ = some (.slice (some ⟨bt0, offt, none⟩) l.length ct) ∧ w'.cell? ⟨g, 1, none⟩ = some (.int .i64 t) ∧ w'.cell? ⟨bt0, offt + t * 4 + 3, none⟩ = some (.int .i64 ps)) ∧ w'.cell? ⟨b5, n, none⟩ = some (.slice (some ⟨bs, offs, none⟩) (flS n).length c5) ∧ w'.cell? ⟨bs, offs + j, none⟩ = some (.string (str (sg o)))) w6 := ⟨⟨(hb6.cell (p := ⟨w.heap.size, 0, none⟩) (Nat.lt_of_lt_of_le hl1 hb8.size)).trans hHeld6.1.1, (hb6.cell (p := ⟨g, 0, none⟩) (Nat.lt_of_lt_of_le hl2 hb8.size)).trans hHeld6.1.2.1, (hb6.cell (p := ⟨g, 1, none⟩) (Nat.lt_of_lt_of_le hl2 hb8.size)).trans hHeld6.1.2.2.1, (hb6.cell (p := ⟨bt0, offt + t * 4 + 3, none⟩) (Nat.lt_of_lt_of_le hl3 hb8.size)).trans hHeld6.1.2.2.2⟩, (hb6.cell (p := ⟨b5, n, none⟩) (Nat.lt_of_lt_of_le hbl5 hb8.size)).trans hHeld6.2.1, (hb6.cell (p := ⟨bs, offs + j, none⟩) (Nat.lt_of_lt_of_le hbsl hb8.size)).trans hHeld6.2.2⟩
              refine hK.out _ _ hHeld5 (fun _ => ?_)
              clear hK K
              (try simp only [Act.put, List.setIfInBounds_toArray, List.set_cons_zero, List.set_cons_succ])
              refine wpAnyH_take (i := 19) (v := ?_) rfl (by kernel_rfl) (by kernel_rfl) (by kernel_rfl) (fun _ _ _ h => h) (Or.inl ⟨by rfl, ?_⟩) (by assumption) ?_
              rotate_left
              · intro w0 hSw
                (try dsimp only at hSw)
                go_simp
                (try with_reducible rfl)
              (try simp only [Act.put, List.setIfInBounds_toArray])
              have hz := (Blk4.new w5 (.int .i64 0) (.int .i64 0) (.string ⟨#[]⟩) (.int .i64 0) 33).below hb6
              have HZ := Lib.hid hz
              obtain ⟨zl, z0, z1, z2, z3, zf0, zf1, zf2, zf3⟩ := hz
              refine wpAnyH_ready (rs := [21]) (by kernel_rfl) (by simp) ?_
              refine AllReadyH.cons rfl (fun K hK => ?_) AllReadyH.nil
              go_simp
              have hb9 := below_set4 (Below.refl w5.heap.size w6) (Nat.le_refl _) (.int .i64 o) (.int .i64 0) (.string ⟨#[]⟩) (.int .i64 ps)
              refine hK.out _ _ (⟨⟨(hb9.cell (p := ⟨w.heap.size, 0, none⟩) hl1).trans hHeld5.1.1, (hb9.cell (p := ⟨g, 0, none⟩) hl2).trans hHeld5.1.2.1, (hb9.cell (p := ⟨g, 1, none⟩) hl2).trans hHeld5.1.2.2.1, (hb9.cell (p := ⟨bt0, offt + t * 4 + 3, none⟩) hl3).trans hHeld5.1.2.2.2⟩, (hb9.cell (p := ⟨b5, n, none⟩) hbl5).trans hHeld5.2.1, (hb9.cell (p := ⟨bs, offs + j, none⟩) hbsl).trans hHeld5.2.2⟩) (fun _ => ?_)
              clear hK K
              (try simp only [Act.put, List.setIfInBounds_toArray, List.set_cons_zero, List.set_cons_succ])
              refine wpAnyH_done (by kernel_rfl) ?_ _
              go_wp2_with fail
              go_meet
              exact ⟨w5.heap.size, rfl, hb5.size, HZ.out.set _ _ _ _, below_set4 (bt (bt (bdr (Below.refl _ _)) hb5) (bt hb8 hb6)) hb5.size _ _ _ _⟩
          · refine AllReadyH.cons rfl (fun K hK => ?_) AllReadyH.nil
            have hb8 : Below w4.heap.size w4 ((w4.alloc (.cells #[.int .i64 0, .int .i64 0, .string ⟨#[]⟩, .int .i64 0] 33)).drew) := bdr (al _ _)
            have hl8 : w4.heap.size < ((w4.alloc (.cells #[.int .i64 0, .int .i64 0, .string ⟨#[]⟩, .int .i64 0] 33)).drew).heap.size := by show _ < (w4.alloc _).heap.size; rw [World.size_alloc]; omega
            have hZ1 : Blk4 ((w4.alloc (.cells #[.int .i64 0, .int .i64 0, .string ⟨#[]⟩, .int .i64 0] 33)).drew) w4.heap.size (.int .i64 0) (.int .i64 0) (.string ⟨#[]⟩) (.int .i64 0) := (Blk4.new w4 _ _ _ _ _).below (bdr (Below.refl _ _))
            have HZ1 := Lib.hid hZ1
            clear hZ1
            have hHA1 := (hb8.cell (p := ⟨w.heap.size, 0, none⟩) hlx4).trans hbx4
            have hHA2 := (hb8.cell (p := ⟨g, 0, none⟩) hgl4).trans hpc0
            have hHA3 := (hb8.cell (p := ⟨g, 1, none⟩) hgl4).trans hpc1
            have hHA4 := (hb8.cell (p := ⟨bt0, offt + t * 4 + 3, none⟩) hbt).trans hpp
            have HHA := Lib.hid (And.intro hHA1 (And.intro hHA2 (And.intro hHA3 hHA4)))
            clear hHA1 hHA2 hHA3 hHA4
            go_simp
            refine hK.out _ _ HHA.out (fun _ => ?_)
            clear hK K hHeld
            have hHeld := HHA.out
            (try simp only [Act.put, List.setIfInBounds_toArray, List.set_cons_zero, List.set_cons_succ])
            refine wpAnyH_ready (rs := [0]) (by kernel_rfl) (by simp) ?_
            refine AllReadyH.cons rfl (fun K hK => ?_) AllReadyH.nil
            go_simp
            refine (HFL.out _).mono ?_
            rintro e w5 ⟨b5, A5, c5, rfl, hbl5, hbf5, hsf5, hbc5, hbs5, hb5⟩
            dsimp only
            have hs1 : w.heap.size < ((w4.alloc (.cells #[.int .i64 0, .int .i64 0, .string ⟨#[]⟩, .int .i64 0] 33)).drew).heap.size := (Nat.lt_of_lt_of_le hlx4 hb8.size)
            have hs2 : g < ((w4.alloc (.cells #[.int .i64 0, .int .i64 0, .string ⟨#[]⟩, .int .i64 0] 33)).drew).heap.size := (Nat.lt_of_lt_of_le hgl4 hb8.size)
            have hs3 : bt0 < ((w4.alloc (.cells #[.int .i64 0, .int .i64 0, .string ⟨#[]⟩, .int .i64 0] 33)).drew).heap.size := (Nat.lt_of_lt_of_le hbt hb8.size)
            have hk1 := (hb5.cell (p := ⟨w.heap.size, 0, none⟩) hs1).trans hHeld.1
            have hk2 := (hb5.cell (p := ⟨g, 0, none⟩) hs2).trans hHeld.2.1
            have hk3 := (hb5.cell (p := ⟨g, 1, none⟩) hs2).trans hHeld.2.2.1
            have hk4 := (hb5.cell (p := ⟨bt0, offt + t * 4 + 3, none⟩) hs3).trans hHeld.2.2.2
            refine hK.out _ _ ⟨hk1, hk2, hk3, hk4⟩ (fun hHeld2 => ?_)
            obtain ⟨bs, offs, cs, hVe, hcs, hbsl, hbsat⟩ := hbs5.at_ HLS.out.2
            cases hVe
            have hsf6 := hsf5 _ _ _ rfl
            have hk6 := hbsat j HSL.out
            rw [HSG.out] at hk6
            refine wpAnyH_weaken (S2 := fun w' => (w'.cell? ⟨w.heap.size, 0, none⟩ = some (.pointer (some ⟨g, 0, none⟩)) ∧ w'.cell? ⟨g, 0, none⟩ = some (.slice (some ⟨bt0, offt, none⟩) l.length ct) ∧ w'.cell? ⟨g, 1, none⟩ = some (.int .i64 t) ∧ w'.cell? ⟨bt0, offt + t * 4 + 3, none⟩ = some (.int .i64 ps)) ∧ w'.cell? ⟨b5, n, none⟩ = some (.slice (some ⟨bs, offs, none⟩) (flS n).length c5) ∧ w'.cell? ⟨bs, offs + j, none⟩ = some (.string (str (sg o)))) (fun w0 h => h.1) _ _ _ _ ?_
            have hHeld3 : (fun w' => (w'.cell? ⟨w.heap.size, 0, none⟩ = some (.pointer (some ⟨g, 0, none⟩)) ∧ w'.cell? ⟨g, 0, none⟩ = some (.slice (some ⟨bt0, offt, none⟩) l.length ct) ∧ w'.cell? ⟨g, 1, none⟩ = some (.int .i64 t) ∧ w'.cell? ⟨bt0, offt + t * 4 + 3, none⟩ = some (.int .i64 ps)) ∧ w'.cell? ⟨b5, n, none⟩ = some (.slice (some ⟨bs, offs, none⟩) (flS n).length c5) ∧ w'.cell? ⟨bs, offs + j, none⟩ = some (.string (str (sg o)))) w5 := ⟨⟨hk1, hk2, hk3, hk4⟩, hbc5, hk6⟩
            have hl1 := Nat.lt_of_lt_of_le hs1 hb5.size
            have hl2 := Nat.lt_of_lt_of_le hs2 hb5.size
            have hl3 := Nat.lt_of_lt_of_le hs3 hb5.size
            have hgs : (Value.string (str (sg o))) = Value.string (str (sg o)) := rfl
            clear hK K hHeld hHeld2 hk1 hk2 hk3 hk4 hbsat hbs5 hcs
            (try simp only [Act.put, List.setIfInBounds_toArray, List.set_cons_zero, List.set_cons_succ])
            refine wpAnyH_take (i := 2) (v := ?_) rfl (by kernel_rfl) (by kernel_rfl) (by kernel_rfl) (fun _ _ _ h => h) (Or.inl ⟨by rfl, ?_⟩) (by assumption) ?_
            rotate_left
            · intro w0 hSw
              (try dsimp only at hSw)
              go_simp
              (try with_reducible rfl)
            (try simp only [Act.put, List.setIfInBounds_toArray])
            refine wpAnyH_take (i := 3) (v := ?_) rfl (by kernel_rfl) (by kernel_rfl) (by kernel_rfl) (fun _ _ _ h => h) (Or.inl ⟨by rfl, ?_⟩) (by assumption) ?_
            rotate_left
            · intro w0 hSw
              (try dsimp only at hSw)
              go_simp
              (try with_reducible rfl)
            (try simp only [Act.put])
            refine wpAnyH_take (i := 5) (v := ?_) rfl (by kernel_rfl) (by kernel_rfl) (by kernel_rfl) (fun _ _ _ h => h) (Or.inl ⟨by rfl, ?_⟩) (by assumption) ?_
            rotate_left
            · intro w0 hSw
              (try dsimp only at hSw)
              go_simp
              (try with_reducible rfl)
            (try simp only [Act.put])
            refine wpAnyH_take (i := 6) (v := ?_) rfl (by kernel_rfl) (by kernel_rfl) (by kernel_rfl) (fun _ _ _ h => h) (Or.inl ⟨by rfl, ?_⟩) (by assumption) ?_
            rotate_left
            · intro w0 hSw
              (try dsimp only at hSw)
              go_simp
              (try with_reducible rfl)
            (try simp only [Act.put])
            refine wpAnyH_ready (rs := [7]) (by kernel_rfl) (by simp) ?_
            refine AllReadyH.cons rfl (fun K hK => ?_) AllReadyH.nil
            go_simp
            refine (HTW.out _).mono ?_
            rintro e w6 ⟨rfl, hb6⟩
            dsimp only
            have hHeld5 : (fun w' => (w'.cell? ⟨w.heap.size, 0, none⟩ = some (.pointer (some ⟨g, 0, none⟩)) ∧ w'.cell? ⟨g, 0, none⟩ = some (.slice (some ⟨bt0, offt, none⟩) l.length ct) ∧ w'.cell? ⟨g, 1, none⟩ = some (.int .i64 t) ∧ w'.cell? ⟨bt0, offt + t * 4 + 3, none⟩ = some (.int .i64 ps)) ∧ w'.cell? ⟨b5, n, none⟩ = some (.slice (some ⟨bs, offs, none⟩) (flS n).length c5) ∧ w'.cell? ⟨bs, offs + j, none⟩ = some (.string (str (sg o)))) w6 := ⟨⟨(hb6.cell (p := ⟨w.heap.size, 0, none⟩) hl1).trans hHeld3.1.1, (hb6.cell (p := ⟨g, 0, none⟩) hl2).trans hHeld3.1.2.1, (hb6.cell (p := ⟨g, 1, none⟩) hl2).trans hHeld3.1.2.2.1, (hb6.cell (p := ⟨bt0, offt + t * 4 + 3, none⟩) hl3).trans hHeld3.1.2.2.2⟩, (hb6.cell (p := ⟨b5, n, none⟩) hbl5).trans hHeld3.2.1, (hb6.cell (p := ⟨bs, offs + j, none⟩) hbsl).trans hHeld3.2.2⟩
            refine hK.out _ _ hHeld5 (fun _ => ?_)
            clear hK K
            (try simp only [Act.put, List.setIfInBounds_toArray, List.set_cons_zero, List.set_cons_succ])
            refine wpAnyH_take (i := 19) (v := ?_) rfl (by kernel_rfl) (by kernel_rfl) (by kernel_rfl) (fun _ _ _ h => h) (Or.inl ⟨by rfl, ?_⟩) (by assumption) ?_
            rotate_left
            · intro w0 hSw
              (try dsimp only at hSw)
              go_simp
              (try with_reducible rfl)
            (try simp only [Act.put, List.setIfInBounds_toArray])
            have hz := (HZ1.out.below hb5).below hb6
            have HZ := Lib.hid hz
            obtain ⟨zl, z0, z1, z2, z3, zf0, zf1, zf2, zf3⟩ := hz
            have hq1 : w4.heap.size ≠ b5 := by have : ((w4.alloc (.cells #[.int .i64 0, .int .i64 0, .string ⟨#[]⟩, .int .i64 0] 33)).drew).heap.size ≤ b5 := hbf5; omega
            have hq2 : w4.heap.size ≠ bs := by have : ((w4.alloc (.cells #[.int .i64 0, .int .i64 0, .string ⟨#[]⟩, .int .i64 0] 33)).drew).heap.size ≤ bs := hsf6; omega
            refine wpAnyH_ready (rs := [21]) (by kernel_rfl) (by simp) ?_
            refine AllReadyH.cons rfl (fun K hK => ?_) AllReadyH.nil
            go_simp
            have hb9 := below_set4 (Below.refl w4.heap.size w6) (Nat.le_refl _) (.int .i64 o) (.int .i64 0) (.string ⟨#[]⟩) (.int .i64 ps)
            refine hK.out _ _ (⟨⟨(hb9.cell (p := ⟨w.heap.size, 0, none⟩) hlx4).trans hHeld5.1.1, (hb9.cell (p := ⟨g, 0, none⟩) hgl4).trans hHeld5.1.2.1, (hb9.cell (p := ⟨g, 1, none⟩) hgl4).trans hHeld5.1.2.2.1, (hb9.cell (p := ⟨bt0, offt + t * 4 + 3, none⟩) hbt).trans hHeld5.1.2.2.2⟩, (cell4_far _ hq1 _ _ _ _ _).trans hHeld5.2.1, (cell4_far _ hq2 _ _ _ _ _).trans hHeld5.2.2⟩) (fun _ => ?_)
            clear hK K
            (try simp only [Act.put, List.setIfInBounds_toArray, List.set_cons_zero, List.set_cons_succ])
            refine wpAnyH_done (by kernel_rfl) ?_ _
            go_wp2_with fail
            go_meet
            have hb5' : Below w4.heap.size w4 w5 := bt hb8 hb5
            exact ⟨w4.heap.size, rfl, Nat.le_refl _, HZ.out.set _ _ _ _, below_set4 (bt hb5' hb6) (Nat.le_refl _) _ _ _ _⟩
        case rest =>
          obtain ⟨hb, rfl, hhb, hblk, hbx⟩ := hcut
          have hBx := bt hB4 hbx
          have HPX : Hid (Par wc g v t d 0 0) := HPR.out.below hBx
          have HCXX : Hid (Ctx g v l wc) := HCR.out.belowB (hBx.mono (Nat.le_of_lt pl))
          have HKX : Hid (Keep g w wc) := HKR.out.trans (Keep.of hBx)
          have HBK := Lib.hid hblk
          have HNXX : Hid (Nods wc (.slice A mm c) x.flat) := SlN.below HNX.out.nods hBx
          have HHB : Hid (hb < wc.heap.size ∧ hb ≠ g) := ⟨hblk.lt, by have := hB4.size; omega⟩
          have HBXN : Hid (w.heap.size ≠ g) := by show _ ≠ _; omega
          have HLTX : Hid (w.heap.size < wc.heap.size ∧ wc.cell? ⟨w.heap.size, 0, none⟩ = some (.pointer (some ⟨g, 0, none⟩))) := ⟨Nat.lt_of_lt_of_le hltr hBx.size, (hBx.cell (p := ⟨w.heap.size, 0, none⟩) hltr).trans hbox⟩
          have HY : Hid (∀ u, Par u g v ((t : Int) + 1) d 0 0 → Ctx g v l u → Calls Tryz.prog 128 #[.pointer (some ⟨g, 0, none⟩), .int .i64 ((n : Int) + 1)] u (PPost l g v (t + 1) d k (flR (prR l kk) l m (t + 1)) u)) := fun u h1 h2 => HF.out (t + 1) u h1 h2
          have hgood := HFW.out.good (t + 1)
          have hbadd := HFW.out.bad (t + 1)
          have HGD : Hid (∀ y t2, flR (prR l kk) l m (t + 1) = .inl (y, t2) → y.flat.length ≤ l.length - (t + 1)) := fun y t2 h => by have := hgood y t2 h; omega
          have HL1 : Hid (1 + x.flat.length ≤ maxLen ∧ (1 + x.flat.length) * 40 ≤ 140737488355328) := by show _ ∧ _; unfold maxLen; constructor <;> omega
          have HL2 : Hid (∀ q, q ≤ l.length - (t + 1) → 1 + x.flat.length + q ≤ maxLen ∧ (1 + x.flat.length + q) * 40 ≤ 140737488355328) := fun q h => by unfold maxLen; constructor <;> omega
          obtain ⟨ql, q0, q1, q2, q3, qf0, qf1, qf2, qf3⟩ := hblk
          have hbox := HLTX.out.2
          clear p0 p1 p2 p3 p4 pl pf1 pf2 pf3 pf4
          obtain ⟨pl, p0, p1, p2, p3, p4, pf1, pf2, pf3, pf4⟩ := HPX.out
          have hne1 := HHB.out.2
          have hne2 := Ne.symm HHB.out.2
          have hne3 := HBXN.out
          have hne4 := Ne.symm HBXN.out
          have ht1 : (t : Int) < 100000 := by omega
          clear hbx hhb hBx hB4 hb4 hb3 hbox3 hlt3 hbc3 hbs3 hbl3 hyes
          go_upto_region 11 with (first
            | (go_at_call 128; refine (HY.out _ ((HPX.out).set1 _) (HCXX.out.keep ((Keep.refl g wc).set _ _) HPX.out.lt)).mono ?_; rintro e w5 ⟨hk5, A5, n5, c5, a5, e5, p5', rfl, hp5, hf5, hv5⟩; have HP5 := Lib.hid hp5; have hkx : Keep g wc w5 := ((Keep.refl g wc).set 1 (.int .i64 ((t : Int) + 1))).trans hk5; have hblk5 := (HBK.out).keep hkx HHB.out.2; clear q0 q1 q2 q3 ql qf0 qf1 qf2 qf3; obtain ⟨ql, q0, q1, q2, q3, qf0, qf1, qf2, qf3⟩ := hblk5; have hbox5 := keep_cell hkx HBXN.out HLTX.out.1 HLTX.out.2; obtain ⟨ny, hny, hnylen, hnyle⟩ := hv5.nods HGD.out; clear p0 p1 p2 p3 p4 pl pf1 pf2 pf3 pf4; obtain ⟨pl, p0, p1, p2, p3, p4, pf1, pf2, pf3, pf4⟩ := hp5)
            | (at_builtin; refine wpl_app rfl _ _ 29 rfl w5.heap.size 33 i0 _ 4 40 Tryz.underlying29 hi0 hz0 hz1 hz2 rfl (by decide) (.slice (some ⟨w5.heap.size, 0, none⟩) 1 1) 1 (Nod.cells ⟨o, 0, [], ps⟩) rfl (own_at w5 ⟨o, 0, [], ps⟩ _ w5.heap.size rfl (Nat.le_refl _)) (.slice A mm c) x.flat.length (x.flat.flatMap Nod.cells) rfl ((SlN.keep HNXX.out HFR.out (Nat.lt_succ_of_lt hwl) hkx).below (al _ _)) (nod_one _) (HL1.out).1 (HL1.out).2 (al w5 _).size ?_; intro v6 w6 hown6 hb6; obtain ⟨A6, c6, rfl⟩ := own_shape hown6)
            | (at_builtin; refine wpl_app rfl _ _ 29 rfl w5.heap.size 33 i0 _ 4 40 Tryz.underlying29 hi0 hz0 hz1 hz2 rfl (by decide) (.slice A6 (1 + x.flat.length) c6) (1 + x.flat.length) (Nod.cells ⟨o, 0, [], ps⟩ ++ x.flat.flatMap Nod.cells) rfl hown6 (.slice A5 n5 c5) ny.length (ny.flatMap Nod.cells) rfl (hny.below (btB (al _ _) hb6 (Nat.le_refl _))) (nod_one _) (HL2.out _ hnylen).1 (HL2.out _ hnylen).2 (Nat.le_trans (al w5 _).size hb6.size) ?_; intro v7 w7 hown7 hb7; obtain ⟨A7, c7, rfl⟩ := own_shape hown7))
          have hB7 : Below w5.heap.size w5 w7 := btB (btB (al _ _) hb6 (Nat.le_refl _)) hb7 (Nat.le_refl _)
          have hz := own_cons2 hown7
          have hw5 : w.heap.size < w5.heap.size := Nat.lt_of_lt_of_le HLTX.out.1 hkx.size
          have hKF : Keep g w w7 := (HKX.out.trans hkx).thenB (hB7.mono (Nat.le_of_lt hw5))
          have hPF := HP5.out.below hB7
          have hFF := hz.2.mono hw5
          have hnd : ({ op := (o : Int), n := 0, name := [], pos := ps } : Nod) = ⟨opAt n l t, 0, [], (tk l t).pos⟩ := by rw [HOP.out, HPS.out]
          have hvF := next_post (nd := ⟨o, 0, [], ps⟩) hit hlt hxl hv5 hnylen hnyle hz.1
          cases hn2 : ((n : Int) == 2)
          · have hnn : n ≠ 2 := fun e => by subst e; simp at hn2
            have hRn : Hid (R = contR (flR (prR l kk) l m) n l (nextR ⟨o, 0, [], ps⟩ x (flR (prR l kk) l m (t + 1)))) := by
              show _ = _
              rw [hnd]
              exact HRR.out.trans (next_R HFW.out hne hnn)
            have HNE := Lib.hid hnd
            have HVF := Lib.hid hvF
            have hgg : Hid (∀ y t', nextR ⟨o, 0, [], ps⟩ x (flR (prR l kk) l m (t + 1)) = .inl (y, t') → i < t' ∧ t' ≤ l.length ∧ y.flat.length ≤ t' - i ∧ t < t') := fun y t' h => by
              cases hy : flR (prR l kk) l m (t + 1) with
              | inl q =>
                obtain ⟨y2, t3⟩ := q
                rw [hy] at h
                have := hgood _ _ hy
                cases h
                refine ⟨by omega, this.2.1, ?_, by omega⟩
                simp only [Ex.flat, List.length_cons, List.length_append]; omega
              | inr e => rw [hy] at h; cases h
            have hbb : Hid (∀ e p, nextR ⟨o, 0, [], ps⟩ x (flR (prR l kk) l m (t + 1)) = .inr (e, p) → 1 ≤ e) := fun e p h => by
              cases hy : flR (prR l kk) l m (t + 1) with
              | inl q => rw [hy] at h; cases h
              | inr q =>
                obtain ⟨e2, p2⟩ := q
                rw [hy] at h
                cases h
                exact (hbadd _ _ hy).1
            have HPF := Lib.hid hPF
            have HM1 : Hid (wr.cell? ⟨g, 1, none⟩ = some (.int .i64 t)) := HPR.out.c1
            have HM3 : Hid (wr.cell? ⟨g, 3, none⟩ = some (.int .i64 0)) := HPR.out.c3
            clear hvF hnd hgood hbadd hPF p0 p1 p2 p3 p4 pf1 pf2 pf3 pf4 q0 q1 q2 q3
            go_wp2_with fail
            go_roundw
            case rel =>
              exact ⟨hKF, (hB7.cell (p := ⟨w.heap.size, 0, none⟩) hw5).trans hbox5, Nat.lt_of_lt_of_le hw5 hB7.size, A7, _, c7, a5, e5, p5', _, rfl, HPF.out, hFF, HVF.out, hRn.out, fun y t' h => ⟨(hgg.out y t' h).1, (hgg.out y t' h).2.1, (hgg.out y t' h).2.2.1⟩, hbb.out⟩
            case measure =>
              rw [HM1.out, HM3.out, HPF.out.c1, HPF.out.c3]
              have hv := HVF.out
              generalize hq : nextR ⟨o, 0, [], ps⟩ x (flR (prR l kk) l m (t + 1)) = q at hv hgg hbb
              cases q with
              | inl z =>
                obtain ⟨y, t'⟩ := z
                obtain ⟨ha, he, _, _⟩ := hv
                have := hgg.out y t' rfl
                subst ha he
                simp [intOf]
                omega
              | inr z =>
                obtain ⟨e2, p2⟩ := z
                obtain ⟨he, _⟩ := hv
                have := hbb.out e2 p2 rfl
                have h0 : ¬ e5 = 0 := by omega
                simp [intOf, h0]
                omega
          · have hnn : n = 2 := by have := eq_of_beq hn2; omega
            have hRn : Hid (R = nextR ⟨o, 0, [], ps⟩ x (flR (prR l kk) l m (t + 1))) := by
              show _ = _
              rw [hnd]
              exact HRR.out.trans (next_R2 HFW.out hne hnn)
            go_wp2_with fail
            go_ret
            rw [hRn.out]
            exact ⟨hKF, A7, _, c7, a5, e5, p5', rfl, hPF, hFF.mono (Nat.le_succ _), hvF⟩
end Go.Proofs.YtaoeaaebafcegaaGreatDoor
namespace Go.Proofs.YtaoeaaebafcegaaGreatDoor
open Go Go.RowKit
set_option linter.unusedVariables false
theorem oneS_c (g bb:Nat) (u:World) (hbox:u.cell? ⟨bb,0,none⟩=some (.pointer (some ⟨g,0,none⟩))) {l:List Tok} {v:Value} {i:Nat} {d:Int} {k:Nat} {r:Res}
 (HF:Calls Tryz.prog 128 #[.pointer (some ⟨g,0,none⟩),.int .i64 0] u (PPost l g v i d k r u)) :
 Calls Tryz.prog 149 #[.pointer (some ⟨bb,0,none⟩)] u (PPost l g v i d k r u):=by
 have H:=Lib.hid HF
 clear HF
 go_enter Tryz.func149,Tryz.ntmps149
 go_wp2_with (go_at_call 128;refine (H.out).mono ?_;rintro e w2 ⟨hk2,A,n,c,a,e1,p1,rfl,h2⟩)
 go_ret
 exact ⟨hk2,A,n,c,a,e1,p1,rfl,h2⟩
theorem floor_c (l : List Tok) (hl : l.length ≤ 100000) (g : Nat) (v : Value) (d : Int) (kk k : Nat)
    (HO : ∀ (i : Nat) u, Par u g v i d 0 0 → Ctx g v l u → Calls Tryz.prog 136 #[.pointer (some ⟨g, 0, none⟩)] u (PPost l g v i d k (prR l kk i) u)) :
    ∀ (m n : Nat), m + n = 5 → ∀ (i : Nat) u, Par u g v i d 0 0 → Ctx g v l u → Calls Tryz.prog 128 #[.pointer (some ⟨g, 0, none⟩), .int .i64 n] u (PPost l g v i d k (flR (prR l kk) l m i) u)
  | 0, n, hn, i, u, hp, hc => by
    obtain rfl : n = 5 := by omega
    exact floor_zero l g v i d kk k u hp hc (fun u h1 h2 => HO i u h1 h2)
  | m + 1, n, hn, i, u, hp, hc =>
    floor_succ l hl g v i d kk k m n hn u hp hc (fun i u h1 h2 => floor_c l hl g v d kk k HO m (n + 1) (by omega) i u h1 h2)
theorem one_c (l : List Tok) (hl : l.length ≤ 100000) (htx : ∀ t ∈ l, t.text.length ≤ 1000000) (g : Nat) (v : Value) :
    ∀ (kk d : Nat), d + kk = 12 → ∀ (i : Nat) u, Par u g v i d 0 0 → Ctx g v l u → Calls Tryz.prog 136 #[.pointer (some ⟨g, 0, none⟩)] u (PPost l g v i d (kk + 1) (prR l kk i) u)
  | 0, d, hd, i, u, hp, hc => by
    obtain rfl : d = 12 := by omega
    by_cases hi : i < l.length
    · cases h33 : isE l i [33]
      · cases h45 : isE l i [45]
        · cases h40 : isE l i [40]
          · have e : prR l 0 i = baseR l i := by rw [prR, if_neg (by omega), if_neg (by unfold unE opE; rw [h33, h45, h40]; decide)]
            rw [e]
            exact one_base l hl htx g v i _ u hp hc hi _ h33 h45 h40
          · have e : prR l 0 i = openR l (.inr (7, placeE l i)) := by rw [prR, if_neg (by omega), if_pos (by unfold unE opE; rw [h33, h45, h40]; decide)]; rfl
            rw [e]
            exact one_open l hl g v i _ u hp hc hi 1 0 (by omega) (by omega) h33 h45 h40 _ (fun _ _ h => by cases h) (fun _ _ h => by cases h; decide)
              (fun W hk hpW hb => within_deep_fl l hl g v i u.heap.size W hpW (hc.keep hk hp.lt) hi 0 (i + 1))
        · have e : prR l 0 i = unR ⟨if false then 4 else 3, 0, [], (tk l i).pos⟩ (.inr (7, placeE l i)) := by rw [prR, if_neg (by omega), if_pos (by unfold unE opE; rw [h33, h45]; rfl)]; rfl
          rw [e]
          exact one_un l hl g v i _ u hp hc hi 1 0 (by omega) false h33 h45 _ (fun _ _ h => by cases h) (fun W hk hpW => within_deep_one l hl g v i W hpW (hc.keep hk hp.lt) hi 0 (i + 1))
      · have e : prR l 0 i = unR ⟨if true then 4 else 3, 0, [], (tk l i).pos⟩ (.inr (7, placeE l i)) := by rw [prR, if_neg (by omega), if_pos (by unfold unE opE; rw [h33]; rfl)]; rfl
        rw [e]
        exact one_un l hl g v i _ u hp hc hi 1 0 (by omega) true h33 (isE_un h33).1 _ (fun _ _ h => by cases h) (fun W hk hpW => within_deep_one l hl g v i W hpW (hc.keep hk hp.lt) hi 0 (i + 1))
    · rw [prR_out (by omega)]
      exact one_out l hl g v i _ u hp hc (by omega) _
  | kk + 1, d, hd, i, u, hp, hc => by
    have IH := one_c l hl htx g v kk (d + 1) (by omega)
    have hfp := prR_fwd l kk
    have hff := flR_fwd hfp 5
    by_cases hi : i < l.length
    · have hunE : ∀ nd : Nod, (nd = ⟨if (tk l i).text = [45] then 3 else 4, 0, [], (tk l i).pos⟩) → unE l i = true → prR l (kk + 1) i = unR nd (prR l kk (i + 1)) := fun nd hnd hun => by
        subst hnd
        rw [prR, if_neg (by omega), if_pos hun]
        cases prR l kk (i + 1) <;> rfl
      cases h33 : isE l i [33]
      · cases h45 : isE l i [45]
        · cases h40 : isE l i [40]
          · have e : prR l (kk + 1) i = baseR l i := by rw [prR, if_neg (by omega), if_neg (by unfold unE; rw [h33, h45]; decide), if_neg (by unfold opE; rw [h40]; decide)]
            rw [e]
            exact one_base l hl htx g v i _ u hp hc hi _ h33 h45 h40
          · have e : prR l (kk + 1) i = openR l (flR (prR l kk) l 5 (i + 1)) := by
              rw [prR, if_neg (by omega), if_neg (by unfold unE; rw [h33, h45]; decide), if_pos (show opE l i = true from h40)]
              cases flR (prR l kk) l 5 (i + 1) <;> rfl
            rw [e]
            refine one_open l hl g v i _ u hp hc hi (kk + 2) (kk + 1) (by omega) (by omega) h33 h45 h40 _ (fun x t h => (hff.good _ _ _ h).2.1) (fun e p h => (hff.bad _ _ _ h).1) (fun W hk hpW hb => ?_)
            have hbl : u.heap.size < W.heap.size := World.block_lt_of_cell? W _ hb
            refine within_fl l hl g v i d (by omega) u.heap.size W hpW hi (kk + 1) _ (fun u2 hk2 hp2 => ?_)
            refine oneS_c g u.heap.size u2 (keep_cell hk2 (by have := hp.lt; omega) hbl hb) ?_
            exact floor_c l hl g v _ kk (kk + 1) (fun i u h1 h2 => IH i u h1 h2) 5 0 rfl (i + 1) u2 hp2 ((hc.keep hk hp.lt).keep hk2 hpW.lt)
        · rw [hunE ⟨if false then 4 else 3, 0, [], (tk l i).pos⟩ (by rw [(isE_text h45).1]; rfl) (by unfold unE; rw [h33, h45]; rfl)]
          refine one_un l hl g v i _ u hp hc hi (kk + 2) (kk + 1) (by omega) false h33 h45 _ (fun x t h => by have := hfp.good _ _ _ h; omega) (fun W hk hpW => ?_)
          exact within_one l hl g v i d (by omega) W hpW hi (kk + 1) _ (fun u2 hk2 hp2 => IH (i + 1) u2 hp2 ((hc.keep hk hp.lt).keep hk2 hpW.lt))
      · rw [hunE ⟨if true then 4 else 3, 0, [], (tk l i).pos⟩ (by rw [(isE_text h33).1]; rfl) (by unfold unE; rw [h33]; rfl)]
        refine one_un l hl g v i _ u hp hc hi (kk + 2) (kk + 1) (by omega) true h33 (isE_un h33).1 _ (fun x t h => by have := hfp.good _ _ _ h; omega) (fun W hk hpW => ?_)
        exact within_one l hl g v i d (by omega) W hpW hi (kk + 1) _ (fun u2 hk2 hp2 => IH (i + 1) u2 hp2 ((hc.keep hk hp.lt).keep hk2 hpW.lt))
    · rw [prR_out (by omega)]
      exact one_out l hl g v i _ u hp hc (by omega) _
theorem parse0_c (l:List Tok) (hl:l.length≤100000) (htx:∀ t∈l,t.text.length≤1000000) (g:Nat) (v:Value) (i:Nat) (u:World) (hp:Par u g v i 0 0 0) (hc:Ctx g v l u) :
 Calls Tryz.prog 128 #[.pointer (some ⟨g,0,none⟩),.int .i64 0] u (PPost l g v i 0 13 (flR (prR l 12) l 5 i) u) :=
 floor_c l hl g v 0 12 13 (fun i u h1 h2=>one_c l hl htx g v 12 0 rfl i u h1 h2) 5 0 rfl i u hp hc
theorem deep_n (l : List Nod) (v : Value) (w : World) (h : Nods w v l) (hl : l.length ≤ 100000) : ∀ (N : Nat) (e : Ex) (i : Nat), e.flat.length ≤ N → e.ok → AtE l i e →
    Calls Tryz.prog 91 #[v, .int .i64 i] w fun r w' => r = .returned (.int .i64 e.deep) ∧ w = w'
  | 0, e, i, hN, ho, ha => by have := e.flat_pos; omega
  | N + 1, e, i, hN, ho, ha => by
    have hil := ha.lt
    have hle := ha.le
    have hd := e.deep_le
    have IH : Hid (∀ j (hj : j < e.ks.length), Calls Tryz.prog 91 #[v, .int .i64 (posK i e.ks j)] w fun r w' => r = .returned (.int .i64 ((e.ks[j]).deep : Int)) ∧ w = w') := fun j hj =>
      deep_n l v w h hl N (e.ks[j]) (posK i e.ks j) (by have := AtE.kid_lt j hj; omega) (e.ok_ks ho _ (List.getElem_mem hj)) (ha.kid j hj)
    have HE : Hid (∀ j (hj : j < e.ks.length), Calls Tryz.prog 90 #[v, .int .i64 (posK i e.ks j)] w fun r w' => r = .returned (.int .i64 (posK i e.ks (j + 1) : Int)) ∧ w = w') := fun j hj => by
      have := rend_c l v w h hl (posK i e.ks j)
      rw [(ha.kid j hj).fin (e.ok_ks ho _ (List.getElem_mem hj)), ← posK_succ i e.ks j hj] at this
      exact this
    have HPB : Hid (∀ j (hj : j < e.ks.length), (e.ks[j]).deep ≤ 100000) := fun j hj => by
      have h1 := (e.ks[j]).deep_le; have h2 := AtE.kid_lt j hj; omega
    obtain ⟨b, off, c, rfl, hc, hbl, hat⟩ := h.at_ (by omega)
    have ht := (hat i hil).op
    rw [ha.top] at ht
    have hk := e.kids_ks ho
    have HM : Hid (∀ u, Calls Tryz.prog 110 #[.int .i64 e.top.op] u fun r w' => r = .returned (.int .i64 (e.ks.length : Int)) ∧ u = w') := fun u => by rw [← hk]; exact kids_c _ u
    have HD := Lib.hid e.deep_ks
    have hk2 := e.ks_len
    have hds : e.deep ≤ 100000 := by omega
    clear hat h hk ho ha hd
    go_enter Tryz.func91, Tryz.ntmps91
    go_wp2_with fail
    go_loop [5, 6, 7] (fun n a k => ∃ j : Nat, j ≤ e.ks.length ∧ n = .int .i64 (maxK e.ks j : Int) ∧ a = .int .i64 (posK i e.ks j : Int) ∧ k = .int .i64 j) (fun _ _ k => 2 - (intOf k).toNat)
    case atStart => exact ⟨0, Nat.zero_le _, rfl, by rw [posK_zero]; go_num, rfl⟩
    case round =>
      obtain ⟨j, hj, rfl, rfl, rfl⟩ := hrel
      by_cases hjl : j < e.ks.length
      · have HS := Lib.hid (maxK_succ e.ks j hjl)
        have HI := Lib.hid (IH.out j hjl)
        have HEE := Lib.hid (HE.out j hjl)
        have hb1 := HPB.out j hjl
        generalize hdd : (e.ks[j]).deep = dd at HS HI hb1
        clear hdd
        go_wp2_with (first
          | (go_at_call 110; refine (HM.out _).mono ?_; rintro r w' ⟨rfl, rfl⟩)
          | (go_at_call 91; refine (HI.out).mono ?_; rintro r w' ⟨rfl, rfl⟩)
          | (go_at_call 90; refine (HEE.out).mono ?_; rintro r w' ⟨rfl, rfl⟩))
        go_round
        case rel =>
          refine ⟨j + 1, by omega, ?_, rfl, by go_num⟩
          rw [HS.out]
          congr 1
          first | omega | (split <;> omega)
        case measure => simp [intOf]; omega
      · have hje : j = e.ks.length := by omega
        have hds2 : (maxK e.ks e.ks.length : Int) < 100000 := by have := HD.out; omega
        go_wp2_with (go_at_call 110; refine (HM.out _).mono ?_; rintro r w' ⟨rfl, rfl⟩)
        go_ret
        exact ⟨ret_int (by rw [HD.out]; go_num), rfl⟩
theorem rdeep_c (e:Ex) (ho:e.ok) (v:Value) (w:World) (h:Nods w v e.flat) (hl:e.flat.length≤100000) :
 Calls Tryz.prog 91 #[v,.int .i64 0] w fun r w'=>r = .returned (.int .i64 e.deep)∧w=w':=deep_n e.flat v w h hl _ e 0 (Nat.le_refl _) ho (AtE.whole e)
end Go.Proofs.YtaoeaaebafcegaaGreatDoor
namespace Go.Proofs.YtaoeaaebafcegaaGreatDoor
open Go Go.RowKit
set_option linter.unusedVariables false
theorem info_int:(Tryz.prog.info? 3).map (fun i=>(i.zero,i.size,i.bytes))=some (some (.int .i64 0),1,8):=by kernel_rfl
theorem und_ints:Tryz.prog.underlying 114 = some (.slice 3):=by kernel_rfl
theorem int_one (l:List Nat):∀ u∈l.flatMap intCell,u.oneCell' = true:=by
 intro u hu
 obtain ⟨x,_,hx⟩:=List.mem_flatMap.1 hu
 simp only [intCell,List.mem_cons,List.not_mem_nil,or_false] at hx
 subst hx;rfl
def posL (i:Nat) (es:List Ex) (j:Nat):List Nat:=(List.range j).map (posK i es)
theorem posL_succ (i:Nat) (es:List Ex) (j:Nat):posL i es (j+1)=posL i es j++[posK i es j]:=by
 unfold posL;rw [List.range_succ,List.map_append];rfl
theorem posL_len (i:Nat) (es:List Ex) (j:Nat):(posL i es j).length=j:=by simp [posL]
theorem posL_at (i:Nat) (es:List Ex) (c j:Nat) (h:j < (posL i es c).length):(posL i es c)[j] = posK i es j:=by simp [posL]
theorem own_nil (w:World) (base:Nat) (e:TypeId) (size:Nat):w.ownsRow base e size (.slice none 0 0) 0 []:=⟨by simp,.inl ⟨rfl,rfl⟩⟩
theorem operands_c (l : List Nod) (v : Value) (w : World) (h : Nods w v l) (hl : l.length ≤ 100000) (e : Ex) (i : Nat) (ho : e.ok) (ha : AtE l i e) :
    Calls Tryz.prog 109 #[v, .int .i64 i] w fun r w' => ∃ A c, r = .returned (.slice A e.ks.length c) ∧ Ints w' (.slice A e.ks.length c) (posL i e.ks e.ks.length) ∧ Below w.heap.size w w' := by
  obtain ⟨i0, hi0, hz0, hz1, hz2⟩ := info_parts info_int
  have hil := ha.lt
  have hle := ha.le
  have HE : Hid (∀ j (hj : j < e.ks.length) u, Below w.heap.size w u → Calls Tryz.prog 87 #[v, .int .i64 (posK i e.ks j)] u fun r w' => r = .returned (.int .i64 (posK i e.ks (j + 1) : Int)) ∧ u = w') := fun j hj u hu => by
    have := end_c l v u (h.below hu) hl (posK i e.ks j)
    rw [(ha.kid j hj).fin (e.ok_ks ho _ (List.getElem_mem hj)), ← posK_succ i e.ks j hj] at this
    exact this
  obtain ⟨b, off, c, rfl, hc, hbl, hat⟩ := h.at_ (by omega)
  have ht := (hat i hil).op
  rw [ha.top] at ht
  have hk := e.kids_ks ho
  have HM : Hid (∀ u, Calls Tryz.prog 108 #[.int .i64 e.top.op] u fun r w' => r = .returned (.int .i64 (e.ks.length : Int)) ∧ u = w') := fun u => by rw [← hk]; exact many_c _ u
  have hk2 := e.ks_len
  clear hat h hk ho ha
  go_enter Tryz.func109, Tryz.ntmps109
  go_wp2_with (go_at_call 108; refine (HM.out _).mono ?_; rintro r w' ⟨rfl, rfl⟩)
  go_loopw [5, 6, 15] (fun out at_ k wr => ∃ j : Nat, j ≤ e.ks.length ∧ k = .int .i64 j ∧ at_ = .int .i64 (posK i e.ks j : Int) ∧ (∃ A c, out = .slice A j c) ∧ wr.ownsRow w.heap.size 3 1 out j ((posL i e.ks j).flatMap intCell) ∧ Below w.heap.size w wr) (fun _ _ k _ => 2 - (intOf k).toNat)
  case atStart => exact ⟨0, Nat.zero_le _, rfl, by rw [posK_zero]; go_num, ⟨none, 0, rfl⟩, own_nil _ _ _ _, Below.refl _ _⟩
  case round =>
    obtain ⟨j, hj, rfl, rfl, ⟨A, cc, rfl⟩, hown, hb⟩ := hrel
    by_cases hjl : j < e.ks.length
    · have HEE := Lib.hid (HE.out j hjl)
      have HP := Lib.hid (posL_succ i e.ks j)
      have HOWN := Lib.hid hown
      have HB := Lib.hid hb
      clear hown hb
      have HSZ := Lib.hid HB.out.size
      have T1 : Hid ((wr.alloc (.cells #[.int .i64 (posK i e.ks j)] 3)).ownsRow w.heap.size 3 1 (.slice A j cc) j ((posL i e.ks j).flatMap intCell)) := (own_below HOWN.out (al _ _))
      have T2 : Hid (SlN (wr.alloc (.cells #[.int .i64 (posK i e.ks j)] 3)) (.slice (some ⟨wr.heap.size, 0, none⟩) 1 1) 1 1 ([posK i e.ks j].flatMap intCell)) := (sl_lit wr [.int .i64 (posK i e.ks j)] 3 1 1 1 rfl (Nat.le_refl _))
      have T3 : Hid (w.heap.size ≤ (wr.alloc (.cells #[.int .i64 (posK i e.ks j)] 3)).heap.size) := (Nat.le_trans HSZ.out (al _ _).size)
      have T4 : Hid (j + 1 ≤ maxLen ∧ (j + 1) * 8 ≤ 140737488355328) := by show _ ∧ _; unfold maxLen; constructor <;> omega
      go_wp2_with (first
        | (at_builtin; refine wpl_app rfl _ _ 114 rfl w.heap.size 3 i0 _ 1 8 und_ints hi0 hz0 hz1 hz2 rfl Nat.zero_lt_one (.slice A j cc) j ((posL i e.ks j).flatMap intCell) rfl T1.out (.slice (some ⟨wr.heap.size, 0, none⟩) 1 1) 1 ([posK i e.ks j].flatMap intCell) rfl T2.out (int_one _) T4.out.1 T4.out.2 T3.out ?_; intro v6 w6 hown6 hb6; obtain ⟨A6, c6, rfl⟩ := own_shape hown6; have hB6 := btB (btB HB.out (al wr _) HSZ.out) hb6 (Nat.le_refl _))
        | (go_at_call 87; refine (HEE.out _ hB6).mono ?_; rintro r w' ⟨rfl, rfl⟩))
      go_roundw
      case rel =>
        refine ⟨j + 1, by omega, by go_num, rfl, ⟨A6, c6, rfl⟩, ?_, hB6⟩
        rw [HP.out, List.flatMap_append]
        exact hown6
      case measure => simp [intOf]; omega
    · have hje : j = e.ks.length := by omega
      subst hje
      go_wp2_with fail
      go_ret
      refine ⟨A, cc, rfl, ?_, hb⟩
      have := sl_of_own hown
      show SlN _ _ 1 _ _
      rw [posL_len]
      exact this
end Go.Proofs.YtaoeaaebafcegaaGreatDoor
namespace Go.Proofs.YtaoeaaebafcegaaGreatDoor
open Go Go.RowKit
set_option linter.unusedVariables false
theorem depth_n (l : List Nod) (v : Value) (hl : l.length ≤ 100000) : ∀ (N : Nat) (e : Ex) (i : Nat) (w : World), Nods w v l → e.flat.length ≤ N → e.ok → AtE l i e →
    Calls Tryz.prog 88 #[v, .int .i64 i] w fun r w' => r = .returned (.int .i64 e.deep) ∧ Below w.heap.size w w'
  | 0, e, i, w, h, hN, ho, ha => by have := e.flat_pos; omega
  | N + 1, e, i, w, h, hN, ho, ha => by
    have hil := ha.lt
    have hle := ha.le
    have hd := e.deep_le
    have IH : Hid (∀ j (hj : j < e.ks.length) u, Below w.heap.size w u → Calls Tryz.prog 88 #[v, .int .i64 (posK i e.ks j)] u fun r w' => r = .returned (.int .i64 ((e.ks[j]).deep : Int)) ∧ Below u.heap.size u w') := fun j hj u hu =>
      depth_n l v hl N (e.ks[j]) (posK i e.ks j) u (h.below hu) (by have := AtE.kid_lt j hj; omega) (e.ok_ks ho _ (List.getElem_mem hj)) (ha.kid j hj)
    have HPB : Hid (∀ j (hj : j < e.ks.length), (e.ks[j]).deep ≤ 100000) := fun j hj => by
      have h1 := (e.ks[j]).deep_le; have h2 := AtE.kid_lt j hj; omega
    have HO := Lib.hid (operands_c l v w h hl e i ho ha)
    have HD := Lib.hid e.deep_ks
    have hk2 := e.ks_len
    have hds : e.deep ≤ 100000 := by omega
    obtain ⟨A0, c0, rfl, hc0⟩ := h.shape
    clear h ho ha hd
    go_enter Tryz.func88, Tryz.ntmps88
    go_wp2_with (go_at_call 109; refine (HO.out).mono ?_; rintro r w1 ⟨A, c, rfl, hints, hb1⟩)
    have HIN := Lib.hid hints
    have hcc : e.ks.length ≤ c := by obtain ⟨_, A2, c2, hv, hcc, _⟩ := hints; (simp only [Value.slice.injEq, posL_len] at hv); obtain ⟨_, _, rfl⟩ := hv; rw [posL_len] at hcc; exact hcc
    clear hints
    go_loopw [5, 12] (fun n k wr => ∃ j : Nat, j ≤ e.ks.length ∧ n = .int .i64 (maxK e.ks j : Int) ∧ k = .int .i64 j ∧ Below w1.heap.size w1 wr) (fun _ k _ => 2 - (intOf k).toNat)
    case atStart => exact ⟨0, Nat.zero_le _, rfl, rfl, Below.refl _ _⟩
    case round =>
      obtain ⟨j, hj, rfl, rfl, hb⟩ := hrel
      by_cases hjl : j < e.ks.length
      · have HS := Lib.hid (maxK_succ e.ks j hjl)
        have HI := Lib.hid (IH.out j hjl)
        have hb1' := HPB.out j hjl
        generalize hdd : (e.ks[j]).deep = dd at HS HI hb1'
        clear hdd
        obtain ⟨b2, off2, c2, hV, hc2, hbl2, hat2⟩ := HIN.out.at_ (by rw [posL_len]; omega)
        simp only [posL_len, Value.slice.injEq] at hV
        obtain ⟨rfl, _, rfl⟩ := hV
        have hcell := (hb.cell (p := ⟨b2, off2 + j, none⟩) hbl2).trans (hat2 j (by rw [posL_len]; exact hjl))
        rw [posL_at] at hcell
        have HBW := Lib.hid (bt hb1 hb)
        have HBR := Lib.hid hb
        clear hb hat2 hc2
        have hjl2 : (j : Int) < (e.ks.length : Int) := by omega
        go_wp2_with (go_at_call 88; refine (HI.out _ HBW.out).mono ?_; rintro r w3 ⟨rfl, hb3⟩)
        go_roundw
        case rel =>
          refine ⟨j + 1, by omega, ?_, by go_num, bt HBR.out hb3⟩
          rw [HS.out]
          congr 1
          first | omega | (split <;> omega)
        case measure => simp [intOf]; omega
      · have hje : j = e.ks.length := by omega
        have hds2 : (maxK e.ks e.ks.length : Int) < 100000 := by have := HD.out; omega
        go_wp2_with fail
        go_ret
        exact ⟨ret_int (by rw [HD.out]; go_num), bt hb1 hb⟩
theorem depth_c (e:Ex) (ho:e.ok) (v:Value) (w:World) (h:Nods w v e.flat) (hl:e.flat.length≤100000) :
 Calls Tryz.prog 88 #[v,.int .i64 0] w fun r w'=>r = .returned (.int .i64 e.deep)∧Below w.heap.size w w':=depth_n e.flat v hl _ e 0 w h (Nat.le_refl _) ho (AtE.whole e)
end Go.Proofs.YtaoeaaebafcegaaGreatDoor
namespace Go.Proofs.YtaoeaaebafcegaaGreatDoor
open Go Go.RowKit
set_option linter.unusedVariables false
theorem results_tmp4 {fn:Func} {x y z q:Tmp} (h:fn.results = #[.tmp x,.tmp y,.tmp z,.tmp q]) (tmps:Array Value) (P:Program) (w:World) :
 (results fn tmps).run P w = .ok (.tuple #[tmps.getD x undef,tmps.getD y undef,tmps.getD z undef,tmps.getD q undef]) w:=by
 simp [results,h]
def ParsePost (l:List Tok) (i:Int) (w:World) (e:Ending) (w':World):Prop :=
 ∃ V,e = .returned (.tuple #[V,.int .i64 (parE l i).2.1,.int .i64 (parE l i).2.2.1,.int .i64 (parE l i).2.2.2])∧Nods w' V (parE l i).1∧Below w.heap.size w w'∧Fresh w.heap.size V
theorem parse_ret {l:List Tok} {i:Int} {R:List Nod × Int × Int × Int} (hR:parE l i=R) {w w':World} {V:Value} {a b c:Int} (ha:R.2.1=a) (hb:R.2.2.1=b) (hc:R.2.2.2=c) (hV:Nods w' V R.1) (hB:Below w.heap.size w w') (hF:Fresh w.heap.size V) :
 ParsePost l i w (.returned (.tuple #[V,.int .i64 a,.int .i64 b,.int .i64 c])) w':=by
 subst hR ha hb hc;exact ⟨V,rfl,hV,hB,hF⟩
theorem rParse_c (l : List Tok) (hl : l.length ≤ 100000) (htx : ∀ t ∈ l, t.text.length ≤ 1000000) (v : Value) (i : Int) (w : World) (hv : Toks w v l) :
    Calls Tryz.prog 115 #[v, .int .i64 i] w (ParsePost l i w) := by
  obtain ⟨Av, cv, hve, hcv⟩ := hv.shape
  subst hve
  by_cases hi : i < 0
  · have hR : parE l i = ([], 0, 1, 0) := by unfold parE; rw [if_pos hi]
    have HR := Lib.hid hR
    clear hR hv
    go_enter Tryz.func115, Tryz.ntmps115
    go_wp2_with fail
    refine bodyPost_ret (results_tmp4 rfl _ _ _) rfl ?_
    exact parse_ret HR.out rfl rfl rfl (Sl.nil _ _ _) (Below.refl _ _) (fresh_nil _ _ _)
  · obtain ⟨n, rfl⟩ := Int.eq_ofNat_of_zero_le (show 0 ≤ i by omega)
    have hi0 : decide ((n : Int) < 0) = false := by simp
    have HC := Lib.hid (rparse_c l hl htx _ n w hv)
    have hfw := flR_fwd (prR_fwd l 12) 5
    have hP : parE l n = match flR (prR l 12) l 5 n with
      | .inr (e, p) => ([], 0, e, p)
      | .inl (x, t) => if 12 < x.deep then ([], 0, 7, (tk l n).pos) else if 40 < x.flat.length then ([], 0, 2, (tk l n).pos) else (x.flat, (t : Int), 0, 0) := by
      unfold parE; rw [if_neg (by omega)]; rfl
    cases hr : flR (prR l 12) l 5 n with
    | inr ep =>
      obtain ⟨ey, py⟩ := ep
      rw [hr] at hP HC
      have HP := Lib.hid hP
      have he1 := (hfw.bad _ _ _ hr).1
      have hee : (ey == 0) = false := by rw [beq_eq_false_iff_ne]; omega
      clear hP hfw hr hv
      go_enter Tryz.func115, Tryz.ntmps115
      go_wp2_with (go_at_call 127; refine (HC.out).mono ?_; rintro e w1 ⟨hb1, A1, n1, c1, t1, e1, p1, rfl, hr1⟩; obtain ⟨hA1, rfl, rfl, rfl⟩ := hr1; cases hA1)
      go_quiet (fail)
      go_wp2_with fail
      refine bodyPost_ret (results_tmp4 rfl _ _ _) rfl ?_
      exact parse_ret HP.out rfl rfl rfl (Sl.nil _ _ _) (bdrN (bt hb1 (al _ _)) _) (fresh_nil _ _ _)
    | inl xt =>
      obtain ⟨x, t⟩ := xt
      rw [hr] at hP HC
      have HP := Lib.hid hP
      have hg := hfw.good _ _ _ hr
      obtain ⟨hg1, hg2, hg3, hg4⟩ := hg
      have HOK : Hid (x.ok) := hg4
      have HLX : Hid (x.flat.length ≤ 100000) := by show _ ≤ _; omega
      have hnl : n < l.length := by omega
      have hn0 : (0 : Int) ≤ (n : Int) := Int.natCast_nonneg _
      have hn1 : (n : Int) < (l.length : Int) := by omega
      obtain ⟨bt0, offt, ct, hE, hct, hbt, hatt⟩ := hv.at_ (by omega)
      cases hE
      have hps := (hatt n hnl).pos
      rw [← tk_at hnl] at hps
      clear hatt hct hfw hr hv
      by_cases h12 : 12 < x.deep
      · have hP2 : parE l n = ([], 0, 7, (tk l n).pos) := by rw [hP]; exact if_pos h12
        have HP2 := Lib.hid hP2
        have hd12 : decide ((12 : Int) < (x.deep : Int)) = true := by simp; omega
        clear hP hP2
        generalize (tk l n).pos = ps at hps HP2
        go_enter Tryz.func115, Tryz.ntmps115
        go_wp2_with (first
          | (go_at_call 127; refine (HC.out).mono ?_; rintro e w1 ⟨hb1, A1, n1, c1, t1, e1, p1, rfl, hr1⟩; obtain ⟨rfl, rfl, rfl, hnx, hfx⟩ := hr1; obtain ⟨A2, c2, hV2, hcc2⟩ := hnx.shape; (simp only [Value.slice.injEq] at hV2); obtain ⟨hA2, hn2, hc2⟩ := hV2; subst hA2 hc2 hn2; have hNX := Lib.hid (hnx.below (al w1 (.cells #[.slice A1 x.flat.length c1, .int .i64 t, .int .i64 0, .int .i64 0] 128))); have hps1 := (hb1.cell (p := ⟨bt0, offt + n * 4 + 3, none⟩) hbt).trans hps; have hbt1 := Nat.lt_of_lt_of_le hbt hb1.size)
          | (go_at_call 91; refine (rdeep_c x HOK.out (.slice A1 x.flat.length c1) (w1.alloc (.cells #[.slice A1 x.flat.length c1, .int .i64 t, .int .i64 0, .int .i64 0] 128)) hNX.out HLX.out).mono ?_; rintro r w' ⟨rfl, rfl⟩))
        go_quiet (fail)
        go_wp2_with fail
        refine bodyPost_ret (results_tmp4 rfl _ _ _) rfl ?_
        exact parse_ret HP2.out rfl rfl rfl (Sl.nil _ _ _) (bdrN (bt hb1 (al _ _)) _) (fresh_nil _ _ _)
      · have hd12 : decide ((12 : Int) < (x.deep : Int)) = false := by simp; omega
        by_cases h40 : 40 < x.flat.length
        · have hP2 : parE l n = ([], 0, 2, (tk l n).pos) := by rw [hP]; exact (if_neg h12).trans (if_pos h40)
          have HP2 := Lib.hid hP2
          have hd40 : decide ((40 : Int) < (x.flat.length : Int)) = true := by simp; omega
          clear hP hP2
          generalize (tk l n).pos = ps at hps HP2
          go_enter Tryz.func115, Tryz.ntmps115
          go_wp2_with (first
            | (go_at_call 127; refine (HC.out).mono ?_; rintro e w1 ⟨hb1, A1, n1, c1, t1, e1, p1, rfl, hr1⟩; obtain ⟨rfl, rfl, rfl, hnx, hfx⟩ := hr1; obtain ⟨A2, c2, hV2, hcc2⟩ := hnx.shape; (simp only [Value.slice.injEq] at hV2); obtain ⟨hA2, hn2, hc2⟩ := hV2; subst hA2 hc2 hn2; have hNX := Lib.hid (hnx.below (al w1 (.cells #[.slice A1 x.flat.length c1, .int .i64 t, .int .i64 0, .int .i64 0] 128))); have hps1 := (hb1.cell (p := ⟨bt0, offt + n * 4 + 3, none⟩) hbt).trans hps; have hbt1 := Nat.lt_of_lt_of_le hbt hb1.size)
            | (go_at_call 91; refine (rdeep_c x HOK.out (.slice A1 x.flat.length c1) (w1.alloc (.cells #[.slice A1 x.flat.length c1, .int .i64 t, .int .i64 0, .int .i64 0] 128)) hNX.out HLX.out).mono ?_; rintro r w' ⟨rfl, rfl⟩))
          go_quiet (fail)
          go_wp2_with fail
          refine bodyPost_ret (results_tmp4 rfl _ _ _) rfl ?_
          exact parse_ret HP2.out rfl rfl rfl (Sl.nil _ _ _) (bdrN (bt hb1 (al _ _)) _) (fresh_nil _ _ _)
        · have hP2 : parE l n = (x.flat, (t : Int), 0, 0) := by rw [hP]; exact (if_neg h12).trans (if_neg h40)
          have HP2 := Lib.hid hP2
          have hd40 : decide ((40 : Int) < (x.flat.length : Int)) = false := by simp; omega
          clear hP hP2
          go_enter Tryz.func115, Tryz.ntmps115
          go_wp2_with (first
            | (go_at_call 127; refine (HC.out).mono ?_; rintro e w1 ⟨hb1, A1, n1, c1, t1, e1, p1, rfl, hr1⟩; obtain ⟨rfl, rfl, rfl, hnx, hfx⟩ := hr1; obtain ⟨A2, c2, hV2, hcc2⟩ := hnx.shape; (simp only [Value.slice.injEq] at hV2); obtain ⟨hA2, hn2, hc2⟩ := hV2; subst hA2 hc2 hn2; have hNX := Lib.hid (hnx.below (al w1 (.cells #[.slice A1 x.flat.length c1, .int .i64 t, .int .i64 0, .int .i64 0] 128))); have hps1 := (hb1.cell (p := ⟨bt0, offt + n * 4 + 3, none⟩) hbt).trans hps; have hbt1 := Nat.lt_of_lt_of_le hbt hb1.size)
            | (go_at_call 91; refine (rdeep_c x HOK.out (.slice A1 x.flat.length c1) (w1.alloc (.cells #[.slice A1 x.flat.length c1, .int .i64 t, .int .i64 0, .int .i64 0] 128)) hNX.out HLX.out).mono ?_; rintro r w' ⟨rfl, rfl⟩))
          go_quiet (fail)
          go_wp2_with fail
          refine bodyPost_ret (results_tmp4 rfl _ _ _) rfl ?_
          exact parse_ret HP2.out rfl rfl rfl (hNX.out.below (bdrN (Below.refl _ _) _)) (bdrN (bt hb1 (al _ _)) _) hfx
end Go.Proofs.YtaoeaaebafcegaaGreatDoor
namespace Go.Proofs.YtaoeaaebafcegaaGreatDoor
open Go Go.RowKit
set_option linter.unusedVariables false
def ParsePostO (l:List Tok) (i:Int) (w:World) (e:Ending) (w':World):Prop :=
 ∃ V,e = .returned (.tuple #[V,.int .i64 (parE l i).2.1,.int .i64 (parE l i).2.2.1,.int .i64 (parE l i).2.2.2])∧Nods w' V (parE l i).1∧Below w.heap.size w w'∧Fresh w.heap.size V∧Unf w' V
theorem parse_retO {l:List Tok} {i:Int} {R:List Nod × Int × Int × Int} (hR:parE l i=R) {w w':World} {V:Value} {a b c:Int} (ha:R.2.1=a) (hb:R.2.2.1=b) (hc:R.2.2.2=c) (hV:Nods w' V R.1) (hB:Below w.heap.size w w') (hF:Fresh w.heap.size V) (hU:Unf w' V) :
 ParsePostO l i w (.returned (.tuple #[V,.int .i64 a,.int .i64 b,.int .i64 c])) w':=by
 subst hR ha hb hc;exact ⟨V,rfl,hV,hB,hF,hU⟩
theorem par_new (w:World) (v:Value) (i:Int) (t:TypeId):Par (w.alloc (.cells #[v,.int .i64 i,.int .i64 0,.int .i64 0,.int .i64 0] t)) w.heap.size v i 0 0 0:=by
 refine ⟨by rw [World.size_alloc];omega,cells_new _ _ _ _ _ rfl,cells_new _ _ _ _ _ rfl,cells_new _ _ _ _ _ rfl,cells_new _ _ _ _ _ rfl,cells_new _ _ _ _ _ rfl,?_,?_,?_,?_⟩ <;> simp
theorem ParseO_c (l : List Tok) (hl : l.length ≤ 100000) (htx : ∀ t ∈ l, t.text.length ≤ 1000000) (v : Value) (i : Int) (w : World) (hv : Toks w v l) (hE : Env w) :
    Calls Tryz.prog 117 #[v, .int .i64 i] w (ParsePostO l i w) := by
  obtain ⟨Av, cv, hve, hcv⟩ := hv.shape
  subst hve
  by_cases hi : i < 0
  · have hR : parE l i = ([], 0, 1, 0) := by unfold parE; rw [if_pos hi]
    have HR := Lib.hid hR
    clear hR hv hE
    go_enter Tryz.func117, Tryz.ntmps117
    go_wp2_with fail
    refine bodyPost_ret (results_tmp4 rfl _ _ _) rfl ?_
    exact parse_retO HR.out rfl rfl rfl (Sl.nil _ _ _) (Below.refl _ _) (fresh_nil _ _ _) (Unf.nil _ _ _)
  · obtain ⟨n, rfl⟩ := Int.eq_ofNat_of_zero_le (show 0 ≤ i by omega)
    have hi0 : decide ((n : Int) < 0) = false := by simp
    have hcx : Ctx w.heap.size (.slice Av l.length cv) l (w.alloc (.cells #[.slice Av l.length cv, .int .i64 n, .int .i64 0, .int .i64 0, .int .i64 0] 132)) := ⟨Sl.below hv (al _ _), hE.below (al _ _), hE.hm, hE.ht⟩
    have HC := Lib.hid (parse0_c l hl htx w.heap.size _ n _ (par_new w (.slice Av l.length cv) n 132) hcx)
    have hfw := flR_fwd (prR_fwd l 12) 5
    have hP : parE l n = match flR (prR l 12) l 5 n with
      | .inr (e, p) => ([], 0, e, p)
      | .inl (x, t) => if 12 < x.deep then ([], 0, 7, (tk l n).pos) else if 40 < x.flat.length then ([], 0, 2, (tk l n).pos) else (x.flat, (t : Int), 0, 0) := by
      unfold parE; rw [if_neg (by omega)]; rfl
    clear hcx hE
    cases hr : flR (prR l 12) l 5 n with
    | inr ep =>
      obtain ⟨ey, py⟩ := ep
      rw [hr] at hP HC
      have HP := Lib.hid hP
      have he1 := (hfw.bad _ _ _ hr).1
      have hee : (ey == 0) = false := by rw [beq_eq_false_iff_ne]; omega
      clear hP hfw hr hv
      go_enter Tryz.func117, Tryz.ntmps117
      go_wp2_with (go_at_call 128; refine (HC.out).mono ?_; rintro e w1 ⟨hk1, A1, n1, c1, a1, e1, p1', rfl, hp1, hf1, hv1⟩; obtain ⟨rfl, rfl, ha1, hb1, gl, hgl, hgll⟩ := hv1; have hB1 := (al w _).trans (hk1.below (Nat.le_of_lt (by rw [World.size_alloc]; omega))); have HP1 := Lib.hid hp1; obtain ⟨pl, p0, p1, p2, p3, p4, _, _, _, _⟩ := hp1)
      go_quiet (fail)
      go_wp2_with fail
      refine bodyPost_ret (results_tmp4 rfl _ _ _) rfl ?_
      exact parse_retO HP.out rfl rfl rfl (Sl.nil _ _ _) (bdrN hB1 _) (fresh_nil _ _ _) (Unf.nil _ _ _)
    | inl xt =>
      obtain ⟨x, t⟩ := xt
      rw [hr] at hP HC
      have hg := hfw.good _ _ _ hr
      obtain ⟨hg1, hg2, hg3, hg4⟩ := hg
      have HOK : Hid (x.ok) := hg4
      have HLX : Hid (x.flat.length ≤ 100000) := by show _ ≤ _; omega
      have hnl : n < l.length := by omega
      have hn0 : (0 : Int) ≤ (n : Int) := Int.natCast_nonneg _
      have hn1 : (n : Int) < (l.length : Int) := by omega
      obtain ⟨bt0, offt, ct, hE, hct, hbt, hatt⟩ := hv.at_ (by omega)
      cases hE
      have hps := (hatt n hnl).pos
      rw [← tk_at hnl] at hps
      clear hatt hct hfw hr hv
      by_cases h12 : 12 < x.deep
      · have hP2 : parE l n = ([], 0, 7, (tk l n).pos) := by rw [hP]; exact if_pos h12
        have HP2 := Lib.hid hP2
        have hd12 : decide ((12 : Int) < (x.deep : Int)) = true := by simp; omega
        clear hP hP2
        generalize (tk l n).pos = ps at hps HP2
        go_enter Tryz.func117, Tryz.ntmps117
        go_wp2_with (first
          | (go_at_call 128; refine (HC.out).mono ?_; rintro e w1 ⟨hk1, A1, n1, c1, a1, e1, p1', rfl, hp1, hf1, hv1⟩; obtain ⟨rfl, rfl, rfl, hnx⟩ := hv1; obtain ⟨A2, c2, hV2, hcc2⟩ := hnx.shape; (simp only [Value.slice.injEq] at hV2); obtain ⟨hA2, hn2, hc2⟩ := hV2; subst hA2 hc2 hn2; have hNX := Lib.hid hnx; have HF1 := Lib.hid hf1; have hB1 := (al w _).trans (hk1.below (Nat.le_of_lt (by rw [World.size_alloc]; omega))); have HP1 := Lib.hid hp1; obtain ⟨pl, p0, p1, p2, p3, p4, _, _, _, _⟩ := hp1)
          | (go_at_call 88; refine (depth_c x HOK.out (.slice A1 x.flat.length c1) w1 hNX.out.nods HLX.out).mono ?_; rintro r w3 ⟨rfl, hb3⟩; have hps3 := ((hB1.trans (hb3.mono hB1.size)).cell (p := ⟨bt0, offt + n * 4 + 3, none⟩) hbt).trans hps; have hHP3 := HP1.out.below hb3; obtain ⟨rl, r0, r1, r2, r3, r4, _, _, _, _⟩ := hHP3))
        go_quiet (fail)
        go_wp2_with fail
        refine bodyPost_ret (results_tmp4 rfl _ _ _) rfl ?_
        exact parse_retO HP2.out rfl rfl rfl (Sl.nil _ _ _) (bdrN (hB1.trans (hb3.mono hB1.size)) _) (fresh_nil _ _ _) (Unf.nil _ _ _)
      · have hd12 : decide ((12 : Int) < (x.deep : Int)) = false := by simp; omega
        by_cases h40 : 40 < x.flat.length
        · have hP2 : parE l n = ([], 0, 2, (tk l n).pos) := by rw [hP]; exact (if_neg h12).trans (if_pos h40)
          have HP2 := Lib.hid hP2
          have hd40 : decide ((40 : Int) < (x.flat.length : Int)) = true := by simp; omega
          clear hP hP2
          generalize (tk l n).pos = ps at hps HP2
          go_enter Tryz.func117, Tryz.ntmps117
          go_wp2_with (first
            | (go_at_call 128; refine (HC.out).mono ?_; rintro e w1 ⟨hk1, A1, n1, c1, a1, e1, p1', rfl, hp1, hf1, hv1⟩; obtain ⟨rfl, rfl, rfl, hnx⟩ := hv1; obtain ⟨A2, c2, hV2, hcc2⟩ := hnx.shape; (simp only [Value.slice.injEq] at hV2); obtain ⟨hA2, hn2, hc2⟩ := hV2; subst hA2 hc2 hn2; have hNX := Lib.hid hnx; have HF1 := Lib.hid hf1; have hB1 := (al w _).trans (hk1.below (Nat.le_of_lt (by rw [World.size_alloc]; omega))); have HP1 := Lib.hid hp1; obtain ⟨pl, p0, p1, p2, p3, p4, _, _, _, _⟩ := hp1)
            | (go_at_call 88; refine (depth_c x HOK.out (.slice A1 x.flat.length c1) w1 hNX.out.nods HLX.out).mono ?_; rintro r w3 ⟨rfl, hb3⟩; have hps3 := ((hB1.trans (hb3.mono hB1.size)).cell (p := ⟨bt0, offt + n * 4 + 3, none⟩) hbt).trans hps; have hHP3 := HP1.out.below hb3; obtain ⟨rl, r0, r1, r2, r3, r4, _, _, _, _⟩ := hHP3))
          go_quiet (fail)
          go_wp2_with fail
          refine bodyPost_ret (results_tmp4 rfl _ _ _) rfl ?_
          exact parse_retO HP2.out rfl rfl rfl (Sl.nil _ _ _) (bdrN (hB1.trans (hb3.mono hB1.size)) _) (fresh_nil _ _ _) (Unf.nil _ _ _)
        · have hP2 : parE l n = (x.flat, (t : Int), 0, 0) := by rw [hP]; exact (if_neg h12).trans (if_neg h40)
          have HP2 := Lib.hid hP2
          have hd40 : decide ((40 : Int) < (x.flat.length : Int)) = false := by simp; omega
          clear hP hP2
          go_enter Tryz.func117, Tryz.ntmps117
          go_wp2_with (first
            | (go_at_call 128; refine (HC.out).mono ?_; rintro e w1 ⟨hk1, A1, n1, c1, a1, e1, p1', rfl, hp1, hf1, hv1⟩; obtain ⟨rfl, rfl, rfl, hnx⟩ := hv1; obtain ⟨A2, c2, hV2, hcc2⟩ := hnx.shape; (simp only [Value.slice.injEq] at hV2); obtain ⟨hA2, hn2, hc2⟩ := hV2; subst hA2 hc2 hn2; have hNX := Lib.hid hnx; have HF1 := Lib.hid hf1; have hB1 := (al w _).trans (hk1.below (Nat.le_of_lt (by rw [World.size_alloc]; omega))); have HP1 := Lib.hid hp1; obtain ⟨pl, p0, p1, p2, p3, p4, _, _, _, _⟩ := hp1)
            | (go_at_call 88; refine (depth_c x HOK.out (.slice A1 x.flat.length c1) w1 hNX.out.nods HLX.out).mono ?_; rintro r w3 ⟨rfl, hb3⟩; have hps3 := ((hB1.trans (hb3.mono hB1.size)).cell (p := ⟨bt0, offt + n * 4 + 3, none⟩) hbt).trans hps; have hHP3 := HP1.out.below hb3; obtain ⟨rl, r0, r1, r2, r3, r4, _, _, _, _⟩ := hHP3))
          go_quiet (fail)
          go_wp2_with fail
          refine bodyPost_ret (results_tmp4 rfl _ _ _) rfl ?_
          exact parse_retO HP2.out rfl rfl rfl (SlN.below (SlN.below hNX.out.nods hb3) (bdrN (Below.refl _ _) _)) (bdrN (hB1.trans (hb3.mono hB1.size)) _) (HF1.out.mono (by rw [World.size_alloc]; omega)) ((hNX.out.unf.below hb3).below (bdrN (Below.refl _ _) _))
end Go.Proofs.YtaoeaaebafcegaaGreatDoor
namespace Go.Proofs.YtaoeaaebafcegaaGreatDoor
open Go Go.RowKit
set_option linter.unusedVariables false
theorem tokens_c (s:ByteArray) (hs:s.size≤1000000) (w:World) :
 Calls Tryz.prog 10 #[.string s] w fun e w'=>∃ v,e = .returned v∧Toks w' v (scanE s.data.toList).1∧Below w.heap.size w w':=by
 have HS:=Lib.hid (scan_c s hs w)
 go_enter Tryz.func10,Tryz.ntmps10
 go_wp2_with (go_at_call 25;refine (HS.out).mono ?_;rintro e w1 ⟨v,rfl,hv,hb⟩)
 go_ret
 exact ⟨v,rfl,hv,hb⟩
end Go.Proofs.YtaoeaaebafcegaaGreatDoor
namespace Go.Proofs.YtaoeaaebafcegaaGreatDoor
open Go Go.RowKit
set_option linter.unusedVariables false
def nodS (pl:Bool) (x y:Nod):Bool:=!((x.op != y.op) || (x.n != y.n) || (x.name != y.name) || (pl && (x.pos != y.pos)))
def sameE (pl : Bool) : List Nod → List Nod → Bool
  | [], [] => true
  | x :: a, y :: b => nodS pl x y && sameE pl a b
  | _, _ => false
theorem sameE_len {pl:Bool}:∀ {a b:List Nod},a.length≠b.length→sameE pl a b=false
 | [],[],h=>absurd rfl h
 | [],_ :: _,_=>rfl
 | _ :: _,[],_=>rfl
 | x :: a,y :: b,h=>by
   unfold sameE
   rw [sameE_len (a:=a) (b:=b) (by simpa using h)]
   simp
theorem sameE_yes {pl : Bool} : ∀ {a b : List Nod} (h : a.length = b.length), (∀ i (hi : i < a.length), nodS pl a[i] (b[i]'(by omega)) = true) → sameE pl a b = true
  | [], [], _, _ => rfl
  | x :: a, y :: b, h, hall => by
    unfold sameE
    have h0 := hall 0 (by simp)
    have h1 := sameE_yes (pl := pl) (a := a) (b := b) (by simpa using h) (fun i hi => by have := hall (i + 1) (by simp; omega); simpa using this)
    simp only [List.getElem_cons_zero] at h0
    rw [h0, h1]; rfl
theorem sameE_no {pl : Bool} : ∀ {a b : List Nod} (h : a.length = b.length) (i : Nat) (hi : i < a.length), nodS pl a[i] (b[i]'(by omega)) = false → sameE pl a b = false
  | x :: a, y :: b, h, 0, _, h0 => by
    unfold sameE
    simp only [List.getElem_cons_zero] at h0
    rw [h0]; rfl
  | x :: a, y :: b, h, i + 1, hi, h0 => by
    unfold sameE
    rw [sameE_no (a := a) (b := b) (by simpa using h) i (by simpa using hi) (by simpa using h0)]
    simp
end Go.Proofs.YtaoeaaebafcegaaGreatDoor
namespace Go.Proofs.YtaoeaaebafcegaaGreatDoor
open Go Go.RowKit
set_option linter.unusedVariables false
end Go.Proofs.YtaoeaaebafcegaaGreatDoor
